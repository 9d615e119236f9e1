/- Proved here, one behind the other: Proved here: the contract of the document's Read: the number of bytes; Proved here: the contracts of the document's own functions (Over, Sum): what each answers, and that it leaves the world alone; Proved here: the contract of the document's Right of a frame; Under way: the contract of the reference's Read of a sector; Proved here: the walk of the law on any sectors; Proved here: rows of sectors, as they come in. -/
import Derived.Deep.QuietTactic
import Derived.BigQuiet
import Derived.Deep.Cut
import Derived.Deep.CutRange
import Derived.IntWalk
import Derived.LoopTactic
import Derived.Test.YtjnneoejnpephaaBa
import Derived.Test.YtjnneoejnpephaaBc
import Derived.Test.YtjnneoejnpephaaBn
import Derived.Test.YtjnneoejnpephaaBs
import Derived.Test.YtjnneoejnpephaaBt
import Derived.Test.YtjnneoejnpephaaBk
namespace Go.Proofs.Ytjnneoejnpephaa
open Go.RowKit Go.Rv
set_option linter.unusedVariables false
set_option maxRecDepth 100000 in
set_option maxHeartbeats 400000 in
theorem rread_any (a : Option Addr) (l : List Nat) (cap : Nat) (w : World) (hb : Bytes w a l) (hlen : l.length ≤ 7) :
    Calls Try.prog 67 #[.slice a l.length cap] w fun e w' => e = .returned (.int .i64 (Cod.rd l : Nat)) ∧ w = w' := by
  go_enter Try.func67, Try.ntmps67
  go_wp2
  go_loop [3, 4] (fun v i => ∃ k : Nat, k ≤ l.length ∧ i = .int .i64 ((k : Int) - 1) ∧ v = .int .i64 (Cod.rd (l.drop k) : Nat)) (fun _ i => (intOf i + 1).toNat)
  case atStart => exact ⟨l.length, by omega, rfl, by simp [Cod.rd]⟩
  case round =>
    obtain ⟨k, hk, rfl, rfl⟩ := hrel
    by_cases hlt : 0 < k
    · obtain ⟨j, rfl⟩ : ∃ j, k = j + 1 := ⟨k - 1, by omega⟩
      obtain ⟨b1, o1, c, rfl, hbl, hc, hc8, hlk⟩ := hb.at (show j < l.length by omega)
      have hs := Lib.hid (Cod.rd_drop l j c hlk)
      have hlt := Cod.rd_drop_lt l hb.1 (j + 1)
      have hpw := (Cod.pow_le (l.length - (j + 1)) (by omega)).1
      have hpw6 := Cod.pw_le6 (l.length - (j + 1)) (by omega)
      unfold Cod.pw at hpw6
      have hx : Cod.rd (l.drop (j + 1)) < 281474976710656 := Nat.lt_of_lt_of_le hlt hpw6
      clear hlt hpw hpw6 hlk
      generalize Cod.rd (l.drop (j + 1)) = x at *
      have e1 : ((j + 1 : Nat) : Int) - 1 = (j : Int) := by omega
      rw [e1]
      go_wp2
      go_round
      case rel => exact ⟨j, by omega, rfl, by rw [hs.out]; go_num⟩
      case measure => simp [intOf]
    · obtain rfl : k = 0 := by omega
      go_wp2
      go_ret
      exact ⟨by simp, rfl⟩
end Go.Proofs.Ytjnneoejnpephaa
namespace Go.Proofs.Ytjnneoejnpephaa
open Go.RowKit Go.Rv
set_option linter.unusedVariables false
theorem xorG2 (a : Nat) (ha : a < 2 ^ 32) : bits .xor .u32 ((a : Int) / 2) 2197175160 = (((a / 2) ^^^ Crc.G : Nat) : Int) := xorG a ha
theorem xor_rc (r c : Nat) (hr : r < 2 ^ 32) (hc : c < 256) : bits .xor .u32 (r : Int) (c : Int) = ((r ^^^ c : Nat) : Int) :=
  u32_xor_nat r c (by simpa using hr) (by omega)
set_option maxRecDepth 100000 in
set_option maxHeartbeats 400000 in
theorem rstep_any (r c : Nat) (hr : r < 2 ^ 32) (hc : c < 256) (w : World) :
    Calls Try.prog 109 #[.int .u32 r, .int .u8 c] w fun e w' => e = .returned (.int .u32 (Crc.step r c : Nat)) ∧ w = w' := by
  have ex := xor_rc r c hr hc
  have hq : r ^^^ c < 2 ^ 32 := Nat.xor_lt_two_pow hr (by omega)
  have hst : Crc.step r c = Crc.hn 8 (r ^^^ c) := rfl
  rw [hst]
  clear hst
  generalize r ^^^ c = q at *
  go_enter Try.func109, Try.ntmps109
  go_wp2
  go_loop [0, 5] (fun t i => ∃ m : Nat, m ≤ 8 ∧ i = .int .i64 m ∧ t = .int .u32 (Crc.hn m q : Nat)) (fun _ i => 8 - (intOf i).toNat)
  case atStart => exact ⟨0, by omega, rfl, rfl⟩
  case round =>
    obtain ⟨m, hm, rfl, rfl⟩ := hrel
    have hl := Crc.hn_lt m hq
    by_cases hm8 : m < 8
    · have hs : Hid (Crc.hn (m + 1) q = if Crc.hn m q % 2 = 1 then (Crc.hn m q / 2) ^^^ Crc.G else Crc.hn m q / 2) := by
        show Crc.hn (m + 1) q = _
        rw [Crc.hn_add]; rfl
      by_cases h1 : Crc.hn m q % 2 = 1
      · have e2 := xorG _ hl
        have e1 : (((Crc.hn m q : Nat) : Int) % 2 == 1) = true := by simp; omega
        have h1' := Lib.hid h1
        clear h1
        go_wp2
        go_round
        case rel => exact ⟨m + 1, by omega, by go_num, by rw [hs.out, if_pos h1'.out]⟩
        case measure => simp [intOf]; omega
      · have e1 : (((Crc.hn m q : Nat) : Int) % 2 == 1) = false := by simp; omega
        go_wp2
        go_round
        case rel => exact ⟨m + 1, by omega, by go_num, by rw [hs.out, if_neg h1]; rfl⟩
        case measure => simp [intOf]; omega
    · obtain rfl : m = 8 := by omega
      go_wp2
      go_ret
      exact ⟨rfl, rfl⟩
set_option maxRecDepth 100000 in
set_option maxHeartbeats 400000 in
theorem rover_any (r : Nat) (a : Option Addr) (l : List Nat) (cap : Nat) (hr : r < 2 ^ 32) (w : World) (hb : Bytes w a l) (hlen : l.length ≤ 9223372036854775807) :
    Calls Try.prog 88 #[.int .u32 r, .slice a l.length cap] w fun e w' => e = .returned (.int .u32 (Crc.over r l : Nat)) ∧ w = w' := by
  go_enter Try.func88, Try.ntmps88
  go_wp2
  go_loop [0, 5] (fun q i => ∃ k : Nat, k ≤ l.length ∧ i = .int .i64 k ∧ q = .int .u32 (Crc.over r (l.take k) : Nat)) (fun _ i => l.length - (intOf i).toNat)
  case atStart => exact ⟨0, by omega, rfl, rfl⟩
  case round =>
    obtain ⟨k, hk, rfl, rfl⟩ := hrel
    by_cases hlt : k < l.length
    · obtain ⟨b, o, c, rfl, hbl, hc, hc8, hlk⟩ := hb.at hlt
      have hs := Lib.hid (over_take_succ r l k c hlk)
      have hl32 := over_take_lt hr hb.1 k
      clear hlk
      generalize Crc.over r (l.take k) = q at *
      go_wp2_with (first | (go_at_call 109; refine (rstep_any _ _ hl32 hc8 _).mono ?_; rintro e w1 ⟨rfl, rfl⟩))
      go_round
      case rel => exact ⟨k + 1, by omega, by go_num, by rw [hs.out]⟩
      case measure => simp [intOf]; omega
    · obtain rfl : k = l.length := by omega
      go_wp2
      go_ret
      exact ⟨by first | rfl | (rw [List.take_length]; rfl), rfl⟩
theorem sub_ones_i (x : Nat) (hx : x < 2 ^ 32) : (4294967295 : Int) - (x : Int) = ((x ^^^ Crc.ones : Nat) : Int) := by
  rw [← Crc.sub_ones hx]
  unfold Crc.ones
  omega
set_option maxRecDepth 100000 in
set_option maxHeartbeats 400000 in
theorem rsum_any (a : Option Addr) (l : List Nat) (cap : Nat) (w : World) (hb : Bytes w a l) (hlen : l.length ≤ 9223372036854775807) :
    Calls Try.prog 68 #[.slice a l.length cap] w fun e w' => e = .returned (.int .u32 (Crc.sum l : Nat)) ∧ w = w' := by
  have ho : Crc.over Crc.ones l < 2 ^ 32 := Crc.over_lt Crc.ones_lt hb.1
  have hx := sub_ones_i (Crc.over Crc.ones l) ho
  have hs : Crc.sum l = Crc.over Crc.ones l ^^^ Crc.ones := rfl
  rw [← hs] at hx
  have HX := Lib.hid hx
  clear hs hx
  have hc := fun w0 h0 => rover_any 4294967295 a l cap (by omega) w0 h0 hlen
  rw [show Crc.over 4294967295 l = Crc.over Crc.ones l from rfl] at hc
  generalize Crc.over Crc.ones l = q at *
  have HC := Lib.hid hc
  clear hc
  go_enter Try.func68, Try.ntmps68
  go_wp2_with (go_at_call 88; refine (HC.out _ hb).mono ?_; rintro e w1 ⟨rfl, rfl⟩)
  go_ret
  refine ⟨?_, rfl⟩
  rw [← HX.out]
  rfl
end Go.Proofs.Ytjnneoejnpephaa
namespace Go.Proofs.Ytjnneoejnpephaa
open Go.RowKit Go.Rv Frm
set_option linter.unusedVariables false
set_option maxRecDepth 100000 in
set_option maxHeartbeats 4000000 in
theorem rfright_at (k z o e s : Int) (C : Array Value) (d : Bool) (hd : d = decide (1 ≤ k ∧ k ≤ 5 ∧ 0 ≤ z ∧ z ≤ 65535 ∧ 0 ≤ o ∧ o ≤ 65535 ∧ 1 ≤ e ∧ e ≤ 4294967295 ∧ 0 ≤ s ∧ s ≤ 281474976710655)) (w : World)
    (c0 : (w.alloc (.cells C 65)).cell? ⟨w.heap.size, 0, none⟩ = some (.int .i64 k)) (c1 : (w.alloc (.cells C 65)).cell? ⟨w.heap.size, 1, none⟩ = some (.int .i64 z)) (c2 : (w.alloc (.cells C 65)).cell? ⟨w.heap.size, 2, none⟩ = some (.int .i64 o)) (c3 : (w.alloc (.cells C 65)).cell? ⟨w.heap.size, 3, none⟩ = some (.int .i64 e)) (c4 : (w.alloc (.cells C 65)).cell? ⟨w.heap.size, 4, none⟩ = some (.int .i64 s)) :
    Calls Try.prog 69 #[.agg C] w fun e w' => e = .returned (.bool d) ∧ Below w.heap.size w w' := by
  have hB : Below w.heap.size w (w.alloc (.cells C 65)) := (Below.refl _ _).alloc (Nat.le_refl _) _
  by_cases h0 : 1 ≤ k
  case neg =>
    have HD : Hid (d = false) := by rw [hd]; exact decide_eq_false (by rintro ⟨a0, a1, a2, a3, a4, a5, a6, a7, a8, a9⟩; exact h0 a0)
    have t0 : decide (1 ≤ k) = false := decide_eq_false h0
    clear hd h0
    go_enter Try.func69, Try.ntmps69
    go_wp2
    go_ret
    exact ⟨by rw [HD.out]; rfl, hB⟩
  by_cases h1 : k ≤ 5
  case neg =>
    have HD : Hid (d = false) := by rw [hd]; exact decide_eq_false (by rintro ⟨a0, a1, a2, a3, a4, a5, a6, a7, a8, a9⟩; exact h1 a1)
    have t0 : decide (1 ≤ k) = true := decide_eq_true h0
    have t1 : decide (k ≤ 5) = false := decide_eq_false h1
    clear hd h0 h1
    go_enter Try.func69, Try.ntmps69
    go_wp2
    go_ret
    exact ⟨by rw [HD.out]; rfl, hB⟩
  by_cases h2 : 0 ≤ z
  case neg =>
    have HD : Hid (d = false) := by rw [hd]; exact decide_eq_false (by rintro ⟨a0, a1, a2, a3, a4, a5, a6, a7, a8, a9⟩; exact h2 a2)
    have t0 : decide (1 ≤ k) = true := decide_eq_true h0
    have t1 : decide (k ≤ 5) = true := decide_eq_true h1
    have t2 : decide (0 ≤ z) = false := decide_eq_false h2
    clear hd h0 h1 h2
    go_enter Try.func69, Try.ntmps69
    go_wp2
    go_ret
    exact ⟨by rw [HD.out]; rfl, hB⟩
  by_cases h3 : z ≤ 65535
  case neg =>
    have HD : Hid (d = false) := by rw [hd]; exact decide_eq_false (by rintro ⟨a0, a1, a2, a3, a4, a5, a6, a7, a8, a9⟩; exact h3 a3)
    have t0 : decide (1 ≤ k) = true := decide_eq_true h0
    have t1 : decide (k ≤ 5) = true := decide_eq_true h1
    have t2 : decide (0 ≤ z) = true := decide_eq_true h2
    have t3 : decide (z ≤ 65535) = false := decide_eq_false h3
    clear hd h0 h1 h2 h3
    go_enter Try.func69, Try.ntmps69
    go_wp2
    go_ret
    exact ⟨by rw [HD.out]; rfl, hB⟩
  by_cases h4 : 0 ≤ o
  case neg =>
    have HD : Hid (d = false) := by rw [hd]; exact decide_eq_false (by rintro ⟨a0, a1, a2, a3, a4, a5, a6, a7, a8, a9⟩; exact h4 a4)
    have t0 : decide (1 ≤ k) = true := decide_eq_true h0
    have t1 : decide (k ≤ 5) = true := decide_eq_true h1
    have t2 : decide (0 ≤ z) = true := decide_eq_true h2
    have t3 : decide (z ≤ 65535) = true := decide_eq_true h3
    have t4 : decide (0 ≤ o) = false := decide_eq_false h4
    clear hd h0 h1 h2 h3 h4
    go_enter Try.func69, Try.ntmps69
    go_wp2
    go_ret
    exact ⟨by rw [HD.out]; rfl, hB⟩
  by_cases h5 : o ≤ 65535
  case neg =>
    have HD : Hid (d = false) := by rw [hd]; exact decide_eq_false (by rintro ⟨a0, a1, a2, a3, a4, a5, a6, a7, a8, a9⟩; exact h5 a5)
    have t0 : decide (1 ≤ k) = true := decide_eq_true h0
    have t1 : decide (k ≤ 5) = true := decide_eq_true h1
    have t2 : decide (0 ≤ z) = true := decide_eq_true h2
    have t3 : decide (z ≤ 65535) = true := decide_eq_true h3
    have t4 : decide (0 ≤ o) = true := decide_eq_true h4
    have t5 : decide (o ≤ 65535) = false := decide_eq_false h5
    clear hd h0 h1 h2 h3 h4 h5
    go_enter Try.func69, Try.ntmps69
    go_wp2
    go_ret
    exact ⟨by rw [HD.out]; rfl, hB⟩
  by_cases h6 : 1 ≤ e
  case neg =>
    have HD : Hid (d = false) := by rw [hd]; exact decide_eq_false (by rintro ⟨a0, a1, a2, a3, a4, a5, a6, a7, a8, a9⟩; exact h6 a6)
    have t0 : decide (1 ≤ k) = true := decide_eq_true h0
    have t1 : decide (k ≤ 5) = true := decide_eq_true h1
    have t2 : decide (0 ≤ z) = true := decide_eq_true h2
    have t3 : decide (z ≤ 65535) = true := decide_eq_true h3
    have t4 : decide (0 ≤ o) = true := decide_eq_true h4
    have t5 : decide (o ≤ 65535) = true := decide_eq_true h5
    have t6 : decide (1 ≤ e) = false := decide_eq_false h6
    clear hd h0 h1 h2 h3 h4 h5 h6
    go_enter Try.func69, Try.ntmps69
    go_wp2
    go_ret
    exact ⟨by rw [HD.out]; rfl, hB⟩
  by_cases h7 : e ≤ 4294967295
  case neg =>
    have HD : Hid (d = false) := by rw [hd]; exact decide_eq_false (by rintro ⟨a0, a1, a2, a3, a4, a5, a6, a7, a8, a9⟩; exact h7 a7)
    have t0 : decide (1 ≤ k) = true := decide_eq_true h0
    have t1 : decide (k ≤ 5) = true := decide_eq_true h1
    have t2 : decide (0 ≤ z) = true := decide_eq_true h2
    have t3 : decide (z ≤ 65535) = true := decide_eq_true h3
    have t4 : decide (0 ≤ o) = true := decide_eq_true h4
    have t5 : decide (o ≤ 65535) = true := decide_eq_true h5
    have t6 : decide (1 ≤ e) = true := decide_eq_true h6
    have t7 : decide (e ≤ 4294967295) = false := decide_eq_false h7
    clear hd h0 h1 h2 h3 h4 h5 h6 h7
    go_enter Try.func69, Try.ntmps69
    go_wp2
    go_ret
    exact ⟨by rw [HD.out]; rfl, hB⟩
  by_cases h8 : 0 ≤ s
  case neg =>
    have HD : Hid (d = false) := by rw [hd]; exact decide_eq_false (by rintro ⟨a0, a1, a2, a3, a4, a5, a6, a7, a8, a9⟩; exact h8 a8)
    have t0 : decide (1 ≤ k) = true := decide_eq_true h0
    have t1 : decide (k ≤ 5) = true := decide_eq_true h1
    have t2 : decide (0 ≤ z) = true := decide_eq_true h2
    have t3 : decide (z ≤ 65535) = true := decide_eq_true h3
    have t4 : decide (0 ≤ o) = true := decide_eq_true h4
    have t5 : decide (o ≤ 65535) = true := decide_eq_true h5
    have t6 : decide (1 ≤ e) = true := decide_eq_true h6
    have t7 : decide (e ≤ 4294967295) = true := decide_eq_true h7
    have t8 : decide (0 ≤ s) = false := decide_eq_false h8
    clear hd h0 h1 h2 h3 h4 h5 h6 h7 h8
    go_enter Try.func69, Try.ntmps69
    go_wp2
    go_ret
    exact ⟨by rw [HD.out]; rfl, hB⟩
  by_cases h9 : s ≤ 281474976710655
  case neg =>
    have HD : Hid (d = false) := by rw [hd]; exact decide_eq_false (by rintro ⟨a0, a1, a2, a3, a4, a5, a6, a7, a8, a9⟩; exact h9 a9)
    have t0 : decide (1 ≤ k) = true := decide_eq_true h0
    have t1 : decide (k ≤ 5) = true := decide_eq_true h1
    have t2 : decide (0 ≤ z) = true := decide_eq_true h2
    have t3 : decide (z ≤ 65535) = true := decide_eq_true h3
    have t4 : decide (0 ≤ o) = true := decide_eq_true h4
    have t5 : decide (o ≤ 65535) = true := decide_eq_true h5
    have t6 : decide (1 ≤ e) = true := decide_eq_true h6
    have t7 : decide (e ≤ 4294967295) = true := decide_eq_true h7
    have t8 : decide (0 ≤ s) = true := decide_eq_true h8
    have t9 : decide (s ≤ 281474976710655) = false := decide_eq_false h9
    clear hd h0 h1 h2 h3 h4 h5 h6 h7 h8 h9
    go_enter Try.func69, Try.ntmps69
    go_wp2
    go_ret
    exact ⟨by rw [HD.out]; rfl, hB⟩
  have HD : Hid (d = true) := by rw [hd]; exact decide_eq_true ⟨h0, h1, h2, h3, h4, h5, h6, h7, h8, h9⟩
  have t0 : decide (1 ≤ k) = true := decide_eq_true h0
  have t1 : decide (k ≤ 5) = true := decide_eq_true h1
  have t2 : decide (0 ≤ z) = true := decide_eq_true h2
  have t3 : decide (z ≤ 65535) = true := decide_eq_true h3
  have t4 : decide (0 ≤ o) = true := decide_eq_true h4
  have t5 : decide (o ≤ 65535) = true := decide_eq_true h5
  have t6 : decide (1 ≤ e) = true := decide_eq_true h6
  have t7 : decide (e ≤ 4294967295) = true := decide_eq_true h7
  have t8 : decide (0 ≤ s) = true := decide_eq_true h8
  have t9 : decide (s ≤ 281474976710655) = true := decide_eq_true h9
  clear hd h0 h1 h2 h3 h4 h5 h6 h7 h8 h9
  go_enter Try.func69, Try.ntmps69
  go_wp2
  go_ret
  exact ⟨by rw [HD.out]; rfl, hB⟩
theorem rfright_any (f : Fr) (w : World) :
    Calls Try.prog 69 #[.agg (FC f)] w fun e w' => e = .returned (.bool (rightF f)) ∧ Below w.heap.size w w' := by
  obtain ⟨c0, c1, c2, c3, c4⟩ := frame_cells (heap_alloc_new w (.cells (FC f) 65))
  exact rfright_at f.kind f.zone f.off f.epoch f.seq (FC f) (rightF f) rfl w c0 c1 c2 c3 c4
end Go.Proofs.Ytjnneoejnpephaa
namespace Go.Proofs.Ytjnneoejnpephaa
open Go.RowKit Go.Rv Frm
set_option linter.unusedVariables false
theorem Try.infoRf : (Try.prog.info? 65).map (fun i => (i.zero, i.size)) = some (some (.agg (FC Fr.zero)), 49) := by kernel_rfl
theorem size_rf {f : Fr} (h : f.body.length = 44) : (Try.prog.info? 65).map (·.size) = some (FC f).size := by rw [FC_size, h]; exact (zero_of_info Try.infoRf).2
theorem le4_leN (y : Nat) : Crc.le4 y = Cod.leN 4 y := by
  simp [Crc.le4, Cod.leN, Nat.div_div_eq_div_mul]
theorem sum_same (s : List Nat) (hl : s.length = 64) (hs : ∀ c ∈ s, c < 256) (y : Nat) (hy : y < 2 ^ 32) : Cod.rd (s.drop 60) = y ↔ s.drop 60 = Crc.le4 y := by
  have hd : (s.drop 60).length = 4 := by rw [List.length_drop, hl]
  have h1 := Cod.leN_rd (s.drop 60) (fun c hc => hs c (List.mem_of_mem_drop hc))
  rw [hd] at h1
  constructor
  · intro h
    rw [h] at h1
    rw [le4_leN]
    exact h1.symm
  · intro h
    rw [h, le4_leN]
    exact Cod.rd_leN 4 y (by omega)
def Fact.rowRf (B : Nat) (C : Array Value) (t : TypeId) : Fact := ⟨fun u w => ∃ g, u = .pointer (some ⟨g, 0, none⟩) ∧ B ≤ g ∧ w.heap[g]? = some (.cells C t (0, 0)), fun u w w' ⟨g, e, hb, h⟩ hB => ⟨g, e, hb, (hB.block g (Array.getElem?_eq_some_iff.1 h).1).trans h⟩⟩
theorem built_rf (k z o e s : Int) : Try.prog.built 65 [(0, .int .i64 k), (1, .int .i64 z), (2, .int .i64 o), (3, .int .i64 e), (4, .int .i64 s)] = some (FC ⟨k, z, o, e, s, List.replicate 44 0⟩) := by kernel_rfl
/-- the body, k bytes of it filled -/
def partB (l : List Nat) (k : Nat) : List Nat := l.take k ++ List.replicate (44 - k) 0
theorem partB_length (l : List Nat) (k : Nat) (hl : l.length = 44) (h : k ≤ 44) : (partB l k).length = 44 := by simp [partB, hl]; omega
theorem partB_set (l : List Nat) (k : Nat) (hl : l.length = 44) (h : k < 44) : (partB l k).set k (l.getD k 0) = partB l (k + 1) := by
  unfold partB
  rw [List.set_append_right _ _ (by simp [hl]; omega), List.length_take, hl, show k - min k 44 = 0 by omega, show 44 - k = (44 - (k + 1)) + 1 by omega, List.replicate_succ, List.set_cons_zero, List.take_succ_eq_append_getElem (show k < l.length by omega), List.append_assoc, List.getD_eq_getElem?_getD, List.getElem?_eq_getElem (show k < l.length by omega)]
  rfl
theorem partB_all (l : List Nat) (hl : l.length = 44) : partB l 44 = l := by simp [partB, List.take_of_length_le (show l.length ≤ 44 by omega)]
theorem FC_set_body (f : Fr) (k c : Nat) : (FC f).setIfInBounds (5 + k) (.int .u8 (c : Nat)) = FC { f with body := f.body.set k c } := by
  apply Array.toList_inj.1
  simp only [FC, Array.toList_setIfInBounds, Array.toList_append]
  rw [List.set_append_right _ _ (by simp)]
  simp [byteCells, List.map_set]
set_option maxRecDepth 100000 in
set_option maxHeartbeats 4000000 in
theorem rfread_core (s : List Nat) (w : World) (hl : s.length = 64) (hs : ∀ c ∈ s, c < 256) :
    Calls Try.prog 39 #[.agg (byteCells s)] w (FrmPost (decF s) w) := by
  have hz := (zero_of_info Try.infoRf).1
  have HIZ := Lib.hid (size_rf (f := Fr.zero) (by simp [Fr.zero]))
  have hone := FC_one Fr.zero
  have hB0 := ((Below.refl w.heap.size w).alloc (Nat.le_refl _) (.cells (byteCells s) 76)).alloc (by simp) (.cells (FC Fr.zero) 65)
  have hA0 : ((w.alloc (.cells (byteCells s) 76)).alloc (.cells (FC Fr.zero) 65)).heap[w.heap.size]? = some (.cells (byteCells s) 76) := (((Below.refl (w.alloc (.cells (byteCells s) 76)).heap.size (w.alloc (.cells (byteCells s) 76))).alloc (Nat.le_refl _) (.cells (FC Fr.zero) 65)).block _ (by simp)).trans (heap_alloc_new w _)
  have hC0 : ((w.alloc (.cells (byteCells s) 76)).alloc (.cells (FC Fr.zero) 65)).heap[w.heap.size + 1]? = some (.cells (FC Fr.zero) 65) := by have := heap_alloc_new (w.alloc (.cells (byteCells s) 76)) (.cells (FC Fr.zero) 65); rwa [World.size_alloc] at this
  have hb := byteCells_row hA0 hs
  have hb60 := hb.drop 60
  rw [Nat.zero_add] at hb60
  have hbt := hb.take 60
  have hl60 : (s.drop 60).length = 4 := by rw [List.length_drop, hl]
  have hlt : (s.take 60).length = 60 := by rw [List.length_take, hl]; rfl
  obtain ⟨x, hx⟩ : ∃ x, Cod.rd (s.drop 60) = x := ⟨_, rfl⟩
  obtain ⟨y, hy⟩ : ∃ y, Crc.sum (s.take 60) = y := ⟨_, rfl⟩
  have H60 := Lib.hid (fun (W : World) h => (rread_any (some ⟨w.heap.size, 60, none⟩) (s.drop 60) 4 W h (by omega)).mono (fun e w' h => (show e = .returned (.int .i64 (Cod.rd (s.drop 60) : Nat)) ∧ w' = W from ⟨h.1, h.2.symm⟩)))
  have HT := Lib.hid (fun (W : World) h => (rsum_any (some ⟨w.heap.size, 0, none⟩) (s.take 60) 64 W h (by omega)).mono (fun e w' h => (show e = .returned (.int .u32 (Crc.sum (s.take 60) : Nat)) ∧ w' = W from ⟨h.1, h.2.symm⟩)))
  rw [hl60, hx] at H60
  rw [hlt, hy] at HT
  have HB := Lib.hid hb
  have HB60 := Lib.hid hb60
  have HBT := Lib.hid hbt
  have HX := Lib.hid hx
  have HY := Lib.hid hy
  clear hx hy hb60 hbt hb
  obtain ⟨ZF, hZF⟩ : ∃ Z, FC Fr.zero = Z := ⟨_, rfl⟩
  have HZF := Lib.hid hZF
  rw [hZF] at hz HIZ hone hB0 hA0 hC0 HB HB60 HBT
  clear hZF
  go_enter Try.func39, Try.ntmps39
  go_wp2_with fail
  go_quiet (first | (go_at_call 67; exact Calls.quiet_of_same (H60.out _ (HB60.out.below (below_drewN (Below.refl _ _) _)))) | (go_at_call 68; exact Calls.quiet_of_same (HT.out _ (HBT.out.below (below_drewN (Below.refl _ _) _)))))
  have hy32 : y < 2 ^ 32 := by rw [← HY.out]; exact Crc.sum_lt (fun c hc => hs c (List.mem_of_mem_take hc))
  have hwy : wrap64 (y : Int) = (y : Int) := by unfold wrap64; omega
  have HS := Lib.hid hs
  have HZ := Lib.hid hz
  by_cases hxy : x = y
  · have t1 : ((x : Int) != (y : Int)) = false := by rw [hxy]; simp
    have HD : Hid (decF s = if verF (s.take 60) = 1 ∧ rightF (parseF (s.take 60)) = true then (parseF (s.take 60), 0) else (Fr.zero, 10)) := Lib.hid (by
      unfold decF
      rw [if_pos ((sum_same s hl hs y hy32).1 (by rw [HX.out]; exact hxy) |>.trans (by rw [HY.out]))])
    have HL := Lib.hid hl
    have hA1 : ((((w.alloc (.cells (byteCells s) 76)).alloc (.cells ZF 65))).drewN nq).heap[w.heap.size]? = some (.cells (byteCells s) 76) := hA0
    have hC1 : ((((w.alloc (.cells (byteCells s) 76)).alloc (.cells ZF 65))).drewN nq).heap[w.heap.size + 1]? = some (.cells ZF 65) := hC0
    have hB1 : Below w.heap.size w ((((w.alloc (.cells (byteCells s) 76)).alloc (.cells ZF 65))).drewN nq) := below_drewN hB0 _
    have zz : ((((w.alloc (.cells (byteCells s) 76)).alloc (.cells ZF 65))).drewN nq).heap.size = w.heap.size + 1 + 1 := by simp
    go_wp2_with fail
    rw [show ((x : Int) != wrap64 (y : Int)) = false by rw [hwy]; exact t1]
    obtain ⟨W0, hW0⟩ : ∃ W0, ((((w.alloc (.cells (byteCells s) 76)).alloc (.cells ZF 65))).drewN nq) = W0 := ⟨_, rfl⟩
    rw [hW0] at hA1 hC1 hB1 zz ⊢
    have HA1 := Lib.hid hA1
    have HC1 := Lib.hid hC1
    have HB1 := Lib.hid hB1
    have n0 : w.heap.size < W0.heap.size := by omega
    have n1 : w.heap.size + 1 < W0.heap.size := by omega
    have HZZ := Lib.hid zz
    clear hW0 t1 hxy hs hl hA0 hC0 hB0 hA1 hC1 hB1 zz hy32 hwy H60 HT HB60 HBT HB hl60 hlt
    have HBW := Lib.hid (fun (W : World) (h : W.heap[w.heap.size]? = some (.cells (byteCells s) 76 (0, 0))) => byteCells_row h HS.out)
    have hrd := fun (a b : Nat) (h : b ≤ 7) (hab : a + b ≤ 64) (cap : Nat) (W : World) (hb : Bytes W (some ⟨w.heap.size, 0, none⟩) s) => (show Calls Try.prog 67 #[.slice (some ⟨w.heap.size, a, none⟩) b cap] W fun e w' => e = .returned (.int .i64 (Cod.rd ((s.drop a).take b) : Nat)) ∧ W = w' by
      have hb2 := (hb.drop a).take b
      rw [Nat.zero_add] at hb2
      have hlen : ((s.drop a).take b).length = b := by rw [List.length_take, List.length_drop, HL.out]; omega
      have := rread_any (some ⟨w.heap.size, a, none⟩) ((s.drop a).take b) cap W hb2 (by omega)
      rwa [hlen] at this)
    have HRD := Lib.hid hrd
    clear hrd
    obtain ⟨k0, hk0⟩ : ∃ k0, s.getD 0 0 = k0 := ⟨_, rfl⟩
    have HK0 := Lib.hid hk0
    have HC0 := Lib.hid (fun (W : World) (j : Nat) (h : W.heap[w.heap.size]? = some (.cells (byteCells s) 76 (0, 0))) (hj : j < 64) => (show W.cell? ⟨w.heap.size, j, none⟩ = some (.int .u8 (s.getD j 0 : Nat)) from (cell_of_row _ _ _ _ _ _ h).trans (byteCells_at s j (by rw [HL.out]; exact hj))))
    obtain ⟨BS, hBS⟩ : ∃ BS, byteCells s = BS := ⟨_, rfl⟩
    rw [hBS] at HA1 HBW HC0
    clear hk0 hBS
    have hk256 : k0 < 256 := by
      rw [← HK0.out, List.getD_eq_getElem?_getD, List.getElem?_eq_getElem (by rw [HL.out]; omega)]
      exact HS.out _ (List.getElem_mem _)
    obtain ⟨f0, hf0⟩ : ∃ f0 : Fr, f0 = ⟨(k0 : Nat), (Cod.rd ((s.drop 2).take 2) : Nat), (Cod.rd ((s.drop 4).take 2) : Nat), (Cod.rd ((s.drop 6).take 4) : Nat), (Cod.rd ((s.drop 10).take 6) : Nat), List.replicate 44 0⟩ := ⟨_, rfl⟩
    have hbu := built_rf (k0 : Nat) (Cod.rd ((s.drop 2).take 2) : Nat) (Cod.rd ((s.drop 4).take 2) : Nat) (Cod.rd ((s.drop 6).take 4) : Nat) (Cod.rd ((s.drop 10).take 6) : Nat)
    rw [← hf0] at hbu
    have hfl0 : f0.body.length = 44 := by rw [hf0]; simp
    have HFL0 := Lib.hid hfl0
    have HIX0 := Lib.hid (size_rf hfl0)
    have H1X0 := Lib.hid (FC_one f0)
    have HZX0 : Hid (ZF.size = (FC f0).size) := Lib.hid (by have h1 := HIZ.out; rw [HIX0.out] at h1; simpa using h1.symm)
    have HF0 := Lib.hid hf0
    obtain ⟨X0, hX0⟩ : ∃ X0, FC f0 = X0 := ⟨_, rfl⟩
    rw [hX0] at hbu HIX0 H1X0 HZX0
    have HX0 := Lib.hid hX0
    have HBU := Lib.hid hbu
    have HZB : Hid (W0.heap.size ≤ W0.heap.size) := Lib.hid (Nat.le_refl _)
    clear hf0 hbu hfl0 hX0
    refine wp_region_conf2 17 [Fact.eq ?rax0, Fact.eq ?rax1, Fact.eq ?rax2, Fact.eq ?rax3, Fact.eq ?rax4, Fact.eq ?rax5, Fact.eq ?rax6, Fact.eq ?rax7, Fact.eq ?rax8, Fact.eq ?rax9, Fact.eq ?rax10, Fact.eq ?rax11, Fact.eq ?rax12, Fact.eq ?rax13, Fact.eq ?rax14, Fact.eq (.agg X0), Fact.rowRf W0.heap.size ZF 65] ?raA (by kernel_rfl) (by kernel_rfl) ?rahA ?raho ?rahend
    case rahA =>
      intro vv
      simp only [putRules, Nat.reduceAdd]
      rfl
    case raho =>
      refine ⟨?_, ?_, ?_, ?_, ?_, ?_, ?_, ?_, ?_, ?_, ?_, ?_, ?_, ?_, ?_, ?_, ?_, trivial⟩
      · intro vv W K hB hd HK
        simp only [confRules] at HK
        clear hd
        go_wp2
        refine HK.out _ _ (Below.refl _ _) ?_
        rfl
      · intro vv W K hB hd HK
        simp only [confRules] at hd HK
        have h0 := hd
        clear hd
        simp only [h0] at HK ⊢
        clear h0
        have hT := HC0.out W 0 ((hB.block w.heap.size n0).trans HA1.out) (by omega)
        rw [HK0.out] at hT
        go_wp2
        refine HK.out _ _ (Below.refl _ _) ?_
        rfl
      · intro vv W K hB hd HK
        simp only [confRules] at hd HK
        have h1 := hd
        clear hd
        simp only [h1] at HK ⊢
        clear h1
        go_wp2
        refine HK.out _ _ (Below.refl _ _) ?_
        rfl
      · intro vv W K hB hd HK
        simp only [confRules] at HK
        clear hd
        go_wp2
        refine HK.out _ _ (Below.refl _ _) ?_
        rfl
      · intro vv W K hB hd HK
        simp only [confRules] at hd HK
        have h3 := hd
        clear hd
        simp only [h3] at HK ⊢
        clear h3
        go_wp2
        refine HK.out _ _ (Below.refl _ _) ?_
        rfl
      · intro vv W K hB hd HK
        simp only [confRules] at hd HK
        have h4 := hd
        clear hd
        simp only [h4] at HK ⊢
        clear h4
        have hT := HBW.out W ((hB.block w.heap.size n0).trans HA1.out)
        go_wp2_with (refine (HRD.out 2 2 (by omega) (by omega) _ _ hT).mono ?_; rintro e w9 ⟨rfl, rfl⟩)
        refine HK.out _ _ (Below.refl _ _) ?_
        rfl
      · intro vv W K hB hd HK
        simp only [confRules] at HK
        clear hd
        go_wp2
        refine HK.out _ _ (Below.refl _ _) ?_
        rfl
      · intro vv W K hB hd HK
        simp only [confRules] at hd HK
        have h6 := hd
        clear hd
        simp only [h6] at HK ⊢
        clear h6
        go_wp2
        refine HK.out _ _ (Below.refl _ _) ?_
        rfl
      · intro vv W K hB hd HK
        simp only [confRules] at hd HK
        obtain ⟨h7, h5⟩ := hd
        simp only [h7, h5] at HK ⊢
        clear h7 h5
        have hT := HBW.out W ((hB.block w.heap.size n0).trans HA1.out)
        go_wp2_with (refine (HRD.out 4 2 (by omega) (by omega) _ _ hT).mono ?_; rintro e w9 ⟨rfl, rfl⟩)
        refine HK.out _ _ (Below.refl _ _) ?_
        rfl
      · intro vv W K hB hd HK
        simp only [confRules] at HK
        clear hd
        go_wp2
        refine HK.out _ _ (Below.refl _ _) ?_
        rfl
      · intro vv W K hB hd HK
        simp only [confRules] at hd HK
        have h9 := hd
        clear hd
        simp only [h9] at HK ⊢
        clear h9
        go_wp2
        refine HK.out _ _ (Below.refl _ _) ?_
        rfl
      · intro vv W K hB hd HK
        simp only [confRules] at hd HK
        obtain ⟨h10, h8⟩ := hd
        simp only [h10, h8] at HK ⊢
        clear h10 h8
        have hT := HBW.out W ((hB.block w.heap.size n0).trans HA1.out)
        go_wp2_with (refine (HRD.out 6 4 (by omega) (by omega) _ _ hT).mono ?_; rintro e w9 ⟨rfl, rfl⟩)
        refine HK.out _ _ (Below.refl _ _) ?_
        rfl
      · intro vv W K hB hd HK
        simp only [confRules] at HK
        clear hd
        go_wp2
        refine HK.out _ _ (Below.refl _ _) ?_
        rfl
      · intro vv W K hB hd HK
        simp only [confRules] at hd HK
        have h12 := hd
        clear hd
        simp only [h12] at HK ⊢
        clear h12
        go_wp2
        refine HK.out _ _ (Below.refl _ _) ?_
        rfl
      · intro vv W K hB hd HK
        simp only [confRules] at hd HK
        obtain ⟨h13, h11⟩ := hd
        simp only [h13, h11] at HK ⊢
        clear h13 h11
        have hT := HBW.out W ((hB.block w.heap.size n0).trans HA1.out)
        go_wp2_with (refine (HRD.out 10 6 (by omega) (by omega) _ _ hT).mono ?_; rintro e w9 ⟨rfl, rfl⟩)
        refine HK.out _ _ (Below.refl _ _) ?_
        rfl
      · intro vv W K hB hd HK
        simp only [confRules] at hd HK
        obtain ⟨h2, h5, h8, h11, h14⟩ := hd
        simp only [h2, h5, h8, h11, h14] at HK ⊢
        clear h2 h5 h8 h11 h14
        go_wp2_with (refine wpList_build_on (by rfl) 65 _ rfl #[(0, .int .i64 (k0 : Nat)), (1, .int .i64 (Cod.rd ((s.drop 2).take 2) : Nat)), (2, .int .i64 (Cod.rd ((s.drop 4).take 2) : Nat)), (3, .int .i64 (Cod.rd ((s.drop 6).take 4) : Nat)), (4, .int .i64 (Cod.rd ((s.drop 10).take 6) : Nat))] (by simp [Act.eval]) X0 HBU.out ?_)
        refine HK.out _ _ (Below.refl _ _) ?_
        rfl
      · intro vv W K hB hd HK
        simp only [confRules] at HK
        clear hd
        go_wp2
        refine HK.out _ _ ((Below.refl _ _).alloc (Nat.le_refl _) _) ?_
        exact ⟨_, rfl, Nat.le_trans HZB.out hB.size, heap_alloc_new _ _⟩
    case rahend =>
      intro vv W hB hf
      have e15 := hf 15 (by decide)
      obtain ⟨g16, e16, l16, r16⟩ := hf 16 (by decide)
      simp only [endRules] at e15
      simp only [e15, e16, dropRules]
      clear hf e15 e16
      obtain ⟨g, hgg⟩ : ∃ g, g = g16 := ⟨_, rfl⟩
      subst hgg
      have rg := r16
      have lg := l16
      clear r16 l16
      go_wp2_with (refine wpList_store_row rfl 65 _ _ rfl g X0 rfl rfl 65 ZF rg HIX0.out HZX0.out H1X0.out ?_)
      have hgN : w.heap.size + 1 < g := by omega
      have hbs := below_setRow (Below.refl g W) (Nat.le_refl _) X0
      have rg3 := setRow_heap W g ZF X0 _ _ rg
      have hA3 := (hbs.block w.heap.size (by omega)).trans ((hB.block w.heap.size n0).trans HA1.out)
      have hC3 := (hbs.block (w.heap.size + 1) hgN).trans ((hB.block (w.heap.size + 1) n1).trans HC1.out)
      have hB3 := below_setRow (HB1.out.trans (hB.mono HB1.out.size)) (show w.heap.size ≤ g by omega) X0
      obtain ⟨W3, hW3⟩ : ∃ W3, W.setRow g X0 = W3 := ⟨_, rfl⟩
      rw [hW3] at rg3 hA3 hC3 hB3 ⊢
      have hz3 : g < W3.heap.size := (Array.getElem?_eq_some_iff.1 rg3).1
      obtain ⟨l, hl⟩ : ∃ l, (s.drop 16).take 44 = l := ⟨_, rfl⟩
      have hll : l.length = 44 := by rw [← hl, List.length_take, List.length_drop, HL.out]; rfl
      have hlg : ∀ k, k < 44 → l.getD k 0 = s.getD (16 + k) 0 := by
        intro k hk
        rw [← hl, List.getD_eq_getElem?_getD, List.getD_eq_getElem?_getD, List.getElem?_take, if_pos hk, List.getElem?_drop]
      have hP0 : ({ f0 with body := partB l 0 } : Fr) = f0 := by
        have : partB l 0 = f0.body := by rw [HF0.out]; simp [partB]
        rw [this]
      have HLL := Lib.hid hll
      have HLG := Lib.hid hlg
      have HP0 := Lib.hid hP0
      have HLS := Lib.hid hl
      have HR3 := Lib.hid rg3
      have HA3 := Lib.hid hA3
      have HC3 := Lib.hid hC3
      have HBB3 := Lib.hid hB3
      clear hl hll hlg hP0 hbs hW3 hA3 hC3 rg3 rg hB3 hB
      go_wp2
      go_loopw [6] (fun i wr => ∃ k : Nat, k ≤ 44 ∧ i = .int .i64 k ∧ wr.heap[g]? = some (.cells (FC { f0 with body := partB l k }) 65 (0, 0)) ∧ Only [g] W3 wr) (fun i _ => 44 - (intOf i).toNat)
      case atStart => exact ⟨0, by omega, rfl, by rw [HP0.out, HX0.out]; exact HR3.out, Only.refl _ _⟩
      case round =>
        obtain ⟨k, hk, rfl, hg, hO⟩ := hrel
        have hA := (hO.block w.heap.size (by omega) (by simp; omega)).trans HA3.out
        by_cases hlt : k < 44
        · have hpl := partB_length l k HLL.out hk
          have hc := HC0.out wr (16 + k) hA (by omega)
          rw [← HLG.out k hlt] at hc
          have hc2 : wr.cell? ⟨g, 5 + k, none⟩ = some (.int .u8 ((partB l k).getD k 0 : Nat)) := (cell_of_row _ _ _ _ _ _ hg).trans (FC_body _ k (by show k < (partB l k).length; omega))
          have hf2 : wr.frozen? ⟨g, 5 + k, none⟩ = false := frozen_of_row _ _ _ _ _ hg
          have H := Lib.hid (show (wr.setCell ⟨g, 5 + k, none⟩ (.int .u8 (l.getD k 0 : Nat))).heap[g]? = some (.cells (FC { f0 with body := partB l (k + 1) }) 65 (0, 0)) by
            rw [heap_setCell_same _ _ _ _ _ _ hg, FC_set_body]
            show some (Obj.cells (FC { f0 with body := (partB l k).set k (l.getD k 0) }) 65) = _
            rw [partB_set l k HLL.out hlt])
          obtain ⟨c, hcc⟩ : ∃ c, l.getD k 0 = c := ⟨_, rfl⟩
          obtain ⟨c', hcc'⟩ : ∃ c, (partB l k).getD k 0 = c := ⟨_, rfl⟩
          rw [hcc] at hc H
          rw [hcc'] at hc2
          clear hg hpl hcc hcc'
          go_wp2
          go_roundw
          case rel => exact ⟨k + 1, by omega, by go_num, H.out, hO.setCell (.inl (by simp)) _⟩
          case measure => simp [intOf]; omega
        · obtain rfl : k = 44 := by omega
          rw [partB_all l HLL.out] at hg
          have hC := (hO.block (w.heap.size + 1) (by omega) (by simp; omega)).trans HC3.out
          have hBr := HBB3.out.trans (hO.below (B := w.heap.size) (by simp; omega) (by omega))
          have hzr : g < wr.heap.size := (Array.getElem?_eq_some_iff.1 hg).1
          obtain ⟨f1, hf1⟩ : ∃ f1 : Fr, ({ f0 with body := l } : Fr) = f1 := ⟨_, rfl⟩
          rw [hf1] at hg
          have hfl1 : f1.body.length = 44 := by rw [← hf1]; exact HLL.out
          have hrdt : ∀ a b, a + b ≤ 60 → ((s.take 60).drop a).take b = (s.drop a).take b := by
            intro a b h
            rw [List.drop_take, List.take_take, Nat.min_eq_left (by omega)]
          have hrd1 : ∀ j, j < 60 → Cod.rd (((s.take 60).drop j).take 1) = s.getD j 0 := by
            intro j h
            have hjl : j < s.length := by rw [HL.out]; omega
            have h1 : (s.drop j).take 1 = [s[j]] := by rw [List.drop_eq_getElem_cons hjl]; rfl
            rw [hrdt j 1 (by omega), h1, List.getD_eq_getElem?_getD, List.getElem?_eq_getElem hjl]
            show s[j] + 256 * 0 = s[j]
            omega
          have hpar : parseF (s.take 60) = f1 := by
            rw [← hf1, HF0.out]
            unfold parseF
            rw [hrdt 2 2 (by omega), hrdt 4 2 (by omega), hrdt 6 4 (by omega), hrdt 10 6 (by omega), hrdt 16 44 (by omega), HLS.out]
            have h0 := hrd1 0 (by omega)
            rw [List.drop_zero, HK0.out] at h0
            rw [h0]
          have hver : verF (s.take 60) = s.getD 1 0 := hrd1 1 (by omega)
          obtain ⟨v1, hv1⟩ : ∃ v, s.getD 1 0 = v := ⟨_, rfl⟩
          have hc1 := HC0.out wr 1 hA (by omega)
          rw [hv1] at hc1
          have HDD : Hid (decF s = if v1 = 1 ∧ rightF f1 = true then (f1, 0) else (Fr.zero, 10)) := Lib.hid (by rw [HD.out, hpar, hver, hv1])
          have HRI := Lib.hid (fun W => rfright_any f1 W)
          have HI1 := Lib.hid (size_rf hfl1)
          have H11 := Lib.hid (FC_one f1)
          have HZ1 : Hid (ZF.size = (FC f1).size) := Lib.hid (by have h1 := HIZ.out; rw [HI1.out] at h1; simpa using h1.symm)
          have HG := Lib.hid hg
          have HBZ' : Try.prog.built 65 [] = some (FC Fr.zero) := by kernel_rfl
          rw [HZF.out] at HBZ'
          have HBZ := Lib.hid HBZ'
          generalize rightF f1 = rf at *
          obtain ⟨X1, hX1⟩ : ∃ X, FC f1 = X := ⟨_, rfl⟩
          rw [hX1] at HG HRI HI1 H11 HZ1
          have HX1 := Lib.hid hX1
          clear hg hpar hver hv1 hrd1 hrdt hf1 hfl1 HBZ' hX1
          by_cases hv : v1 = 1
          · subst hv
            go_wp2_with (refine wpList_load_row_asked (by rfl) 65 _ rfl g rfl 65 _ _ _ HG.out Try.underlying65 rfl HI1.out ?_)
            refine (HRI.out _).mono ?_
            rintro e4 w4 ⟨rfl, hB4⟩
            have hC4 := (hB4.block (w.heap.size + 1) (by omega)).trans hC
            have hG4 := (hB4.block g hzr).trans HG.out
            have hBr4 := hBr.trans (hB4.mono hBr.size)
            cases rf
            · go_upto_region 10 with (fail)
              go_wp2_with (first | (refine wpList_build_on (by rfl) 65 _ rfl #[] (by rfl) ZF HBZ.out ?_) | (refine wpList_store_row rfl 65 _ _ rfl (w.heap.size + 1) ZF rfl rfl 65 ZF hC4 HIZ.out rfl hone ?_))
              refine bodyPost_ret (results_row_tmp rfl _ _ (w.heap.size + 1) 65 ZF _ _ rfl (setRow_heap _ _ _ _ _ _ hC4) Try.underlying65 rfl HIZ.out) rfl ?_
              exact ⟨by rw [HDD.out, ← HZF.out]; rfl, below_setRow hBr4 (by omega) _⟩
            · go_wp2_with (first | (refine wpList_load_row rfl 65 _ rfl g rfl 65 _ _ _ hG4 Try.underlying65 rfl HI1.out ?_) | (refine wpList_store_row rfl 65 _ _ rfl (w.heap.size + 1) X1 rfl rfl 65 ZF hC4 HI1.out HZ1.out H11.out ?_))
              refine bodyPost_ret (results_row_tmp rfl _ _ (w.heap.size + 1) 65 X1 _ _ rfl (setRow_heap _ _ _ _ _ _ hC4) Try.underlying65 rfl HI1.out) rfl ?_
              exact ⟨by rw [HDD.out, ← HX1.out]; rfl, below_setRow hBr4 (by omega) _⟩
          · have hvb : (((v1 : Nat) : Int) != 1) = true := by rw [bne_iff_ne]; omega
            go_upto_region 10 with (fail)
            go_wp2_with (first | (refine wpList_build_on (by rfl) 65 _ rfl #[] (by rfl) ZF HBZ.out ?_) | (refine wpList_store_row rfl 65 _ _ rfl (w.heap.size + 1) ZF rfl rfl 65 ZF hC HIZ.out rfl hone ?_))
            refine bodyPost_ret (results_row_tmp rfl _ _ (w.heap.size + 1) 65 ZF _ _ rfl (setRow_heap _ _ _ _ _ _ hC) Try.underlying65 rfl HIZ.out) rfl ?_
            exact ⟨by rw [HDD.out, if_neg (fun h => hv h.1), ← HZF.out]; rfl, below_setRow hBr (by omega) _⟩
  · have hd : decF s = (Fr.zero, 11) := by
      unfold decF
      rw [if_neg (fun h => hxy (by have h2 := (sum_same s hl hs y hy32).2 (by rw [← HY.out]; exact h); rw [← HX.out]; exact h2))]
    have t1 : ((x : Int) != (y : Int)) = true := by rw [bne_iff_ne]; omega
    have HD2 := Lib.hid hd
    clear hxy hd hs hl
    have hC1 : ((((w.alloc (.cells (byteCells s) 76)).alloc (.cells ZF 65))).drewN nq).heap[w.heap.size + 1]? = some (.cells ZF 65) := hC0
    go_wp2_with (refine wpList_store_row rfl 65 _ _ rfl (w.heap.size + 1) ZF rfl rfl 65 ZF hC1 HIZ.out rfl hone ?_)
    refine bodyPost_ret (results_row_tmp rfl _ _ (w.heap.size + 1) 65 ZF _ _ rfl (setRow_heap _ _ _ _ _ _ hC1) Try.underlying65 rfl HIZ.out) rfl ?_
    exact ⟨by rw [HD2.out, HZF.out]; rfl, below_setRow (below_drewN hB0 _) (by omega) _⟩
end Go.Proofs.Ytjnneoejnpephaa
namespace Go.Proofs.Ytjnneoejnpephaa
open Go.RowKit Go.Rv Frm
set_option linter.unusedVariables false
attribute [local go_sem] Oper.semAt_some
theorem fc_cells {w : World} {g : Nat} {t : TypeId} {f : Fr} (h : w.heap[g]? = some (.cells (FC f) t (0, 0))) : w.cell? ⟨g, 1, none⟩ = some (.int .i64 f.zone) ∧ w.cell? ⟨g, 2, none⟩ = some (.int .i64 f.off) := by
  rw [cell_of_row _ _ _ _ _ _ h, cell_of_row _ _ _ _ _ _ h]
  unfold FC
  exact ⟨by rw [Array.getElem?_append_left (by simp)]; rfl, by rw [Array.getElem?_append_left (by simp)]; rfl⟩
set_option maxRecDepth 100000 in
set_option maxHeartbeats 32000000 in
theorem ck_parses_walk (w : World) (zone : Int) (a : Option Addr) (l : List (List Nat)) (cp : Nat) (hI : RowOf w 64 byteCells Sec a l) :
    Calls Try.prog 11 #[.int .i64 zone, .slice a l.length cp] w fun e w' => e = .returned (.bool true) ∧ Below w.heap.size w w' := by
  have HA := Lib.hid (fun W => ck_anchor W)
  have HNW := Lib.hid (fun (W : World) => new_any W)
  have hzs := (zero_of_info Try.infoSnz).1
  have hzt := (zero_of_info Try.infoTab).1
  have hz6 := (zero_of_info Try.infoSector).1
  have hz3 := (zero_of_info Try.infoRf).1
  have HIT := Lib.hid size_tab
  have HST := Lib.hid (show Tb.zero.size = Tb.tabV.size by rw [Tb.size_zero, Tb.size_tabV])
  have H1T := Lib.hid Tb.one_tabV
  have HKS := Lib.hid (fun (W : World) p le ll ce cl s h z => ksectors_any W p le ll ce cl s h z)
  have HKP : Hid (l.length ≤ 60 → ∀ W, Below w.heap.size w W → Calls Try.prog 38 #[.agg Tb.tabV, .int .i64 zone, .slice a l.length cp] W (ParsePost W (Ck.parseS zone l))) := Lib.hid (fun hl W hW => kparse_any W zone a l cp (hI.below hW) (by omega))
  have HRD := Lib.hid (fun (s : List Nat) (W : World) (h : Sec s) => rfread_core s W h.1 h.2)
  have HI := Lib.hid hI
  have hall : ∀ x ∈ l, Sec x := hI.all
  have HPS := Lib.hid (fun s (h : Ck.parseS zone l = some s) => Ck.parse_some hall h)
  have hSZI := Lib.hid (zero_of_info Try.infoSnz).2
  have hSZO : Hid (SZ.all (·.oneCell') = true) := Lib.hid (by simp [SZ, Value.oneCell'])
  have HSZC : Hid (∀ (W : World) (b : Nat), W.heap[b]? = some (.cells SZ 28 (0, 0)) → W.cell? ⟨b, 3, none⟩ = some (.pointer none)) := Lib.hid (fun W b h => (cell_of_row _ _ _ _ _ _ h).trans rfl)
  clear hI hall
  obtain ⟨TV, hTV⟩ : ∃ T, Tb.tabV = T := ⟨_, rfl⟩
  rw [hTV] at HIT HST H1T HNW HKS HKP
  obtain ⟨TZ, hTZ⟩ : ∃ T, Tb.zero = T := ⟨_, rfl⟩
  rw [hTZ] at hzt HST
  obtain ⟨ZS, hZS⟩ : ∃ Z, byteCells (List.replicate 64 0) = Z := ⟨_, rfl⟩
  have HZS : Hid (∀ s : List Nat, s.length = 64 → ZS.size = (byteCells s).size) := Lib.hid (fun s h => by rw [← hZS, size_byteCells, size_byteCells, h]; rfl)
  rw [hZS] at hz6
  clear hTV hTZ hZS
  obtain ⟨n, hn⟩ : ∃ n, l.length = n := ⟨_, rfl⟩
  have HN := Lib.hid hn
  rw [hn] at HKP ⊢
  clear hn
  go_enter Try.func11, Try.ntmps11
  go_wp2_with fail
  refine (HA.out _).mono ?_
  rintro e w0 ⟨rfl, hB0⟩
  have HB0 := Lib.hid hB0
  clear hB0
  by_cases hl : n ≤ 60
  rotate_left
  · have t1 : decide (60 < n) = true := decide_eq_true (by omega)
    have t2 : decide ((60 : Int) < (n : Int)) = true := decide_eq_true (by omega)
    clear hl
    go_wp2
    go_ret
    exact ⟨rfl, HB0.out⟩
  have t1 : decide (60 < n) = false := decide_eq_false (by omega)
  have t2 : decide ((60 : Int) < (n : Int)) = false := decide_eq_false (by omega)
  have HL := Lib.hid hl
  clear hl
  go_wp2_with fail
  clear t1 t2
  refine (HNW.out _).mono ?_
  rintro e5 w5 ⟨rfl, hB5⟩
  have z5 := hB5.size
  obtain ⟨W6, hW6⟩ : ∃ W, w5.alloc (.cells TV 71) = W := ⟨_, rfl⟩
  have hb6 : Below w5.heap.size w5 W6 := by rw [← hW6]; exact (Below.refl _ _).alloc (Nat.le_refl _) _
  have hT6 : W6.heap[w5.heap.size]? = some (.cells TV 71 (0, 0)) := by rw [← hW6]; exact heap_alloc_new w5 _
  have zT6 : w5.heap.size < W6.heap.size := (Array.getElem?_eq_some_iff.1 hT6).1
  have HT6 := Lib.hid hT6
  have HB6 := Lib.hid (HB0.out.trans ((hB5.trans (hb6.mono z5)).mono HB0.out.size))
  have HW6 := Lib.hid hW6
  clear hB5 hW6 hb6 hT6
  go_upto_region 6 with (refine wpList_store_row rfl 71 _ _ rfl w5.heap.size TV rfl rfl 71 TZ (heap_alloc_new w5 _) HIT.out HST.out H1T.out ?_; rw [World.setRow_alloc_new])
  rw [HW6.out, put_none]
  go_wp2_with (refine wpList_load_row rfl 71 _ rfl w5.heap.size rfl 71 _ _ _ HT6.out Try.underlying71 rfl HIT.out ?_)
  refine (HKP.out HL.out _ HB6.out).mono ?_
  rintro e7 w7 ⟨hB7, ⟨s, p, le, ll, ce, cl, hs, rfl, hsn, q1, q2, q3⟩ | ⟨-, rfl⟩⟩
  rotate_left
  · have z7 := hB7.size
    obtain ⟨W8, hW8⟩ : ∃ W, w7.alloc (.cells SZ 28) = W := ⟨_, rfl⟩
    have c3 := HSZC.out W8 w7.heap.size (by rw [← hW8]; exact heap_alloc_new w7 _)
    have HB8 : Hid (Below w.heap.size w W8) := Lib.hid (by rw [← hW8]; exact (HB6.out.trans (hB7.mono HB6.out.size)).alloc (HB6.out.trans (hB7.mono HB6.out.size)).size _)
    have HW8 := Lib.hid hW8
    clear hB7 hW8
    go_upto_region 7 with (refine wpList_store_row rfl 28 _ _ rfl w7.heap.size SZ rfl rfl 28 SZ (heap_alloc_new w7 _) hSZI.out rfl hSZO.out ?_; rw [World.setRow_alloc_new])
    rw [HW8.out]
    go_wp2
    go_ret
    exact ⟨rfl, HB8.out⟩
  have z7 := hB7.size
  obtain ⟨hg, hM, hok, hml, hfr⟩ := HPS.out s hs
  have hea : s.er zone = 0 := by unfold Sn.S.er; rw [if_pos hok]
  obtain ⟨FS, hFS⟩ : ∃ L, s.frames zone = L := ⟨_, rfl⟩
  have hfa : s.fr zone = FS := by rw [← hFS]; unfold Sn.S.fr; rw [if_pos hok]
  obtain ⟨m, hm⟩ : ∃ m, Sn.nParts s.g = m := ⟨_, rfl⟩
  have hlF : FS.length = m := by rw [← hFS, Sn.S.frames_length s ((Geo.right_iff _).1 hg).1, hm]
  rw [hFS] at hfr
  rw [hm, HN.out] at hml
  have HFR := Lib.hid hfr
  have HLF := Lib.hid hlF
  have HLS : Hid ((Ck.secs FS).length = m) := Lib.hid (by rw [Ck.secs, List.length_map, hlF])
  have hXI := snSize s p
  have hXO : (SC s p).all (·.oneCell') = true := by simp [SC, SnC, Value.oneCell']
  have hXZ : SZ.size = (SC s p).size := rfl
  have HKA : Hid (∀ W, SnIs W p le ll ce cl s → Calls Try.prog 35 #[.agg TV, .agg (SC s p), .int .i64 zone] W fun e w' => ∃ v, e = .returned (.tuple #[v, .int .i64 0]) ∧ OwnM w' 77 64 byteCells Sec W.heap.size v (Ck.secs FS) ∧ Below W.heap.size W w') := Lib.hid (fun W h => by
    have := HKS.out W _ _ _ _ _ s h zone
    rwa [hea, hfa] at this)
  obtain ⟨X, hX⟩ : ∃ X, SC s p = X := ⟨_, rfl⟩
  rw [hX] at hXI hXO hXZ HKA ⊢
  have HXI := Lib.hid hXI
  have HXO := Lib.hid hXO
  have HXZ := Lib.hid hXZ
  obtain ⟨W8, hW8⟩ : ∃ W, w7.alloc (.cells X 28) = W := ⟨_, rfl⟩
  have hb8 : Below w7.heap.size w7 W8 := by rw [← hW8]; exact (Below.refl _ _).alloc (Nat.le_refl _) _
  have hX8 : W8.heap[w7.heap.size]? = some (.cells X 28 (0, 0)) := by rw [← hW8]; exact heap_alloc_new w7 _
  have HX8 := Lib.hid hX8
  have HSN8 := Lib.hid (hsn.below hb8)
  have hb := hB7.trans (hb8.mono z7)
  have HT8 := Lib.hid ((hb.block w5.heap.size zT6).trans HT6.out)
  have HB8 := Lib.hid (HB6.out.trans (hb.mono HB6.out.size))
  have HW8 := Lib.hid hW8
  clear hB7 hs hsn hg hM hok hfr hea hFS hfa hm hlF hXI hXO hXZ hX hW8 hb8 hX8 hb
  go_upto_region 7 with (refine wpList_store_row rfl 28 _ _ rfl w7.heap.size X rfl rfl 28 SZ (heap_alloc_new w7 _) HXI.out HXZ.out HXO.out ?_; rw [World.setRow_alloc_new])
  rw [HW8.out]
  go_wp2_with (first | (refine wpList_load_row rfl 71 _ rfl w5.heap.size rfl 71 _ _ _ HT8.out Try.underlying71 rfl HIT.out ?_) | (refine wpList_load_row rfl 28 _ rfl w7.heap.size rfl 28 _ _ _ HX8.out Try.underlying28 rfl HXI.out ?_))
  refine (HKA.out _ HSN8.out).mono ?_
  rintro e9 w9 ⟨v9, rfl, ho9, hB9⟩
  have z9 := hB9.size
  obtain ⟨aO, cO, rfl, hrO, -, -, -, -⟩ := ho9.shape kinB
  have HRO := Lib.hid hrO
  rw [HLS.out]
  have HB9 := Lib.hid (HB8.out.trans (hB9.mono HB8.out.size))
  have HI9 := Lib.hid (HI.out.below HB9.out)
  have t1 : decide (n < m) = false := decide_eq_false (by omega)
  have t2 : decide ((n : Int) < (m : Int)) = false := decide_eq_false (by omega)
  have hm60 : m ≤ 60 := by have := HL.out; omega
  have HML := Lib.hid hml
  clear hB9 ho9 hrO hml
  go_upto_region 12 with (fail)
  clear t1 t2
  go_wp2
  go_loopw [54] (fun u wr => ∃ k : Nat, k ≤ m ∧ u = .int .i64 k ∧ Below w9.heap.size w9 wr) (fun u _ => m - (intOf u).toNat)
  case atStart => exact ⟨0, Nat.zero_le _, rfl, Below.refl _ _⟩
  case round =>
    obtain ⟨k, hk, rfl, hBr⟩ := hrel
    have zr := hBr.size
    have HBR := Lib.hid hBr
    clear hBr
    by_cases hlt : k < m
    · obtain ⟨f, hf⟩ : ∃ f, FS[k]? = some f := ⟨_, List.getElem?_eq_getElem (by rw [HLF.out]; exact hlt)⟩
      obtain ⟨hlk, hdec, hfz, hfo⟩ := HFR.out k f hf
      obtain ⟨y, hy⟩ : ∃ y, sectorOf f = y := ⟨_, rfl⟩
      rw [hy] at hlk hdec
      have hok' : (Ck.secs FS)[k]? = some y := by simp [Ck.secs, hf, hy]
      obtain ⟨bO, oO, rfl, -, -, hsy⟩ := HRO.out.at hok'
      obtain ⟨bL, oL, rfl, -, -, -⟩ := HI9.out.at hlk
      have hgo := (HRO.out.below HBR.out).range hok' (by rw [size_byteCells, hsy.1])
      have hgl : ∀ W, Below wr.heap.size wr W → W.rangeAt bL (oL + k * 64) (byteCells y).toList := fun W hW => ((HI9.out.below HBR.out).below hW).range hlk (by rw [size_byteCells, hsy.1])
      have hix : (Try.prog.info? 77).map (·.size) = some (byteCells y).toList.length := by rw [Array.length_toList]; exact size_sec hsy.1
      have hicx := size_sec hsy.1
      have hocx := one_byteCells y
      have hzcx := HZS.out y hsy.1
      have heq := fun W => eq_sec y y hsy.1 hsy.1 hsy.2 hsy.2 true (by simp) W
      have hrd := fun W => HRD.out y W hsy
      rw [hdec] at hrd
      unfold FrmPost at hrd
      simp only at hrd
      have hfl : f.body.length = 44 := by have := Go.Proofs.Ytjnneoejnpephaa.dec_body y hsy.1; rwa [hdec] at this
      have hi3 := size_rf hfl
      have ho3 := FC_one f
      have hz33 : (FC Fr.zero).size = (FC f).size := by rw [FC_size, FC_size, hfl]; rfl
      have hfc : ∀ (W : World) (g : Nat), W.heap[g]? = some (.cells (FC f) 65 (0, 0)) → W.cell? ⟨g, 1, none⟩ = some (.int .i64 zone) ∧ W.cell? ⟨g, 2, none⟩ = some (.int .i64 (k : Nat)) := fun W g h => by
        have := fc_cells h
        rwa [hfz, hfo] at this
      obtain ⟨FX, hFX⟩ : ∃ F, FC f = F := ⟨_, rfl⟩
      rw [hFX] at hrd hi3 ho3 hz33 hfc
      obtain ⟨XL, hXL⟩ : ∃ XL, (byteCells y).toList = XL := ⟨_, rfl⟩
      have hXC : byteCells y = XL.toArray := by rw [← hXL]
      rw [hXL] at hgo hgl hix
      rw [hXC] at hicx hocx hzcx heq hrd
      have HGO := Lib.hid hgo
      have HGL := Lib.hid hgl
      have HIXL := Lib.hid hix
      have HICX := Lib.hid hicx
      have HOCX := Lib.hid hocx
      have HZCX := Lib.hid hzcx
      have HEQ := Lib.hid heq
      have HRDX := Lib.hid hrd
      have HI3 := Lib.hid hi3
      have HO3 := Lib.hid ho3
      have HZ3 := Lib.hid hz33
      have HFC := Lib.hid hfc
      obtain ⟨W9, hW9⟩ : ∃ W9, wr.alloc (.cells XL.toArray 77) = W9 := ⟨_, rfl⟩
      have hb9 : Below wr.heap.size wr W9 := by rw [← hW9]; exact (Below.refl _ _).alloc (Nat.le_refl _) _
      have hF9 : W9.heap[wr.heap.size]? = some (.cells XL.toArray 77 (0, 0)) := by rw [← hW9]; exact heap_alloc_new wr _
      have zF9 : wr.heap.size < W9.heap.size := (Array.getElem?_eq_some_iff.1 hF9).1
      have HB9' := Lib.hid hb9
      have HF9 := Lib.hid hF9
      have HW9 := Lib.hid hW9
      clear hf hlk hdec hfz hfo hy hok' hsy hgo hgl hix hicx hocx hzcx heq hrd hfl hi3 ho3 hz33 hfc hFX hXL hXC hW9 hb9 hF9
      go_upto_region 15 with (first | (refine wpList_load_mid rfl 77 _ rfl bO (oO + k * 64) rfl XL _ HGO.out Try.underlying77 rfl HIXL.out ?_) | (refine wpList_store_row rfl 77 _ _ rfl wr.heap.size XL.toArray rfl rfl 77 ZS (heap_alloc_new wr _) HICX.out HZCX.out HOCX.out ?_; rw [World.setRow_alloc_new]))
      rw [HW9.out, put_none]
      go_wp2_with (refine wpList_load_row rfl 77 _ rfl wr.heap.size rfl 77 _ _ _ HF9.out Try.underlying77 rfl HICX.out ?_)
      refine (HRDX.out _).mono ?_
      rintro e10 w10 ⟨rfl, hB10⟩
      have z10 := hB10.size
      obtain ⟨W11, hW11⟩ : ∃ W, w10.alloc (.cells FX 65) = W := ⟨_, rfl⟩
      have hb11 : Below w10.heap.size w10 W11 := by rw [← hW11]; exact (Below.refl _ _).alloc (Nat.le_refl _) _
      have hS11 : W11.heap[w10.heap.size]? = some (.cells FX 65 (0, 0)) := by rw [← hW11]; exact heap_alloc_new w10 _
      have zS11 : w10.heap.size < W11.heap.size := (Array.getElem?_eq_some_iff.1 hS11).1
      have HS11 := Lib.hid hS11
      have HF11 := Lib.hid ((hb11.block wr.heap.size (by omega)).trans ((hB10.block wr.heap.size zF9).trans HF9.out))
      have HB11 := Lib.hid (HB9'.out.trans ((hB10.trans (hb11.mono z10)).mono HB9'.out.size))
      have HW11 := Lib.hid hW11
      clear hB10 hb11 hS11 hW11
      go_upto_region 16 with (refine wpList_store_row rfl 65 _ _ rfl w10.heap.size FX rfl rfl 65 (FC Fr.zero) (heap_alloc_new w10 _) HI3.out HZ3.out HO3.out ?_; rw [World.setRow_alloc_new])
      rw [HW11.out]
      have hkn : k < n := by have := HML.out; omega
      refine wp_region_conf2 17 [Fact.eq (.agg XL.toArray), Fact.eq (.slice (some ⟨bL, oL, none⟩) n cp), Fact.eq (.int .i64 (k : Nat)), Fact.eq (.pointer (some ⟨bL, oL + k * 64, none⟩)), Fact.eq (.agg XL.toArray), Fact.eq (.bool false), Fact.eq (.bool false), Fact.eq (.pointer (some ⟨w10.heap.size, 1, none⟩)), Fact.eq (.int .i64 zone), Fact.eq (.int .i64 zone), Fact.eq (.bool false), Fact.eq (.bool false), Fact.eq (.bool false), Fact.eq (.pointer (some ⟨w10.heap.size, 2, none⟩)), Fact.eq (.int .i64 (k : Nat)), Fact.eq (.int .i64 (k : Nat)), Fact.eq (.bool false)] ?raA (by kernel_rfl) (by kernel_rfl) ?rahA ?raho ?rahend
      case rahA =>
        intro vv
        simp only [putRules, Nat.reduceAdd]
        rfl
      case raho =>
        refine ⟨?_, ?_, ?_, ?_, ?_, ?_, ?_, ?_, ?_, ?_, ?_, ?_, ?_, ?_, ?_, ?_, ?_, trivial⟩
        · intro vv W K hB hd HK
          simp only [confRules] at HK
          clear hd
          have hT := (hB.block wr.heap.size (by omega)).trans HF11.out
          go_wp2_with (refine wpList_load_row rfl 77 _ rfl wr.heap.size rfl 77 _ _ _ hT Try.underlying77 rfl HICX.out ?_)
          refine HK.out _ _ (Below.refl _ _) ?_
          rfl
        · intro vv W K hB hd HK
          simp only [confRules] at HK
          clear hd
          go_wp2
          refine HK.out _ _ (Below.refl _ _) ?_
          rfl
        · intro vv W K hB hd HK
          simp only [confRules] at HK
          clear hd
          go_wp2
          refine HK.out _ _ (Below.refl _ _) ?_
          rfl
        · intro vv W K hB hd HK
          simp only [confRules] at hd HK
          obtain ⟨h1, h2⟩ := hd
          simp only [h1, h2] at HK ⊢
          clear h1 h2
          go_wp2
          refine HK.out _ _ (Below.refl _ _) ?_
          rfl
        · intro vv W K hB hd HK
          simp only [confRules] at hd HK
          have h3 := hd
          clear hd
          simp only [h3] at HK ⊢
          clear h3
          have hT := HGL.out _ (HB11.out.trans (hB.mono HB11.out.size))
          go_wp2_with (refine wpList_load_mid rfl 77 _ rfl bL (oL + k * 64) rfl XL _ hT Try.underlying77 rfl HIXL.out ?_)
          refine HK.out _ _ (Below.refl _ _) ?_
          rfl
        · intro vv W K hB hd HK
          simp only [confRules] at hd HK
          obtain ⟨h0, h4⟩ := hd
          simp only [h0, h4] at HK ⊢
          clear h0 h4
          go_wp2_with (refine wpList_neq_on (by rfl) 77 77 _ _ rfl XL.toArray XL.toArray rfl rfl (by kernel_rfl) true HEQ.out ?_)
          refine HK.out _ _ (Below.refl _ _) ?_
          rfl
        · intro vv W K hB hd HK
          simp only [confRules] at hd HK
          have h5 := hd
          clear hd
          simp only [h5] at HK ⊢
          clear h5
          go_wp2
          refine HK.out _ _ (Below.refl _ _) ?_
          rfl
        · intro vv W K hB hd HK
          simp only [confRules] at hd HK
          have h6 := hd
          clear hd
          simp only [h6] at HK ⊢
          clear h6
          refine wpList_guard_yes (by rfl) ?_
          go_wp2
          refine HK.out _ _ (Below.refl _ _) ?_
          rfl
        · intro vv W K hB hd HK
          simp only [confRules] at hd HK
          obtain ⟨h7, h6⟩ := hd
          simp only [h7, h6] at HK ⊢
          clear h7 h6
          refine wpList_guard_yes (by rfl) ?_
          obtain ⟨c1, c2⟩ := HFC.out W _ ((hB.block w10.heap.size zS11).trans HS11.out)
          go_wp2
          refine HK.out _ _ (Below.refl _ _) ?_
          rfl
        · intro vv W K hB hd HK
          simp only [confRules] at hd HK
          have h6 := hd
          clear hd
          simp only [h6] at HK ⊢
          clear h6
          refine wpList_guard_yes (by rfl) ?_
          go_wp2
          refine HK.out _ _ (Below.refl _ _) ?_
          rfl
        · intro vv W K hB hd HK
          simp only [confRules] at hd HK
          obtain ⟨h8, h9, h6⟩ := hd
          simp only [h8, h9, h6] at HK ⊢
          clear h8 h9 h6
          refine wpList_guard_yes (by rfl) ?_
          go_wp2
          refine HK.out _ _ (Below.refl _ _) ?_
          first | rfl | exact congrArg Value.bool (by simp)
        · intro vv W K hB hd HK
          simp only [confRules] at hd HK
          obtain ⟨h6, h10⟩ := hd
          simp only [h6, h10] at HK ⊢
          clear h6 h10
          go_wp2
          refine HK.out _ _ (Below.refl _ _) ?_
          rfl
        · intro vv W K hB hd HK
          simp only [confRules] at hd HK
          obtain ⟨h11, h6⟩ := hd
          simp only [h11, h6] at HK ⊢
          clear h11 h6
          go_wp2
          refine HK.out _ _ (Below.refl _ _) ?_
          rfl
        · intro vv W K hB hd HK
          simp only [confRules] at hd HK
          have h12 := hd
          clear hd
          simp only [h12] at HK ⊢
          clear h12
          refine wpList_guard_yes (by rfl) ?_
          go_wp2
          refine HK.out _ _ (Below.refl _ _) ?_
          rfl
        · intro vv W K hB hd HK
          simp only [confRules] at hd HK
          obtain ⟨h13, h12⟩ := hd
          simp only [h13, h12] at HK ⊢
          clear h13 h12
          refine wpList_guard_yes (by rfl) ?_
          obtain ⟨c1, c2⟩ := HFC.out W _ ((hB.block w10.heap.size zS11).trans HS11.out)
          go_wp2
          refine HK.out _ _ (Below.refl _ _) ?_
          rfl
        · intro vv W K hB hd HK
          simp only [confRules] at hd HK
          have h12 := hd
          clear hd
          simp only [h12] at HK ⊢
          clear h12
          refine wpList_guard_yes (by rfl) ?_
          go_wp2
          refine HK.out _ _ (Below.refl _ _) ?_
          rfl
        · intro vv W K hB hd HK
          simp only [confRules] at hd HK
          obtain ⟨h14, h15, h12⟩ := hd
          simp only [h14, h15, h12] at HK ⊢
          clear h14 h15 h12
          refine wpList_guard_yes (by rfl) ?_
          go_wp2
          refine HK.out _ _ (Below.refl _ _) ?_
          first | rfl | exact congrArg Value.bool (by simp)
      case rahend =>
        intro vv W hB hf
        have e12 := hf 12 (by decide)
        have e16 := hf 16 (by decide)
        simp only [endRules] at e12 e16
        simp only [e12, e16, dropRules]
        clear hf e12 e16
        have HBW := Lib.hid (HBR.out.trans ((HB11.out.trans (hB.mono HB11.out.size)).mono zr))
        clear hB
        go_wp2
        exact ⟨⟨k + 1, by omega, by go_num, HBW.out⟩, by simp [intOf]; omega⟩
    · have HBW := Lib.hid (HB9.out.trans (HBR.out.mono HB9.out.size))
      go_wp2
      go_ret
      exact ⟨rfl, HBW.out⟩
end Go.Proofs.Ytjnneoejnpephaa
namespace Go.Proofs.Ytjnneoejnpephaa
open Go.RowKit Go.Rv Frm
set_option maxRecDepth 100000 in
theorem secs_of_fits {w : World} {a : Option Addr} {len cap : Nat} (h : Fits Try.prog w 6 73 [.slice a len cap]) : ∃ xs : List (List Nat), xs.length = len ∧ RowOf w 64 byteCells Sec a xs ∧ len ≤ cap ∧ cap ≤ 9223372036854775807 ∧ (a = none → cap = 0) :=
  rowOf_of_fits (d := 5) 64 byteCells Sec Try.underlying73 (by kernel_rfl) (by omega) (fun cs _ hf => by
    obtain ⟨l, hl, hb, hc⟩ := arr_of_fits (d := 3) Try.underlying77 Try.underlying5 (by kernel_rfl) (by kernel_rfl) hf
    exact ⟨l, hc, hl, hb⟩) h
end Go.Proofs.Ytjnneoejnpephaa
