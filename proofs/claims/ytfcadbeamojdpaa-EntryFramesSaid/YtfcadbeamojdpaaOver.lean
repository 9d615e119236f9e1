/- Proved here: the contracts of the table's sums: over, Sum: what each answers of any bytes, and that it writes nothing that was there. -/
import Derived.Test.YtfcadbeamojdpaaStep
import Derived.Test.YtfcadbeamojdpaaKit2
namespace Go.Proofs.Ytfcadbeamojdpaa
open Go.RowKit Go.Rv
set_option linter.unusedVariables false
theorem over_take_succ (r : Nat) (l : List Nat) (k c : Nat) (h : l[k]? = some c) : Crc.over r (l.take (k + 1)) = Crc.step (Crc.over r (l.take k)) c := by
  obtain ⟨hk, rfl⟩ := List.getElem?_eq_some_iff.1 h
  rw [List.take_succ_eq_append_getElem hk, Crc.over_snoc]
theorem over_take_lt {r : Nat} {l : List Nat} (hr : r < 2 ^ 32) (hl : ∀ c ∈ l, c < 256) (k : Nat) : Crc.over r (l.take k) < 2 ^ 32 :=
  Crc.over_lt hr fun c hc => hl c (List.mem_of_mem_take hc)
set_option maxRecDepth 100000 in
set_option maxHeartbeats 400000 in
theorem over_any (g r : Nat) (a : Option Addr) (l : List Nat) (cap : Nat) (hr : r < 2 ^ 32) (w : World) (hg : w.heap[g]? = some (.cells Tb.tabV 28 (0, 0))) (hb : Bytes w a l) (hlen : l.length ≤ 9223372036854775807) :
    Calls Try.prog 59 #[.pointer (some ⟨g, 0, none⟩), .int .u32 r, .slice a l.length cap] w fun e w' => e = .returned (.int .u32 (Crc.over r l : Nat)) ∧ Below w.heap.size w w' := by
  have hi : (Try.prog.info? 28).map (·.size) = some Tb.tabV.size := by rw [Tb.size_tabV]; exact (zero_of_info Try.infoTab).2
  have hI := Lib.hid hi
  clear hi
  have hgl : g < w.heap.size := (Array.getElem?_eq_some_iff.1 hg).1
  go_enter Try.func59, Try.ntmps59
  go_wp2
  go_loopw [1, 11] (fun q i wr => ∃ k : Nat, k ≤ l.length ∧ i = .int .i64 k ∧ q = .int .u32 (Crc.over r (l.take k) : Nat) ∧ Below w.heap.size w wr) (fun _ i _ => l.length - (intOf i).toNat)
  case atStart => exact ⟨0, by omega, rfl, rfl, Below.refl _ _⟩
  case round =>
    obtain ⟨k, hk, rfl, rfl, hB⟩ := hrel
    by_cases hlt : k < l.length
    · obtain ⟨b, o, c, rfl, hbl, hc, hc8, hlk⟩ := hb.at hlt
      have hc' : wr.cell? ⟨b, o + k, none⟩ = some (.int .u8 (c : Nat)) := by rw [hB.cell (by exact hbl)]; exact hc
      have hg' : wr.heap[g]? = some (.cells Tb.tabV 28 (0, 0)) := by rw [hB.block g hgl]; exact hg
      have hs := Lib.hid (over_take_succ r l k c hlk)
      have hl32 := over_take_lt hr hb.1 k
      have HL := Lib.hid hlk
      clear hlk hc
      generalize Crc.over r (l.take k) = q at *
      go_wp2_with (first | (refine wpList_load_row rfl 28 _ rfl g rfl 28 _ _ _ hg' Try.underlying28 rfl hI.out ?_) | (go_at_call 61; refine (step_any _ _ hl32 hc8 _).mono ?_; rintro e w1 ⟨rfl, hB1⟩))
      go_roundw
      case rel => exact ⟨k + 1, by omega, by go_num, by rw [hs.out], hB.trans (hB1.mono hB.size)⟩
      case measure => simp [intOf]; omega
    · obtain rfl : k = l.length := by omega
      go_wp2
      go_ret
      exact ⟨by rw [List.take_length]; rfl, hB⟩
theorem ret_u32 {a b : Nat} (h : a = b) : Ending.returned (.int .u32 (a : Nat)) = .returned (.int .u32 (b : Nat)) := by rw [h]
theorem xor_ones (x : Nat) (hx : x < 2 ^ 32) : bits .xor .u32 (x : Int) 4294967295 = ((x ^^^ Crc.ones : Nat) : Int) :=
  u32_xor_nat x 4294967295 (by simpa using hx) (by omega)
set_option maxRecDepth 100000 in
set_option maxHeartbeats 400000 in
theorem sum_any (a : Option Addr) (l : List Nat) (cap : Nat) (w : World) (hb : Bytes w a l) (hlen : l.length ≤ 9223372036854775807) :
    Calls Try.prog 56 #[.agg Tb.tabV, .slice a l.length cap] w fun e w' => e = .returned (.int .u32 (Crc.sum l : Nat)) ∧ Below w.heap.size w w' := by
  have hB0 : Below w.heap.size w (w.alloc (.cells Tb.tabV 28)) := (Below.refl _ _).alloc (Nat.le_refl _) _
  have hb' := hb.below hB0
  have hx := xor_ones (Crc.over Crc.ones l) (Crc.over_lt Crc.ones_lt hb.1)
  have hs : Crc.sum l = Crc.over Crc.ones l ^^^ Crc.ones := rfl
  rw [← hs] at hx
  have HS := Lib.hid hs
  clear hs
  have hc := fun w0 h0 h1 => over_any w.heap.size 4294967295 a l cap (by omega) w0 h0 h1 hlen
  rw [show Crc.over 4294967295 l = Crc.over Crc.ones l from rfl] at hc
  generalize Crc.over Crc.ones l = q at *
  have HC := Lib.hid hc
  clear hc
  go_enter Try.func56, Try.ntmps56
  go_wp2_with (go_at_call 59; refine (HC.out _ (heap_alloc_new w _) hb').mono ?_; rintro e w1 ⟨rfl, hB1⟩)
  go_ret
  exact ⟨rfl, hB0.trans (hB1.mono (by simp))⟩
end Go.Proofs.Ytfcadbeamojdpaa
