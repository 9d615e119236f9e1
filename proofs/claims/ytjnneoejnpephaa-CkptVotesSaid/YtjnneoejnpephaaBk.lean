/- Proved here, one behind the other: Proved here: contracts of the frame's within and Right, and of the document's Right; Proved here: the contract of New: the table; Proved here: the contract of Step: what it answers of any word and byte; Proved here: the contracts of the table's sums: over, Sum: what each answers of any bytes, and that it writes nothing that was there; Proved here: the contract of Seal: what was handed in, and behind it its sum in four bytes, in memory of the call's own; Proved here: the contract of the frame's Encode; Proved here: the contract of the frame's Decode; Proved here: the contract of the frame's At; Plain mathematics for CrcPatterns: a list, exclusive-ored with another one place by place, and what a sealed list with a pattern in it comes to; Proved here: the walk of the law on mixed frames; Proved here: the document's Right of a snapshot; Plain facts on copies: a snapshot's sectors, and the frames that a zone's sectors say; Proved here: a snapshot that is made of a geometry and a list of entries, both ways (law 13's 'made'); Proved here: a copy's sectors, and the snapshot of a zone's sectors; Proved here: the order of copies; Proved here: the copy that counts, and the document's example; Proved here: small laws that the laws on copies share; A law over any program: a region that draws its order, in which one operation makes a block, one stores a row into it, in an open order, and the others turn nothing: with facts of all other slots; Proved here: the items of the laws on snapshots, as they come in. -/
import Derived.Test.YtjnneoejnpephaaRows
import Derived.WalkKit
import Derived.WalkLawsBesides
import Derived.WalkSpells
import Derived.Outline
import Derived.Lib.Hide
import Derived.Deep.WholeRow
import Derived.Laws.CopyOwn
import Derived.Deep.DeepMust
import Derived.Deep.MidRow
import Derived.Laws.Cover3
import Derived.Deep.RegionHeld3
import Derived.Deep.DrawnRows
import Derived.LoopTactic
import Derived.Deep.Cut
import Derived.Test.YtjnneoejnpephaaBa
import Derived.Test.YtjnneoejnpephaaBc
import Derived.Test.YtjnneoejnpephaaBn
import Derived.Test.YtjnneoejnpephaaBs
import Derived.Test.YtjnneoejnpephaaBt
namespace Go.Proofs.Ytjnneoejnpephaa
open Go.RowKit Go.Rv Frm
set_option linter.unusedVariables false
/-- is it one from a to b? -/
def inB (n a b : Int) : Bool := decide (a ≤ n) && decide (n ≤ b)
set_option maxRecDepth 100000 in
set_option maxHeartbeats 400000 in
theorem fwithin_any (n a b : Int) (w : World) :
    Calls Try.prog 51 #[.int .i64 n, .int .i64 a, .int .i64 b] w fun e w' => e = .returned (.bool (inB n a b)) ∧ w = w' := by
  unfold inB
  cases h1 : decide (a ≤ n)
  · go_enter Try.func51, Try.ntmps51
    go_wp2
    go_ret
    exact ⟨rfl, rfl⟩
  · go_enter Try.func51, Try.ntmps51
    go_wp2
    go_ret
    exact ⟨rfl, rfl⟩
theorem right_eq (f : Fr) : rightF f = (inB f.kind 1 5 && inB f.zone 0 65535 && inB f.off 0 65535 && inB f.epoch 1 4294967295 && inB f.seq 0 281474976710655) := by
  rw [Bool.eq_iff_iff]
  simp only [rightF, inB, Bool.and_eq_true, decide_eq_true_eq]
  constructor
  · rintro ⟨h1, h2, h3, h4, h5, h6, h7, h8, h9, h10⟩
    exact ⟨⟨⟨⟨⟨h1, h2⟩, ⟨h3, h4⟩⟩, ⟨h5, h6⟩⟩, ⟨h7, h8⟩⟩, ⟨h9, h10⟩⟩
  · rintro ⟨⟨⟨⟨⟨h1, h2⟩, ⟨h3, h4⟩⟩, ⟨h5, h6⟩⟩, ⟨h7, h8⟩⟩, ⟨h9, h10⟩⟩
    exact ⟨h1, h2, h3, h4, h5, h6, h7, h8, h9, h10⟩
set_option maxRecDepth 100000 in
set_option maxHeartbeats 1000000 in
theorem fright_any (f : Fr) (w : World) :
    Calls Try.prog 20 #[.agg (FC f)] w fun e w' => e = .returned (.bool (rightF f)) ∧ Below w.heap.size w w' := by
  have hg := heap_alloc_new w (.cells (FC f) 42)
  obtain ⟨c0, c1, c2, c3, c4⟩ := frame_cells hg
  have hB : Below w.heap.size w (w.alloc (.cells (FC f) 42)) := (Below.refl _ _).alloc (Nat.le_refl _) _
  have HR := Lib.hid (right_eq f)
  have H0 := Lib.hid (fun W => fwithin_any f.kind 1 5 W)
  have H1 := Lib.hid (fun W => fwithin_any f.zone 0 65535 W)
  have H2 := Lib.hid (fun W => fwithin_any f.off 0 65535 W)
  have H3 := Lib.hid (fun W => fwithin_any f.epoch 1 4294967295 W)
  have H4 := Lib.hid (fun W => fwithin_any f.seq 0 281474976710655 W)
  generalize inB f.kind 1 5 = b0 at *
  generalize inB f.zone 0 65535 = b1 at *
  generalize inB f.off 0 65535 = b2 at *
  generalize inB f.epoch 1 4294967295 = b3 at *
  generalize inB f.seq 0 281474976710655 = b4 at *
  generalize FC f = C at *
  clear hg
  go_enter Try.func20, Try.ntmps20
  go_wp2_with fail
  refine (H0.out _).mono ?_
  rintro e w' ⟨rfl, rfl⟩
  cases b0
  · go_wp2
    go_ret
    exact ⟨by rw [HR.out]; rfl, hB⟩
  · go_wp2_with fail
    refine (H1.out _).mono ?_
    rintro e w' ⟨rfl, rfl⟩
    cases b1
    · go_wp2
      go_ret
      exact ⟨by rw [HR.out]; rfl, hB⟩
    · go_wp2_with fail
      refine (H2.out _).mono ?_
      rintro e w' ⟨rfl, rfl⟩
      cases b2
      · go_wp2
        go_ret
        exact ⟨by rw [HR.out]; rfl, hB⟩
      · go_wp2_with fail
        refine (H3.out _).mono ?_
        rintro e w' ⟨rfl, rfl⟩
        cases b3
        · go_wp2
          go_ret
          exact ⟨by rw [HR.out]; rfl, hB⟩
        · go_wp2_with fail
          refine (H4.out _).mono ?_
          rintro e w' ⟨rfl, rfl⟩
          go_wp2
          go_ret
          exact ⟨by rw [HR.out]; rfl, hB⟩
end Go.Proofs.Ytjnneoejnpephaa
namespace Go.Proofs.Ytjnneoejnpephaa
open Go.RowKit
set_option linter.unusedVariables false
namespace Tb
def zero : Array Value := Array.replicate 256 (.int .u32 0)
def part (k : Nat) : Array Value := ((List.range 256).map fun i => if i < k then Value.int .u32 (Crc.tab i) else .int .u32 0).toArray
def tabV : Array Value := ((List.range 256).map fun i => Value.int .u32 (Crc.tab i)).toArray
end Tb
theorem Try.infoTab : (Try.prog.info? 71).map (fun i => (i.zero, i.size)) = some (some (.agg Tb.zero), 256) := by kernel_rfl
namespace Tb
theorem size_zero : zero.size = 256 := by simp [zero]
theorem size_part (k : Nat) : (part k).size = 256 := by simp [part]
theorem size_tabV : tabV.size = 256 := by simp [tabV]
theorem part_zero : part 0 = zero := by
  apply Array.ext_getElem?
  intro i
  simp [part, zero, Array.getElem?_replicate]
  by_cases h : i < 256 <;> simp [h]
theorem part_full : part 256 = tabV := by
  apply Array.ext_getElem?
  intro i
  simp [part, tabV]
  by_cases h : i < 256 <;> simp [h]
theorem part_succ (k : Nat) (hk : k < 256) : part (k + 1) = (part k).setIfInBounds k (.int .u32 (Crc.tab k)) := by
  apply Array.ext_getElem?
  intro i
  rw [Array.getElem?_setIfInBounds]
  simp [part]
  by_cases hi : k = i
  · subst hi; simp [hk]
  · by_cases h : i < 256
    · simp [h, hi]
      by_cases h2 : i < k
      · simp [h2, show i < k + 1 by omega]
      · simp [h2, show ¬ i < k + 1 by omega]
    · simp [h, hi]
theorem part_at (k j : Nat) (hj : j < 256) : ∃ v, (part k)[j]? = some v := by
  exact ⟨_, Array.getElem?_eq_getElem (by rw [size_part]; exact hj)⟩
theorem tabV_at (j : Nat) (hj : j < 256) : tabV[j]? = some (.int .u32 (Crc.tab j)) := by
  simp [tabV, hj]
theorem one_tabV : tabV.all (·.oneCell') = true := by
  rw [Array.all_eq_true_iff_forall_mem]
  intro v hv
  simp only [tabV, List.mem_toArray, List.mem_map] at hv
  obtain ⟨i, _, rfl⟩ := hv
  rfl
end Tb
theorem and1 (a : Nat) (ha : a < 2 ^ 32) : bits .and .u32 (a : Int) 1 = ((a % 2 : Nat) : Int) := by
  have := u32_and_nat a 1 (by simpa using ha) (by omega)
  rw [Nat.and_one_is_mod] at this
  exact this
theorem xorG (a : Nat) (ha : a < 2 ^ 32) : bits .xor .u32 ((a : Int) / 2) 2197175160 = (((a / 2) ^^^ Crc.G : Nat) : Int) := by
  have := u32_xor_nat (a / 2) 2197175160 (by omega) (by omega)
  simpa [Crc.G] using this
set_option maxRecDepth 100000 in
set_option maxHeartbeats 400000 in
theorem new_any (w : World) : Calls Try.prog 34 #[] w fun e w' => e = .returned (.agg Tb.tabV) ∧ Below w.heap.size w w' := by
  have hz := (zero_of_info Try.infoTab).1
  go_enter Try.func34, Try.ntmps34
  go_wp2
  go_loopw [5] (fun i wr => ∃ k : Nat, k ≤ 256 ∧ i = .int .i64 k ∧ wr.heap[w.heap.size + 1]? = some (.cells (Tb.part k) 71 (0, 0)) ∧ wr.heap[w.heap.size]? = some (.cells Tb.zero 71 (0, 0)) ∧ Below w.heap.size w wr)
    (fun i _ => 256 - (intOf i).toNat)
  case atStart =>
    exact ⟨0, by omega, rfl, by rw [Tb.part_zero]; exact heap_alloc2_new _ _ _, heap_alloc2_old _ _ _, ((Below.refl _ _).alloc (Nat.le_refl _) _).alloc (by simp) _⟩
  case round =>
    obtain ⟨k, hk, rfl, hT, hR, hB⟩ := hrel
    by_cases hlt : k < 256
    · have hk32 : k < 2 ^ 32 := by omega
      go_wp2
      go_loop [3, 10] (fun r j => ∃ m : Nat, m ≤ 8 ∧ j = .int .i64 m ∧ r = .int .u32 (Crc.hn m k : Nat)) (fun _ j => 8 - (intOf j).toNat)
      case atStart => exact ⟨0, by omega, rfl, rfl⟩
      case round =>
        obtain ⟨m, hm, rfl, rfl⟩ := hrel
        have hl := Crc.hn_lt m hk32
        by_cases hm8 : m < 8
        · have hs : Hid (Crc.hn (m + 1) k = if Crc.hn m k % 2 = 1 then (Crc.hn m k / 2) ^^^ Crc.G else Crc.hn m k / 2) := by
            show Crc.hn (m + 1) k = _
            rw [Crc.hn_add]; rfl
          by_cases h1 : Crc.hn m k % 2 = 1
          · have e1 : (bits BinOp.and IntKind.u32 (↑(Crc.hn m k)) 1 == 1) = true := by rw [and1 _ hl, h1]; rfl
            have e2 := xorG _ hl
            have h1' := Lib.hid h1
            clear h1
            go_wp2
            go_round
            case rel => exact ⟨m + 1, by omega, by go_num, by rw [hs.out, if_pos h1'.out]⟩
            case measure => simp [intOf]; omega
          · have e1 : (bits BinOp.and IntKind.u32 (↑(Crc.hn m k)) 1 == 1) = false := by
              rw [and1 _ hl, show Crc.hn m k % 2 = 0 by omega]; rfl
            go_wp2
            go_round
            case rel => exact ⟨m + 1, by omega, by go_num, by rw [hs.out, if_neg h1]; rfl⟩
            case measure => simp [intOf]; omega
        · obtain rfl : m = 8 := by omega
          obtain ⟨v, hv⟩ := Tb.part_at k k hlt
          have hc : wr.cell? ⟨w.heap.size + 1, k, none⟩ = some v := (cell_of_row _ _ _ _ _ _ hT).trans hv
          have hf : wr.frozen? ⟨w.heap.size + 1, k, none⟩ = false := frozen_of_row _ _ _ _ _ hT
          clear hm8
          go_wp2
          go_roundw
          case rel =>
            exact ⟨k + 1, by omega, by go_num, by rw [heap_setCell_same _ _ _ _ _ _ hT, Tb.part_succ k hlt]; rfl, by rw [heap_setCell_other _ _ _ _ (by simp)]; exact hR, hB.setCell (p := ⟨w.heap.size + 1, k, none⟩) (by simp) _⟩
          case measure => simp [intOf]; omega
    · obtain rfl : k = 256 := by omega
      rw [Tb.part_full] at hT
      clear hlt
      have hi : (Try.prog.info? 71).map (·.size) = some Tb.tabV.size := by rw [Tb.size_tabV]; exact (zero_of_info Try.infoTab).2
      have hI := Lib.hid hi
      clear hi
      go_wp2_with (first | (refine wpList_load_row rfl 71 _ rfl (w.heap.size + 1) rfl 71 _ _ _ hT Try.underlying71 rfl hI.out ?_) | (refine wpList_store_row rfl 71 _ _ rfl w.heap.size Tb.tabV rfl rfl 71 Tb.zero hR hI.out (by rw [Tb.size_zero, Tb.size_tabV]) Tb.one_tabV ?_))
      refine bodyPost_ret (results_cell_row rfl _ _ w.heap.size 71 Tb.tabV _ _ rfl (setRow_heap _ _ _ _ _ _ hR) Try.underlying71 rfl hI.out) rfl ?_
      exact ⟨rfl, below_setRow hB (Nat.le_refl _) _⟩
end Go.Proofs.Ytjnneoejnpephaa
namespace Go.Proofs.Ytjnneoejnpephaa
open Go.RowKit
set_option linter.unusedVariables false
theorem byte_xor (r c : Nat) (hc : c < 256) : bits .xor .u8 ((r : Int) % 256) (c : Int) = ((r % 256 ^^^ c : Nat) : Int) := by
  have := u8_xor_nat (r % 256) c (by omega) hc
  simpa using this
theorem word_xor (r t : Nat) (hr : r < 2 ^ 32) (ht : t < 2 ^ 32) : bits .xor .u32 ((r : Int) / 256) (t : Int) = ((r / 256 ^^^ t : Nat) : Int) := by
  have := u32_xor_nat (r / 256) t (by omega) (by simpa using ht)
  simpa using this
set_option maxRecDepth 100000 in
set_option maxHeartbeats 400000 in
theorem step_any (r c : Nat) (hr : r < 2 ^ 32) (hc : c < 256) (w : World) :
    Calls Try.prog 116 #[.agg Tb.tabV, .int .u32 r, .int .u8 c] w fun e w' => e = .returned (.int .u32 (Crc.step r c : Nat)) ∧ Below w.heap.size w w' := by
  obtain ⟨x, hx⟩ : ∃ x, x = r % 256 ^^^ c := ⟨_, rfl⟩
  have hx8 : x < 256 := by rw [hx]; exact Nat.xor_lt_two_pow (n := 8) (by omega) hc
  have e1 := byte_xor r c hc
  rw [← hx] at e1
  have HX := Lib.hid hx
  clear hx
  have ht := Tb.tabV_at x hx8
  obtain ⟨t, hT⟩ : ∃ t, t = Crc.tab x := ⟨_, rfl⟩
  rw [← hT] at ht
  have ht32 : t < 2 ^ 32 := by rw [hT]; exact Crc.tab_lt (by omega)
  have HT := Lib.hid hT
  clear hT
  have e2 := word_xor r t hr ht32
  go_enter Try.func116, Try.ntmps116
  go_wp2
  go_ret
  refine ⟨?_, (Below.refl _ _).alloc (Nat.le_refl _) _⟩
  rw [Crc.step_tab, ← HX.out, ← HT.out]; rfl
end Go.Proofs.Ytjnneoejnpephaa
namespace Go.Proofs.Ytjnneoejnpephaa
open Go.RowKit Go.Rv
set_option linter.unusedVariables false
theorem over_take_succ (r : Nat) (l : List Nat) (k c : Nat) (h : l[k]? = some c) : Crc.over r (l.take (k + 1)) = Crc.step (Crc.over r (l.take k)) c := by
  obtain ⟨hk, rfl⟩ := List.getElem?_eq_some_iff.1 h
  rw [List.take_succ_eq_append_getElem hk, Crc.over_snoc]
theorem over_take_lt {r : Nat} {l : List Nat} (hr : r < 2 ^ 32) (hl : ∀ c ∈ l, c < 256) (k : Nat) : Crc.over r (l.take k) < 2 ^ 32 :=
  Crc.over_lt hr fun c hc => hl c (List.mem_of_mem_take hc)
set_option maxRecDepth 100000 in
set_option maxHeartbeats 400000 in
theorem over_any (g r : Nat) (a : Option Addr) (l : List Nat) (cap : Nat) (hr : r < 2 ^ 32) (w : World) (hg : w.heap[g]? = some (.cells Tb.tabV 71 (0, 0))) (hb : Bytes w a l) (hlen : l.length ≤ 9223372036854775807) :
    Calls Try.prog 110 #[.pointer (some ⟨g, 0, none⟩), .int .u32 r, .slice a l.length cap] w fun e w' => e = .returned (.int .u32 (Crc.over r l : Nat)) ∧ Below w.heap.size w w' := by
  have hi : (Try.prog.info? 71).map (·.size) = some Tb.tabV.size := by rw [Tb.size_tabV]; exact (zero_of_info Try.infoTab).2
  have hI := Lib.hid hi
  clear hi
  have hgl : g < w.heap.size := (Array.getElem?_eq_some_iff.1 hg).1
  go_enter Try.func110, Try.ntmps110
  go_wp2
  go_loopw [1, 11] (fun q i wr => ∃ k : Nat, k ≤ l.length ∧ i = .int .i64 k ∧ q = .int .u32 (Crc.over r (l.take k) : Nat) ∧ Below w.heap.size w wr) (fun _ i _ => l.length - (intOf i).toNat)
  case atStart => exact ⟨0, by omega, rfl, rfl, Below.refl _ _⟩
  case round =>
    obtain ⟨k, hk, rfl, rfl, hB⟩ := hrel
    by_cases hlt : k < l.length
    · obtain ⟨b, o, c, rfl, hbl, hc, hc8, hlk⟩ := hb.at hlt
      have hc' : wr.cell? ⟨b, o + k, none⟩ = some (.int .u8 (c : Nat)) := by rw [hB.cell (by exact hbl)]; exact hc
      have hg' : wr.heap[g]? = some (.cells Tb.tabV 71 (0, 0)) := by rw [hB.block g hgl]; exact hg
      have hs := Lib.hid (over_take_succ r l k c hlk)
      have hl32 := over_take_lt hr hb.1 k
      have HL := Lib.hid hlk
      clear hlk hc
      generalize Crc.over r (l.take k) = q at *
      go_wp2_with (first | (refine wpList_load_row rfl 71 _ rfl g rfl 71 _ _ _ hg' Try.underlying71 rfl hI.out ?_) | (go_at_call 116; refine (step_any _ _ hl32 hc8 _).mono ?_; rintro e w1 ⟨rfl, hB1⟩))
      go_roundw
      case rel => exact ⟨k + 1, by omega, by go_num, by rw [hs.out], hB.trans (hB1.mono hB.size)⟩
      case measure => simp [intOf]; omega
    · obtain rfl : k = l.length := by omega
      go_wp2
      go_ret
      exact ⟨by rw [List.take_length]; rfl, hB⟩
theorem ret_u32 {a b : Nat} (h : a = b) : Ending.returned (.int .u32 (a : Nat)) = .returned (.int .u32 (b : Nat)) := by rw [h]
theorem xor_ones (x : Nat) (hx : x < 2 ^ 32) : bits .xor .u32 (x : Int) 4294967295 = ((x ^^^ Crc.ones : Nat) : Int) :=
  u32_xor_nat x 4294967295 (by simpa using hx) (by omega)
set_option maxRecDepth 100000 in
set_option maxHeartbeats 400000 in
theorem sum_any (a : Option Addr) (l : List Nat) (cap : Nat) (w : World) (hb : Bytes w a l) (hlen : l.length ≤ 9223372036854775807) :
    Calls Try.prog 96 #[.agg Tb.tabV, .slice a l.length cap] w fun e w' => e = .returned (.int .u32 (Crc.sum l : Nat)) ∧ Below w.heap.size w w' := by
  have hB0 : Below w.heap.size w (w.alloc (.cells Tb.tabV 71)) := (Below.refl _ _).alloc (Nat.le_refl _) _
  have hb' := hb.below hB0
  have hx := xor_ones (Crc.over Crc.ones l) (Crc.over_lt Crc.ones_lt hb.1)
  have hs : Crc.sum l = Crc.over Crc.ones l ^^^ Crc.ones := rfl
  rw [← hs] at hx
  have HS := Lib.hid hs
  clear hs
  have hc := fun w0 h0 h1 => over_any w.heap.size 4294967295 a l cap (by omega) w0 h0 h1 hlen
  rw [show Crc.over 4294967295 l = Crc.over Crc.ones l from rfl] at hc
  generalize Crc.over Crc.ones l = q at *
  have HC := Lib.hid hc
  clear hc
  go_enter Try.func96, Try.ntmps96
  go_wp2_with (go_at_call 110; refine (HC.out _ (heap_alloc_new w _) hb').mono ?_; rintro e w1 ⟨rfl, hB1⟩)
  go_ret
  exact ⟨rfl, hB0.trans (hB1.mono (by simp))⟩
end Go.Proofs.Ytjnneoejnpephaa
namespace Go.Proofs.Ytjnneoejnpephaa
open Go.RowKit Go.Rv
set_option linter.unusedVariables false
/-- the value is a row of the call's own with these bytes; nothing that was there has turned -/
def RowPost (l : List Nat) (w : World) (e : Ending) (w' : World) : Prop := ∃ v, e = .returned v ∧ OwnB w' 5 w.heap.size v l ∧ Below w.heap.size w w'
theorem le4_cells (s : Nat) (h : s < 2 ^ 32) : #[Value.int .u8 ((s : Int) % 256), .int .u8 ((s : Int) / 256 % 256), .int .u8 ((s : Int) / 65536 % 256), .int .u8 ((s : Int) / 16777216)] = byteCells (Crc.le4 s) := by
  simp [byteCells, Crc.le4]
  omega
theorem own_ge {B g : Nat} {n c : Nat} (h : B ≤ g) : ∀ k, (Value.slice (some ⟨g, 0, none⟩) n c).ownBlock = some k → B ≤ k := by
  intro k hk
  simp [Value.ownBlock] at hk
  omega
set_option maxRecDepth 100000 in
set_option maxHeartbeats 400000 in
theorem seal_any (a : Option Addr) (l : List Nat) (cap : Nat) (w : World) (hb : Bytes w a l) (hcap : a = none → cap = 0) (hlen : l.length ≤ 140737488355000) :
    Calls Try.prog 83 #[.agg Tb.tabV, .slice a l.length cap] w (RowPost (l ++ Crc.le4 (Crc.sum l)) w) := by
  have hi : (Try.prog.info? 71).map (·.size) = some Tb.tabV.size := by rw [Tb.size_tabV]; exact (zero_of_info Try.infoTab).2
  have hI := Lib.hid hi
  clear hi
  have hB0 : Below w.heap.size w (w.alloc (.cells Tb.tabV 71)) := (Below.refl _ _).alloc (Nat.le_refl _) _
  have hT0 := heap_alloc_new w (.cells Tb.tabV 71)
  have hs32 := Crc.sum_lt hb.1
  have HS := Lib.hid (fun (W : World) hb => sum_any a l cap W hb (by omega))
  have HL := Lib.hid (Crc.le4_lt (Crc.sum l))
  generalize Crc.sum l = s at *
  go_enter Try.func83, Try.ntmps83
  go_wp2_with (first | (refine wpList_load_row rfl 71 _ rfl w.heap.size rfl 71 _ _ _ hT0 Try.underlying71 rfl hI.out ?_) | (go_at_call 96; refine (HS.out _ (hb.below hB0)).mono ?_; rintro e w1 ⟨rfl, hB1⟩; have hB1' := hB0.trans (hB1.mono (by simp)); have z1 := hB1'.size) | (at_builtin; refine wpList_append_bytes rfl (.tmp 9) (.tmp 10) 94 rfl 5 Try.underlying94 Try.infoU8 w.heap.size _ [] rfl (OwnB.made (g := w1.heap.size) z1 (heap_alloc_new w1 _) rfl (by unfold maxLen; omega)) a cap l rfl (hb.below (hB1'.alloc z1 _)) hcap (by simp; omega) (by simp; omega) ?_; intro v2 w2 hown2 hgrow2; have hb2 := (hB1'.alloc z1 _).trans (Below.of_grown hgrow2 (by simp; omega) (own_ge z1)); have z2 := hb2.size) | (at_builtin; go_must (refine wpList_append_bytes rfl (.tmp 11) (.tmp 23) 94 rfl 5 Try.underlying94 Try.infoU8 w.heap.size v2 l rfl (hown2.below ((Below.refl _ _).alloc (Nat.le_refl _) _)) (some ⟨w2.heap.size, 0, none⟩) 4 (Crc.le4 s) rfl (byteCells_row (by rw [heap_alloc_new, le4_cells s hs32]) HL.out) (fun e => by cases e) (by simp [Crc.le4]; omega) (by simp; omega) ?_; intro v3 w3 hown3 hgrow3)))
  go_ret
  refine ⟨v3, rfl, hown3, (hb2.alloc z2 _).trans ((hown2.below ((Below.refl _ _).alloc (Nat.le_refl _) _)).grown hgrow3 (by simp; omega))⟩
theorem le4_at (s k : Nat) (hk : k < 4) : (Crc.le4 s)[k]? = some (s / 256 ^ k % 256) := by
  have h : k = 0 ∨ k = 1 ∨ k = 2 ∨ k = 3 := by omega
  rcases h with rfl | rfl | rfl | rfl <;> simp [Crc.le4]
/-- what Open tells: two results -/
def OpenPost (r : Option (List Nat)) (k : Int) (w : World) (e : Ending) (w' : World) : Prop :=
  (∃ v, e = .returned (.tuple #[v, .int .i64 k]) ∧ (match r with | none => v = .slice none 0 0 | some l => OwnB w' 5 w.heap.size v l)) ∧ Below w.heap.size w w'
set_option maxRecDepth 100000 in
set_option maxHeartbeats 400000 in
theorem open_size (a : Option Addr) (l : List Nat) (cap : Nat) (w : World) (hlen : l.length < 4) :
    Calls Try.prog 89 #[.agg Tb.tabV, .slice a l.length cap] w (OpenPost none 14 w) := by
  have hB0 : Below w.heap.size w (w.alloc (.cells Tb.tabV 71)) := (Below.refl _ _).alloc (Nat.le_refl _) _
  go_enter Try.func89, Try.ntmps89
  go_wp2
  go_ret2
  exact ⟨⟨_, rfl, rfl⟩, hB0⟩
set_option maxRecDepth 100000 in
set_option maxHeartbeats 1000000 in
theorem open_at (a : Option Addr) (l : List Nat) (cap : Nat) (w : World) (hb : Bytes w a l) (hcap : a = none → cap = 0) (hlc : l.length ≤ cap) (h4 : 4 ≤ l.length) (hlen : l.length ≤ 140737488355000) :
    Calls Try.prog 89 #[.agg Tb.tabV, .slice a l.length cap] w (if l.drop (l.length - 4) = Crc.le4 (Crc.sum (l.take (l.length - 4))) then OpenPost (some (l.take (l.length - 4))) 0 w else OpenPost none 11 w) := by
  have hi : (Try.prog.info? 71).map (·.size) = some Tb.tabV.size := by rw [Tb.size_tabV]; exact (zero_of_info Try.infoTab).2
  have hI := Lib.hid hi
  clear hi
  obtain ⟨n, hn⟩ : ∃ n, n + 4 = l.length := ⟨l.length - 4, by omega⟩
  have hnn : l.length - 4 = n := by omega
  rw [hnn]
  have hnI : (l.length : Int) - 4 = (n : Int) := by omega
  have HN := Lib.hid hn
  clear hnn hn
  have hB0 : Below w.heap.size w (w.alloc (.cells Tb.tabV 71)) := (Below.refl _ _).alloc (Nat.le_refl _) _
  have hT0 := heap_alloc_new w (.cells Tb.tabV 71)
  have e4 : l.length - n = 4 := by have := HN.out; omega
  obtain ⟨b0, o0, c0, rfl, _⟩ := hb.at (show 0 < l.length by omega)
  have hbt := Lib.hid ((hb.below hB0).take n)
  have hs32 := Crc.sum_lt (hb.take n).1
  have HS := Lib.hid (fun (W : World) hb => sum_any (some ⟨b0, o0, none⟩) (l.take n) cap W hb (by simp; omega))
  rw [List.length_take, Nat.min_eq_left (by have := HN.out; omega)] at HS
  have hnc : (n : Int) ≤ (cap : Int) := by have := HN.out; omega
  have hnl : n ≤ l.length := by have := HN.out; omega
  generalize Crc.sum (l.take n) = s at *
  go_enter Try.func89, Try.ntmps89
  go_wp2_with fail
  refine wp_region_conf 5 [Fact.eq ?r4x0, Fact.eq ?r4x1, Fact.eq ?r4x2, Fact.eq ?r4x3, Fact.eq ?r4x4] ?r4A (by kernel_rfl) (by kernel_rfl) ?r4hA ?r4ho ?r4hend
  case r4hA =>
    intro vv
    simp only [putRules, Nat.reduceAdd]
    rfl
  case r4ho =>
    refine ⟨?_, ?_, ?_, ?_, ?_, trivial⟩
    · intro vv W K hB hd hK
      simp only [confRules] at hK
      have HK := Lib.hid hK
      clear hK hd
      have hT := (hB.block w.heap.size (by simp)).trans hT0
      go_wp2_with (refine wpList_load_row rfl 71 _ rfl w.heap.size rfl 71 _ _ _ hT Try.underlying71 rfl hI.out ?_)
      refine HK.out _ _ (Below.refl _ _) ?_
      rfl
    · intro vv W K hB hd hK
      simp only [confRules] at hK
      have HK := Lib.hid hK
      clear hK hd
      go_wp2
      refine HK.out _ _ (Below.refl _ _) ?_
      rfl
    · intro vv W K hB hd hK
      simp only [confRules] at hK
      have HK := Lib.hid hK
      clear hK hd
      go_wp2
      refine HK.out _ _ (Below.refl _ _) ?_
      rfl
    · intro vv W K hB hd hK
      simp only [confRules] at hd hK
      obtain ⟨h1, h2⟩ := hd
      simp only [h1, h2] at hK ⊢
      clear h1 h2
      have HK := Lib.hid hK
      clear hK
      go_wp2
      refine HK.out _ _ (Below.refl _ _) ?_
      rfl
    · intro vv W K hB hd hK
      simp only [confRules] at hd hK
      obtain ⟨h0, h3⟩ := hd
      simp only [h0, h3] at hK ⊢
      clear h0 h3
      have HK := Lib.hid hK
      clear hK
      go_wp2_with (go_at_call 96; refine (HS.out _ (hbt.out.below hB)).mono ?_; rintro e w8 ⟨rfl, hB8⟩)
      refine HK.out _ _ hB8 ?_
      rfl
  case r4hend =>
    intro vv W hB hf
    have e4 := hf 4 (by decide)
    simp only [endRules] at e4
    simp only [e4, dropRules]
    clear hf e4
    have hBW := hB0.trans (hB.mono (by simp))
    have hbW := hb.below hBW
    clear hB hT0 hbt HS hI hB0
    go_wp2
    go_loop [7, 24] (fun t i => ∃ k : Nat, k ≤ 4 ∧ i = .int .i64 k ∧ t = .int .u32 (s / 256 ^ k : Nat) ∧ (l.drop n).take k = (Crc.le4 s).take k) (fun _ i => 4 - (intOf i).toNat)
    case atStart => exact ⟨0, by omega, rfl, by simp, by simp⟩
    case round =>
      obtain ⟨k, hk, rfl, rfl, hpre⟩ := hrel
      by_cases hlt : k < 4
      · obtain ⟨b1, o1, c, e1, hbl, hc, hc8, hlk⟩ := hbW.at (show n + k < l.length by omega)
        cases e1
        have hc' : W.cell? ⟨b0, o0 + n + k, none⟩ = some (.int .u8 (c : Nat)) := by rw [Nat.add_assoc]; exact hc
        have ht32 : s / 256 ^ k < 2 ^ 32 := Nat.lt_of_le_of_lt (Nat.div_le_self _ _) hs32
        have hnx := Lib.hid (show s / 256 ^ k / 256 = s / 256 ^ (k + 1) by rw [Nat.div_div_eq_div_mul, Nat.pow_succ])
        have hby := Lib.hid (le4_at s k hlt)
        have HP := Lib.hid hpre
        have HK := Lib.hid (show (l.drop n)[k]? = some c by rw [List.getElem?_drop]; exact hlk)
        clear hpre hlk hc
        generalize s / 256 ^ k = t at *
        by_cases hct : c = t % 256
        · have hne : ((c : Int) != (t : Int) % 256) = false := by rw [bne_eq_false_iff_eq]; omega
          have hnx2 := Lib.hid (same_pref HP.out HK.out hby.out hct)
          clear hct
          go_wp2
          go_round
          case rel => exact ⟨k + 1, by omega, by go_num, by rw [← hnx.out]; rfl, hnx2.out⟩
          case measure => simp [intOf]; omega
        · have hne : ((c : Int) != (t : Int) % 256) = true := by rw [bne_iff_ne]; omega
          have hno := same_no HK.out hby.out hct
          have HNO := Lib.hid hno
          clear hct hno
          go_wp2
          go_ret2
          exact ⟨⟨_, rfl, rfl⟩, hBW⟩
      · obtain rfl : k = 4 := by omega
        have heq : l.drop n = Crc.le4 s := by
          have h1 : (l.drop n).length = 4 := by simp; omega
          rw [← h1, List.take_length] at hpre
          rw [hpre, h1]
          rfl
        have HEQ := Lib.hid heq
        have hbt := hbW.take n
        have hlt' : (l.take n).length = n := by simp; omega
        have HLT := Lib.hid hlt'
        clear heq hpre hlt hlt'
        have zW := hBW.size
        go_wp2_with (at_builtin; go_must (refine wpList_append_bytes rfl (.tmp 35) (.tmp 38) 94 rfl 5 Try.underlying94 Try.infoU8 w.heap.size _ [] rfl (OwnB.made (g := W.heap.size) zW (heap_alloc_new W _) rfl (by unfold maxLen; omega)) (some ⟨b0, o0, none⟩) cap (l.take n) (by rw [HLT.out]; rfl) (hbt.below ((Below.refl _ _).alloc (Nat.le_refl _) _)) (fun e => by cases e) (by simp; omega) (by simp; omega) ?_; intro v3 w3 hown3 hgrow3))
        go_ret2
        exact ⟨⟨v3, rfl, hown3⟩, (hBW.alloc zW _).trans (Below.of_grown hgrow3 (by simp; omega) (own_ge zW))⟩
end Go.Proofs.Ytjnneoejnpephaa
namespace Go.Proofs.Ytjnneoejnpephaa
open Go.RowKit Go.Rv Frm
set_option linter.unusedVariables false
theorem size_sec {l : List Nat} (h : l.length = 64) : (Try.prog.info? 77).map (·.size) = some (byteCells l).size := by rw [size_byteCells, h]; exact (zero_of_info Try.infoSector).2
theorem size_frm {f : Fr} (h : f.body.length = 44) : (Try.prog.info? 42).map (·.size) = some (FC f).size := by rw [FC_size, h]; exact (zero_of_info Try.infoFrame).2
theorem size_tab : (Try.prog.info? 71).map (·.size) = some Tb.tabV.size := by rw [Tb.size_tabV]; exact (zero_of_info Try.infoTab).2
/-- a sector and an error -/
def SecPost (l : List Nat) (k : Int) (w : World) (e : Ending) (w' : World) : Prop := e = .returned (.tuple #[.agg (byteCells l), .int .i64 k]) ∧ Below w.heap.size w w'
set_option maxRecDepth 100000 in
set_option maxHeartbeats 1000000 in
theorem encode_no (f : Fr) (w : World) (hb : Body f.body) (hr : rightF f = false) :
    Calls Try.prog 63 #[.agg Tb.tabV, .agg (FC f)] w (SecPost (List.replicate 64 0) 10 w) := by
  have hz := (zero_of_info Try.infoSector).1
  have hs0 : (List.replicate 64 0 : List Nat).length = 64 := by simp
  have hone := one_byteCells (List.replicate 64 0)
  have HI := Lib.hid (size_sec hs0)
  have HIF := Lib.hid (size_frm hb.1)
  have HR := Lib.hid (fun W => fright_any f W)
  rw [hr] at HR
  generalize hC : FC f = C at *
  generalize hZ : byteCells (List.replicate 64 0) = Z at *
  have HC := Lib.hid hC
  have HZ := Lib.hid hZ
  clear hr hC hZ hb
  have hB0 := below3 w (.cells Tb.tabV 71) (.cells C 42) (.cells Z 77)
  obtain ⟨hT0, hF0, hS0⟩ := alloc3_at w (.cells Tb.tabV 71) (.cells C 42) (.cells Z 77)
  go_enter Try.func63, Try.ntmps63
  go_wp2_with (first | (refine wpList_load_row rfl 42 _ rfl (w.heap.size + 1) rfl 42 _ _ _ hF0 Try.underlying42 rfl HIF.out ?_) | (go_at_call 20; refine (HR.out _).mono ?_; rintro e w1 ⟨rfl, hB1⟩; have hS1 := (hB1.block _ (by simp)).trans hS0) | (refine wpList_store_row rfl 77 _ _ rfl (w.heap.size + 1 + 1) Z rfl rfl 77 Z hS1 HI.out rfl hone ?_))
  refine bodyPost_ret (results_row_tmp rfl _ _ (w.heap.size + 1 + 1) 77 Z _ _ rfl (setRow_heap _ _ _ _ _ _ hS1) Try.underlying77 rfl HI.out) rfl ?_
  exact ⟨by rw [HZ.out]; rfl, below_setRow (hB0.trans (hB1.mono (by simp; omega))) (by omega) _⟩
theorem pow_of {n m k : Nat} (h : n ≤ m) (hk : m < 256 ^ k) : n < 256 ^ k := by omega
set_option maxRecDepth 100000 in
set_option maxHeartbeats 4000000 in
theorem encode_yes (f : Fr) (w : World) (hb : Body f.body) (hr : rightF f = true) :
    Calls Try.prog 63 #[.agg Tb.tabV, .agg (FC f)] w (SecPost (sectorOf f) 0 w) := by
  have hz := (zero_of_info Try.infoSector).1
  have hs0 : (List.replicate 64 0 : List Nat).length = 64 := by simp
  have hone := one_byteCells (sectorOf f)
  have HI := Lib.hid (size_sec (sector_length hb))
  have HIF := Lib.hid (size_frm hb.1)
  have HIT := Lib.hid size_tab
  have HR := Lib.hid (fun W => fright_any f W)
  rw [hr] at HR
  have hZZ : (byteCells (List.replicate 64 0)).size = (byteCells (sectorOf f)).size := by rw [size_byteCells, size_byteCells, sector_length hb]; rfl
  have HSE := Lib.hid (fun W a c hb' hn => seal_any a (frB f) c W hb' hn (by rw [frB_length hb]; omega))
  rw [frB_length hb] at HSE
  have HSL := Lib.hid (sector_length hb)
  have HFL := Lib.hid (frB_length hb)
  obtain ⟨k, z, o, e, s, hf, b1, b2, b3, b4, b5, b6, b7⟩ := right_nat hr
  have hcells := fun (W : World) g t h => frame_cells (w := W) (g := g) (f := f) (t := t) h
  have hbody := fun (W : World) g t h => frame_body (w := W) (g := g) (f := f) (t := t) h hb.2
  rw [show f.kind = (k : Int) by rw [hf], show f.zone = (z : Int) by rw [hf], show f.off = (o : Int) by rw [hf], show f.epoch = (e : Int) by rw [hf], show f.seq = (s : Int) by rw [hf]] at hcells
  obtain ⟨q1, hq1⟩ : ∃ q, q = [] ++ Cod.leN 1 k := ⟨_, rfl⟩
  obtain ⟨q2, hq2⟩ : ∃ q, q = q1 ++ Cod.leN 1 1 := ⟨_, rfl⟩
  obtain ⟨q3, hq3⟩ : ∃ q, q = q2 ++ Cod.leN 2 z := ⟨_, rfl⟩
  obtain ⟨q4, hq4⟩ : ∃ q, q = q3 ++ Cod.leN 2 o := ⟨_, rfl⟩
  obtain ⟨q5, hq5⟩ : ∃ q, q = q4 ++ Cod.leN 4 e := ⟨_, rfl⟩
  obtain ⟨q6, hq6⟩ : ∃ q, q = q5 ++ Cod.leN 6 s := ⟨_, rfl⟩
  have hq7 : frB f = q6 ++ f.body := by
    rw [hq6, hq5, hq4, hq3, hq2, hq1]
    conv => lhs; rw [hf]
    rfl
  have l1 : q1.length = 1 := by rw [hq1]; rfl
  have l2 : q2.length = 2 := by rw [hq2]; simp [l1, Cod.leN_length]
  have l3 : q3.length = 4 := by rw [hq3]; simp [l2, Cod.leN_length]
  have l4 : q4.length = 6 := by rw [hq4]; simp [l3, Cod.leN_length]
  have l5 : q5.length = 10 := by rw [hq5]; simp [l4, Cod.leN_length]
  have l6 : q6.length = 16 := by rw [hq6]; simp [l5, Cod.leN_length]
  have H1 := Lib.hid (fun g f W hP hf => pen_to g f [] q1 false 1 k 1 k W hP hf rfl rfl (by omega) (by omega) (pow_of (show k ≤ 255 by omega) (by decide)) (by simp) hq1)
  have H2 := Lib.hid (fun g f W hP hf => pen_to g f q1 q2 false 1 1 1 1 W hP hf rfl rfl (by omega) (by omega) (by decide) (by omega) hq2)
  have H3 := Lib.hid (fun g f W hP hf => pen_to g f q2 q3 false 2 z 2 z W hP hf rfl rfl (by omega) (by omega) (pow_of b3 (by decide)) (by omega) hq3)
  have H4 := Lib.hid (fun g f W hP hf => pen_to g f q3 q4 false 2 o 2 o W hP hf rfl rfl (by omega) (by omega) (pow_of b4 (by decide)) (by omega) hq4)
  have H5 := Lib.hid (fun g f W hP hf => pen_to g f q4 q5 false 4 e 4 e W hP hf rfl rfl (by omega) (by omega) (pow_of b6 (by decide)) (by omega) hq5)
  have H6 := Lib.hid (fun g f W hP hf => pen_to g f q5 q6 false 6 s 6 s W hP hf rfl rfl (by omega) (by omega) (pow_of b7 (by decide)) (by omega) hq6)
  have H7 := Lib.hid (fun g fp a W hP hf hb' hn => pen_bytes_to g fp q6 (frB f) false a f.body 44 44 W hP hf hb' hn (by omega) (by have := hb.1; omega) hb.1 hq7)
  have HC := Lib.hid hcells
  have HB := Lib.hid hbody
  have HSO := Lib.hid (show sectorOf f = frB f ++ Crc.le4 (Crc.sum (frB f)) from rfl)
  clear hq1 hq2 hq3 hq4 hq5 hq6 hq7 l1 l2 l3 l4 l5 l6 hr hcells hbody hf hb
  generalize hFC : FC f = C at *
  generalize hZ : byteCells (List.replicate 64 0) = Z at *
  clear hZ hFC
  have hB0 := below3 w (.cells Tb.tabV 71) (.cells C 42) (.cells Z 77)
  obtain ⟨hT0, hF0, hS0⟩ := alloc3_at w (.cells Tb.tabV 71) (.cells C 42) (.cells Z 77)
  go_enter Try.func63, Try.ntmps63
  go_wp2_with (refine wpList_load_row rfl 42 _ rfl (w.heap.size + 1) rfl 42 _ _ _ hF0 Try.underlying42 rfl HIF.out ?_)
  refine (HR.out _).mono ?_
  rintro e1 w1 ⟨rfl, hB1⟩
  have z1 := hB1.size
  simp only [World.size_alloc] at z1
  have hT1 := (hB1.block w.heap.size (by simp; omega)).trans hT0
  have hF1 := (hB1.block (w.heap.size + 1) (by simp)).trans hF0
  have hS1 := (hB1.block (w.heap.size + 1 + 1) (by simp)).trans hS0
  have hB1' := hB0.trans (hB1.mono (by simp; omega))
  have hP1 := PenAt.new w1
  have hg := hP1.lt
  clear hT0 hF0 hS0 hB0 hB1
  have hba : Below w1.heap.size w1 (w1.alloc (.cells #[.slice none 0 0, .bool false] 134)) := (Below.refl _ _).alloc (Nat.le_refl _) _
  have hTa := (hba.block w.heap.size (by omega)).trans hT1
  have hFa := (hba.block (w.heap.size + 1) (by omega)).trans hF1
  have hSa := (hba.block (w.heap.size + 1 + 1) (by omega)).trans hS1
  have hBwa := hB1'.trans (hba.mono (by omega))
  have hfa : ∀ j, (none : Option Nat) = some j → w1.heap.size < j := fun j h => (by cases h)
  obtain ⟨ca0, ca1, ca2, ca3, ca4⟩ := HC.out _ _ _ hFa
  clear hT1 hF1 hS1 hB1'
  go_wp2_with fail
  refine (H1.out _ _ _ hP1 hfa).mono ?_
  rintro eb1 wb1 ⟨rfl, fb1, hPb1, hfb1, hBb1⟩
  have hTb1 := (hBb1.block w.heap.size (by omega)).trans hTa
  have hFb1 := (hBb1.block (w.heap.size + 1) (by omega)).trans hFa
  have hSb1 := (hBb1.block (w.heap.size + 1 + 1) (by omega)).trans hSa
  have hBwb1 := hBwa.trans (hBb1.mono (by omega))
  obtain ⟨cb10, cb11, cb12, cb13, cb14⟩ := HC.out _ _ _ hFb1
  clear hTa hFa hSa hBwa hBb1
  go_wp2_with fail
  refine (H2.out _ _ _ hPb1 hfb1).mono ?_
  rintro eb2 wb2 ⟨rfl, fb2, hPb2, hfb2, hBb2⟩
  have hTb2 := (hBb2.block w.heap.size (by omega)).trans hTb1
  have hFb2 := (hBb2.block (w.heap.size + 1) (by omega)).trans hFb1
  have hSb2 := (hBb2.block (w.heap.size + 1 + 1) (by omega)).trans hSb1
  have hBwb2 := hBwb1.trans (hBb2.mono (by omega))
  obtain ⟨cb20, cb21, cb22, cb23, cb24⟩ := HC.out _ _ _ hFb2
  clear hTb1 hFb1 hSb1 hBwb1 hBb2
  go_wp2_with fail
  refine (H3.out _ _ _ hPb2 hfb2).mono ?_
  rintro eb3 wb3 ⟨rfl, fb3, hPb3, hfb3, hBb3⟩
  have hTb3 := (hBb3.block w.heap.size (by omega)).trans hTb2
  have hFb3 := (hBb3.block (w.heap.size + 1) (by omega)).trans hFb2
  have hSb3 := (hBb3.block (w.heap.size + 1 + 1) (by omega)).trans hSb2
  have hBwb3 := hBwb2.trans (hBb3.mono (by omega))
  obtain ⟨cb30, cb31, cb32, cb33, cb34⟩ := HC.out _ _ _ hFb3
  clear hTb2 hFb2 hSb2 hBwb2 hBb3
  go_wp2_with fail
  refine (H4.out _ _ _ hPb3 hfb3).mono ?_
  rintro eb4 wb4 ⟨rfl, fb4, hPb4, hfb4, hBb4⟩
  have hTb4 := (hBb4.block w.heap.size (by omega)).trans hTb3
  have hFb4 := (hBb4.block (w.heap.size + 1) (by omega)).trans hFb3
  have hSb4 := (hBb4.block (w.heap.size + 1 + 1) (by omega)).trans hSb3
  have hBwb4 := hBwb3.trans (hBb4.mono (by omega))
  obtain ⟨cb40, cb41, cb42, cb43, cb44⟩ := HC.out _ _ _ hFb4
  clear hTb3 hFb3 hSb3 hBwb3 hBb4
  go_wp2_with fail
  refine (H5.out _ _ _ hPb4 hfb4).mono ?_
  rintro eb5 wb5 ⟨rfl, fb5, hPb5, hfb5, hBb5⟩
  have hTb5 := (hBb5.block w.heap.size (by omega)).trans hTb4
  have hFb5 := (hBb5.block (w.heap.size + 1) (by omega)).trans hFb4
  have hSb5 := (hBb5.block (w.heap.size + 1 + 1) (by omega)).trans hSb4
  have hBwb5 := hBwb4.trans (hBb5.mono (by omega))
  obtain ⟨cb50, cb51, cb52, cb53, cb54⟩ := HC.out _ _ _ hFb5
  clear hTb4 hFb4 hSb4 hBwb4 hBb5
  go_wp2_with fail
  refine (H6.out _ _ _ hPb5 hfb5).mono ?_
  rintro eb6 wb6 ⟨rfl, fb6, hPb6, hfb6, hBb6⟩
  have hTb6 := (hBb6.block w.heap.size (by omega)).trans hTb5
  have hFb6 := (hBb6.block (w.heap.size + 1) (by omega)).trans hFb5
  have hSb6 := (hBb6.block (w.heap.size + 1 + 1) (by omega)).trans hSb5
  have hBwb6 := hBwb5.trans (hBb6.mono (by omega))
  obtain ⟨cb60, cb61, cb62, cb63, cb64⟩ := HC.out _ _ _ hFb6
  clear hTb5 hFb5 hSb5 hBwb5 hBb6
  go_wp2_with fail
  refine (H7.out _ _ _ _ hPb6 hfb6 (HB.out _ _ _ hFb6) (fun e => by cases e)).mono ?_
  rintro e8 w8 ⟨rfl, f8, hP8, hf8, hB8⟩
  have hT8 := (hB8.block w.heap.size (by omega)).trans hTb6
  have hS8 := (hB8.block (w.heap.size + 1 + 1) (by omega)).trans hSb6
  have hBw8 := hBwb6.trans (hB8.mono (by omega))
  have hg8 := hP8.lt
  go_wp2_with fail
  refine (pen_out _ _ _ _ _ hP8 (by rw [HFL.out]; omega)).mono ?_
  rintro e9 w9 ⟨⟨v9, rfl, hown9, -⟩, hB9⟩
  simp only [Bool.false_eq_true, if_false] at hown9
  obtain ⟨a9, c9, rfl, hb9, hn9, -⟩ := hown9.bytes
  rw [HFL.out]
  have hT9 := (hB9.block w.heap.size (by omega)).trans hT8
  have hS9 := (hB9.block (w.heap.size + 1 + 1) (by omega)).trans hS8
  have hBw9 := hBw8.trans (hB9.mono (by omega))
  have z9 := hB9.size
  have hat : ∀ (g c : Nat) (W : World), (Instr.arrayAt 77 (.slice (some ⟨g, 0, none⟩) 64 c)).run Try.prog W = .ok (.pointer (some ⟨g, 0, none⟩)) W := fun g c W => run_arrayAt W 77 _ 64 _ 64 c Try.underlying77 (by omega)
  have HSE9 := Lib.hid (HSE.out w9 a9 c9 hb9 hn9)
  rw [← HSO.out] at HSE9
  go_wp2_with (first | (refine wpList_load_row rfl 71 _ rfl w.heap.size rfl 71 _ _ _ hT9 Try.underlying71 rfl HIT.out ?_) | (go_at_call 83; refine HSE9.out.mono ?_; rintro e10 w10 ⟨v10, rfl, hown10, hB10⟩; obtain ⟨g10, c10, rfl, hg10, hgl10, hlc10, hcm10, hc10, -⟩ := hown10.open (by rw [HSL.out]; omega); rw [HSL.out] at hlc10 ⊢; have hS10 := (hB10.block (w.heap.size + 1 + 1) (by omega)).trans hS9; have hR10 : w10.rangeAt g10 0 ((sectorOf f).map fun c => Value.int .u8 (c : Nat)) := (by intro j v hv; simp only [List.getElem?_map, Option.map_eq_some_iff] at hv; obtain ⟨x, hx, rfl⟩ := hv; rw [Nat.zero_add, hc10 j (List.getElem?_eq_some_iff.1 hx).1, List.getD_eq_getElem?_getD, hx]; rfl); clear hc10) | (refine wpList_load_mid rfl 77 _ rfl g10 0 rfl _ _ hR10 Try.underlying77 rfl (by rw [HI.out]; simp [byteCells]) ?_) | (refine wpList_store_row rfl 77 _ _ rfl (w.heap.size + 1 + 1) (byteCells (sectorOf f)) rfl rfl 77 Z hS10 HI.out hZZ hone ?_))
  refine bodyPost_ret (results_row_tmp rfl _ _ (w.heap.size + 1 + 1) 77 (byteCells (sectorOf f)) _ _ rfl (setRow_heap _ _ _ _ _ _ hS10) Try.underlying77 rfl HI.out) rfl ?_
  exact ⟨rfl, below_setRow (hBw9.trans (hB10.mono hBw9.size)) (by omega) _⟩
end Go.Proofs.Ytjnneoejnpephaa
namespace Go.Proofs.Ytjnneoejnpephaa
open Go.RowKit Go.Rv Frm
set_option linter.unusedVariables false
attribute [local go_sem ↓] Go.wp_at_zero Go.wp_at_succ
theorem range_row {w : World} {b : Nat} {C : Array Value} {t : TypeId} {fr : Nat × Nat} (hg : w.heap[b]? = some (.cells C t fr)) : w.rangeAt b 0 C.toList := by
  intro j v hv
  rw [cell_of_row _ _ _ _ _ _ hg, Nat.zero_add]
  simpa using hv
theorem RdAt.under {w w' : World} {B C g : Nat} {l : List Nat} {bad : Bool} (h : RdAt w B g l bad) (hB : Below C w w') (hC : g < C) : RdAt w' B g l bad := by
  obtain ⟨a, cap, hh, hb, h1, h2, h3, h4⟩ := h
  refine ⟨a, cap, (hB.block g hC).trans hh, ⟨hb.1, ?_⟩, h1, h2, h3, h4⟩
  rcases hb.2 with h | ⟨bb, oo, rfl, hlt, hc⟩
  · exact .inl h
  · have hbb : bb < g := (h4 _ rfl).1
    exact .inr ⟨bb, oo, rfl, Nat.lt_of_lt_of_le hlt hB.size, fun i hi => by rw [hB.cell (by show bb < C; omega)]; exact hc i hi⟩
/-- a whole row is loaded behind a guard that asks for it -/
theorem wpList_load_row_asked {P : Program} {ops : Array Oper} {rest : List Oper} {o : Oper} {a : Act} {w : World} {Q : Exit → Act → World → Prop} (hgd : Region.wanted o (yielded ops a.tmps) = true) (ty : TypeId) (x : Operand) (ho : o.op = .load ty x)
    (g : Nat) (hx : a.eval x = .pointer (some ⟨g, 0, none⟩)) (t : TypeId) (cs : Array Value) (fr : Nat × Nat) (d : TypeDesc) (hg : w.heap[g]? = some (.cells cs t fr))
    (hu : P.underlying ty = some d) (hd : (match d with | .struct _ | .array _ _ => true | _ => false) = true) (hi : (P.info? ty).map (·.size) = some cs.size)
    (h : wpList P ops Q rest (a.put o.dst (.agg cs)) w) : wpList P ops Q (o :: rest) a w := by
  unfold wpList
  rw [if_pos hgd]
  exact .inl (wp_load_row ty x ho g hx t cs fr d hg hu hd hi h)
/-- a frame and an error -/
def FrmPost (r : Fr × Int) (w : World) (e : Ending) (w' : World) : Prop := e = .returned (.tuple #[.agg (FC r.1), .int .i64 r.2]) ∧ Below w.heap.size w w'
theorem FC_sets (f : Fr) (v : Int) : (FC f).setIfInBounds 0 (.int .i64 v) = FC { f with kind := v } ∧ (FC f).setIfInBounds 1 (.int .i64 v) = FC { f with zone := v } ∧ (FC f).setIfInBounds 2 (.int .i64 v) = FC { f with off := v } ∧ (FC f).setIfInBounds 3 (.int .i64 v) = FC { f with epoch := v } ∧ (FC f).setIfInBounds 4 (.int .i64 v) = FC { f with seq := v } := by
  refine ⟨?_, ?_, ?_, ?_, ?_⟩ <;> (unfold FC; apply Array.toList_inj.1; simp)
theorem splice_FC (f : Fr) (b : List Nat) (hf : f.body.length = 44) (hb : b.length = 44) : splice (FC f).toList 5 (b.map bv) = (FC { f with body := b }).toList := by
  unfold splice FC byteCells bv
  simp [hb]
  omega
theorem src_cells {w : World} {b : Option Addr} {m : List Nat} (hb : Bytes w b m) (N : Nat) (h0 : 0 < ((m.take N).map bv).length) : ∃ ad, b = some ad ∧ ∀ (j : Nat) (v : Value), ((m.take N).map bv)[j]? = some v → w.cell? (ad.add j) = some v := by
  simp at h0
  obtain ⟨b1, o1, c1, rfl, _⟩ := hb.at (k := 0) (by omega)
  refine ⟨_, rfl, fun j v hv => ?_⟩
  simp only [List.getElem?_map, Option.map_eq_some_iff] at hv
  obtain ⟨x, hx, rfl⟩ := hv
  have hj : j < m.length := by have := (List.getElem?_eq_some_iff.1 hx).1; simp at this; omega
  obtain ⟨b2, o2, c2, e, _, hc, _, hl⟩ := hb.at hj
  cases e
  have hadd : (⟨b1, o1, none⟩ : Addr).add j = ⟨b1, o1 + j, none⟩ := by unfold Addr.add; split <;> simp_all
  rw [hadd, hc]
  rw [List.getElem?_take] at hx
  split at hx
  · rw [hl] at hx; cases hx; rfl
  · cases hx
theorem rd_to {B : Nat} (g : Nat) (l q : List Nat) (x k : Nat) (K : Int) (w : World) (hR : RdAt w B g l false) (hK : K = k) (h1 : 1 ≤ k) (h7 : k ≤ 7) (hk : k ≤ l.length) (hx : x = Cod.rd (l.take k)) (hq : q = l.drop k) :
    Calls Try.prog 78 #[.pointer (some ⟨g, 0, none⟩), .int .i64 K] w (RdNumPost B g x q false w) := by
  subst hK hx hq
  exact rd_num_yes g l k w hR h1 h7 hk
set_option maxRecDepth 100000 in
set_option maxHeartbeats 1000000 in
theorem decode_any (s : List Nat) (w : World) (hl : s.length = 64) (hs : ∀ c ∈ s, c < 256) :
    Calls Try.prog 70 #[.agg Tb.tabV, .agg (byteCells s)] w (FrmPost (decF s) w) := by
  have hz := (zero_of_info Try.infoFrame).1
  have hone := FC_one Fr.zero
  have HIZ := Lib.hid (size_frm (f := Fr.zero) (by simp [Fr.zero]))
  have HI := Lib.hid (size_sec hl)
  have hIT := size_tab
  have hOP := fun (W : World) (g : Nat) hb => open_at (some ⟨g, 0, none⟩) s 64 W hb (fun e => by cases e) (by omega) (by omega) (by omega)
  rw [hl] at hOP
  rw [show 64 - 4 = 60 from rfl] at hOP
  obtain ⟨hT0, hF0, hS0⟩ := alloc3_at w (.cells Tb.tabV 71) (.cells (byteCells s) 77) (.cells (FC Fr.zero) 42)
  have hB0 := below3 w (.cells Tb.tabV 71) (.cells (byteCells s) 77) (.cells (FC Fr.zero) 42)
  have hsb := byteCells_row hF0 hs
  generalize hZ : FC Fr.zero = Z at *
  have HZ := Lib.hid hZ
  generalize hSC : byteCells s = SC at *
  have HSC := Lib.hid hSC
  clear hZ hSC
  by_cases hsum : s.drop 60 = Crc.le4 (Crc.sum (s.take 60))
  · have hb60 : (s.take 60).length = 60 := by simp; omega
    have hd : decF s = (if verF (s.take 60) = 1 ∧ rightF (parseF (s.take 60)) = true then (parseF (s.take 60), 0) else (Fr.zero, 10)) := by unfold decF; rw [if_pos hsum]
    have HO := Lib.hid (fun W g hb => hOP W g hb)
    have hb8 : ∀ c ∈ s.take 60, c < 256 := fun c hc => hs c (List.mem_of_mem_take hc)
    have HOP := Lib.hid (show ∀ (W : World) (g : Nat), Bytes W (some ⟨g, 0, none⟩) s → Calls Try.prog 89 #[.agg Tb.tabV, .slice (some ⟨g, 0, none⟩) 64 64] W (OpenPost (some (s.take 60)) 0 W) from fun W g hb => by have := HO.out W g hb; rw [if_pos hsum] at this; exact this)
    rw [hd]
    clear hOP HO hsum hd
    have hlT : Tb.tabV.toList.length = 256 := by rw [Array.length_toList, Tb.size_tabV]
    have h1T : ∀ v ∈ Tb.tabV.toList, v.oneCell' = true := by
      intro v hv
      have := Tb.one_tabV
      rw [Array.all_eq_true_iff_forall_mem] at this
      exact this v (by simpa using hv)
    have hIT' : (Try.prog.info? 71).map (·.size) = some Tb.tabV.toList.length := by rw [Array.length_toList]; exact hIT
    clear hIT
    generalize Tb.tabV = TV at *
    obtain ⟨TL⟩ := TV
    simp only at hlT h1T hIT'
    have hrT := range_row hT0
    have hu := Try.underlying71
    have hbs := hsb
    clear hsb
    generalize s.take 60 = b at *
    obtain ⟨r, hr⟩ : ∃ r : Fr × Int, (if verF b = 1 ∧ rightF (parseF b) = true then (parseF b, 0) else (Fr.zero, 10)) = r := ⟨_, rfl⟩
    rw [hr]
    have HRR := Lib.hid hr
    clear hr
    have HB60 := Lib.hid hb60
    have HB8 := Lib.hid hb8
    clear hb60 hb8
    go_enter Try.func70, Try.ntmps70
    go_wp2_with fail
    go_region_held3 (fun W => W.rangeAt w.heap.size 0 TL) (first | assumption | go_keep_ranges) (first | (go_at_call 89; refine (HOP.out _ (w.heap.size + 1) (hbs.below (Below.refl _ _).drew)).mono ?_; rintro e w1 ⟨⟨v1, rfl, hown1⟩, hB1⟩; have hown1' : OwnB w1 5 _ v1 b := hown1; obtain ⟨a1, c1, hv1, hb1, hn1, -⟩ := hown1'.bytes; subst hv1; have hr1 : w1.rangeAt w.heap.size 0 TL := range_row ((hB1.block w.heap.size (by simp; omega)).trans hT0)))
    have hB1' : Below w.heap.size w w1 := hB0.drew.trans (hB1.mono (by simp; omega))
    have hS1 := (hB1.block (w.heap.size + 1 + 1) (by simp)).trans hS0
    have z1 : w.heap.size + 1 + 1 < w1.heap.size := (Array.getElem?_eq_some_iff.1 hS1).1
    clear hrT hr1 hT0 hu hIT' hlT h1T hB1 hB0 hF0 hS0 hbs HOP hown1 hown1'
    have HNW := Lib.hid (rd_new a1 b c1 w1 hb1 hn1 (by rw [HB60.out]; omega))
    go_wp2_with fail
    refine HNW.out.mono ?_
    rintro e2 w2 ⟨g, rfl, hg, hR2, hB2⟩
    have hS2 := (hB2.block (w.heap.size + 1 + 1) (by omega)).trans hS1
    have hBw2 := hB1'.trans (hB2.mono (by omega))
    have hgH : w.heap.size + 1 + 1 < g := by omega
    have hgl := hR2.lt
    generalize w1.heap.size = B at hR2
    clear HNW hS1 hB1' hB2 hg z1 hb1 hn1
    obtain ⟨x0, hx0⟩ : ∃ x, x = Cod.rd (b.take 1) := ⟨_, rfl⟩
    obtain ⟨x1, hx1⟩ : ∃ x, x = Cod.rd ((b.drop 1).take 1) := ⟨_, rfl⟩
    obtain ⟨x2, hx2⟩ : ∃ x, x = Cod.rd ((b.drop 2).take 2) := ⟨_, rfl⟩
    obtain ⟨x3, hx3⟩ : ∃ x, x = Cod.rd ((b.drop 4).take 2) := ⟨_, rfl⟩
    obtain ⟨x4, hx4⟩ : ∃ x, x = Cod.rd ((b.drop 6).take 4) := ⟨_, rfl⟩
    obtain ⟨x5, hx5⟩ : ∃ x, x = Cod.rd ((b.drop 10).take 6) := ⟨_, rfl⟩
    have hbl := HB60.out
    have K0 := Lib.hid (fun W (hR : RdAt W B g b false) => rd_to g b (b.drop 1) x0 1 1 W hR rfl (by omega) (by omega) (by omega) hx0 rfl)
    have K1 := Lib.hid (fun W (hR : RdAt W B g (b.drop 1) false) => rd_to g (b.drop 1) (b.drop 2) x1 1 1 W hR rfl (by omega) (by omega) (by rw [List.length_drop]; omega) hx1 (by rw [List.drop_drop]))
    have K2 := Lib.hid (fun W (hR : RdAt W B g (b.drop 2) false) => rd_to g (b.drop 2) (b.drop 4) x2 2 2 W hR rfl (by omega) (by omega) (by rw [List.length_drop]; omega) hx2 (by rw [List.drop_drop]))
    have K3 := Lib.hid (fun W (hR : RdAt W B g (b.drop 4) false) => rd_to g (b.drop 4) (b.drop 6) x3 2 2 W hR rfl (by omega) (by omega) (by rw [List.length_drop]; omega) hx3 (by rw [List.drop_drop]))
    have K4 := Lib.hid (fun W (hR : RdAt W B g (b.drop 6) false) => rd_to g (b.drop 6) (b.drop 10) x4 4 4 W hR rfl (by omega) (by omega) (by rw [List.length_drop]; omega) hx4 (by rw [List.drop_drop]))
    have K5 := Lib.hid (fun W (hR : RdAt W B g (b.drop 10) false) => rd_to g (b.drop 10) (b.drop 16) x5 6 6 W hR rfl (by omega) (by omega) (by rw [List.length_drop]; omega) hx5 (by rw [List.drop_drop]))
    have K6 := Lib.hid (fun W (hR : RdAt W B g (b.drop 16) false) => rd_bytes_yes g (b.drop 16) 44 W hR (by rw [List.length_drop]; omega))
    have HX := Lib.hid (show parseF b = ⟨x0, x2, x3, x4, x5, (b.drop 16).take 44⟩ ∧ verF b = x1 by rw [hx0, hx1, hx2, hx3, hx4, hx5]; exact ⟨rfl, rfl⟩)
    clear hx0 hx1 hx2 hx3 hx4 hx5 hbl
    go_wp2_with fail
    refine (K0.out _ hR2).mono ?_
    rintro e3 w3 ⟨rfl, hR3, hO3⟩
    have hS3 := (hO3.block (w.heap.size + 1 + 1) (by omega) (by simp; omega)).trans hS2
    have hBw3 := hBw2.trans (hO3.below (by simp; omega) hBw2.size)
    have z3 := hO3.size
    obtain ⟨f0, hf0⟩ : ∃ f : Fr, f = ⟨x0, 0, 0, 0, 0, List.replicate 44 0⟩ := ⟨_, rfl⟩
    have hq0 : Z.setIfInBounds 0 (.int .i64 (x0 : Nat)) = FC f0 := by rw [← HZ.out, (FC_sets Fr.zero x0).1, hf0]; rfl
    have hze : ¬ Z = #[] := by
      intro h
      have : Z.size = 49 := by rw [← HZ.out, FC_size]; simp [Fr.zero]
      rw [h] at this
      simp at this
    have hone0 := FC_one f0
    have HIF0 := Lib.hid (size_frm (f := f0) (by rw [hf0]; simp))
    have HSZ0 := Lib.hid (show Z.size = (FC f0).size by rw [← HZ.out, FC_size, FC_size, hf0]; rfl)
    have HF0 := Lib.hid hf0
    clear hf0
    generalize hC0 : FC f0 = C0 at *
    have HC0 := Lib.hid hC0
    clear hC0
    have hba : Below w3.heap.size w3 (w3.alloc (.cells C0 42)) := (Below.refl _ _).alloc (Nat.le_refl _) _
    have hG4 := heap_alloc_new w3 (.cells C0 42)
    have hS4 := (hba.block (w.heap.size + 1 + 1) (by omega)).trans hS3
    have hR4 := hR3.below hba
    have hBw4 := hBw3.trans (hba.mono hBw3.size)
    go_wp2_with (first | (refine wpList_store_row rfl 42 _ _ rfl w3.heap.size C0 rfl rfl 42 Z (heap_alloc_new w3 _) HIF0.out HSZ0.out hone0 ?_; rw [World.setRow_alloc_new]))
    have hgf : g < w3.heap.size := by omega
    refine (K1.out _ hR4).mono ?_
    rintro e5 w5 ⟨rfl, hR5, hO5⟩
    have hS5 := (hO5.block (w.heap.size + 1 + 1) (by simp; omega) (by simp; omega)).trans hS4
    have hG5 := (hO5.block w3.heap.size (by simp) (by simp; omega)).trans hG4
    rw [← HC0.out] at hG5
    have hBw5 := hBw4.trans (hO5.below (by simp; omega) hBw4.size)
    have z5 := (Array.getElem?_eq_some_iff.1 hG5).1
    clear hS2 hBw2 hS3 hBw3 hS4 hBw4 hG4 hR4 hR2 hR3 hO3 hO5 hba
    go_wp2_with fail
    refine (K2.out _ hR5).mono ?_
    rintro e6 w6 ⟨rfl, hR6, hO6⟩
    have hS6 := (hO6.block (w.heap.size + 1 + 1) (by omega) (by simp; omega)).trans hS5
    have hG6 := (hO6.block w3.heap.size (by omega) (by simp; omega)).trans hG5
    have hBw6 := hBw5.trans (hO6.below (by simp; omega) hBw5.size)
    have z6 := hO6.size
    go_wp2_with fail
    refine (K3.out _ hR6).mono ?_
    rintro e7 w7 ⟨rfl, hR7, hO7⟩
    have hS7 := (hO7.block (w.heap.size + 1 + 1) (by omega) (by simp; omega)).trans hS6
    have hG7 := (hO7.block w3.heap.size (by omega) (by simp; omega)).trans hG6
    have hBw7 := hBw6.trans (hO7.below (by simp; omega) hBw6.size)
    have z7 := hO7.size
    go_wp2_with fail
    refine (K4.out _ hR7).mono ?_
    rintro e8 w8 ⟨rfl, hR8, hO8⟩
    have hS8 := (hO8.block (w.heap.size + 1 + 1) (by omega) (by simp; omega)).trans hS7
    have hG8 := (hO8.block w3.heap.size (by omega) (by simp; omega)).trans hG7
    have hBw8 := hBw7.trans (hO8.below (by simp; omega) hBw7.size)
    have z8 := hO8.size
    go_wp2_with fail
    refine (K5.out _ hR8).mono ?_
    rintro e9 w9 ⟨rfl, hR9, hO9⟩
    have hS9 := (hO9.block (w.heap.size + 1 + 1) (by omega) (by simp; omega)).trans hS8
    have hG9 := (hO9.block w3.heap.size (by omega) (by simp; omega)).trans hG8
    have hBw9 := hBw8.trans (hO9.below (by simp; omega) hBw8.size)
    have z9 := hO9.size
    clear hS5 hS6 hS7 hS8 hG5 hG6 hG7 hG8 hBw5 hBw6 hBw7 hBw8 hR5 hR6 hR7 hR8 hO6 hO7 hO8 hO9
    obtain ⟨-, d1, d2, d3, d4⟩ := frame_cells hG9
    have fz : ∀ i, w9.frozen? ⟨w3.heap.size, i, none⟩ = false := fun i => frozen_of_row _ _ _ _ _ hG9
    have fz1 := fz 1
    have fz2 := fz 2
    have fz3 := fz 3
    have fz4 := fz 4
    clear fz
    obtain ⟨wA, hwA⟩ : ∃ W : World, (((w9.setCell ⟨w3.heap.size, 1, none⟩ (.int .i64 x2)).setCell ⟨w3.heap.size, 2, none⟩ (.int .i64 x3)).setCell ⟨w3.heap.size, 3, none⟩ (.int .i64 x4)).setCell ⟨w3.heap.size, 4, none⟩ (.int .i64 x5) = W := ⟨_, rfl⟩
    have hOA : Only [w3.heap.size] w9 wA := by rw [← hwA]; exact ((((Only.refl _ _).setCell (by simp) _).setCell (by simp) _).setCell (by simp) _).setCell (by simp) _
    have hGA : wA.heap[w3.heap.size]? = some (.cells (FC ⟨x0, x2, x3, x4, x5, List.replicate 44 0⟩) 42 (0, 0)) := by
      rw [← hwA, heap_setCell_same _ _ _ _ _ _ (heap_setCell_same _ _ _ _ _ _ (heap_setCell_same _ _ _ _ _ _ (heap_setCell_same _ _ _ _ _ _ hG9)))]
      rw [(FC_sets _ _).2.1, (FC_sets _ _).2.2.1, (FC_sets _ _).2.2.2.1, (FC_sets _ _).2.2.2.2, HF0.out]
    have hSA := (hOA.block (w.heap.size + 1 + 1) (by omega) (by simp; omega)).trans hS9
    have hRA := hR9.only hOA (by simp; omega) (by simp; omega)
    have hBwA := hBw9.trans (hOA.below (by simp; omega) hBw9.size)
    have zA : w3.heap.size < wA.heap.size := (Array.getElem?_eq_some_iff.1 hGA).1
    have HWA := Lib.hid hwA
    clear hwA
    go_wp2_with fail
    rw [HWA.out]
    clear hOA hS9 hR9 hBw9 hG9 d1 d2 d3 d4 fz1 fz2 fz3 fz4 z9 z8 z7 z6 z5
    have hcur : (FC ⟨x0, x2, x3, x4, x5, List.replicate 44 0⟩).toList.length = 49 := by rw [Array.length_toList, FC_size]; simp
    have hbl : ((b.drop 16).take 44).length = 44 := by have := HB60.out; simp; omega
    obtain ⟨cur, hcu⟩ : ∃ cur, cur = (FC ⟨x0, x2, x3, x4, x5, List.replicate 44 0⟩).toList := ⟨_, rfl⟩
    have hGA' : wA.heap[w3.heap.size]? = some (.cells cur.toArray 42 (0, 0)) := by rw [hcu, Array.toArray_toList]; exact hGA
    rw [← hcu] at hcur
    obtain ⟨cs, hcs⟩ : ∃ cs, cs = ((b.drop 16).take 44).map bv := ⟨_, rfl⟩
    have hcsl : cs.length = 44 := by rw [hcs, List.length_map, hbl]
    have hsp : splice cur 5 cs = (FC ⟨x0, x2, x3, x4, x5, (b.drop 16).take 44⟩).toList := by rw [hcu, hcs]; exact splice_FC ⟨x0, x2, x3, x4, x5, List.replicate 44 0⟩ _ (by simp) hbl
    have h1c : ∀ v ∈ cs, v.oneCell' = true := by
      intro v hv
      rw [hcs] at hv
      simp only [List.mem_map] at hv
      obtain ⟨y, _, rfl⟩ := hv
      rfl
    have HSP := Lib.hid hsp
    have HCS := Lib.hid hcs
    have H1C := Lib.hid h1c
    have HFIT := Lib.hid (show 5 + cs.length ≤ cur.length by rw [hcsl, hcur]; omega)
    have HN44 := Lib.hid (show cs.length = Nat.min 44 44 by rw [hcsl]; rfl)
    have HCL := Lib.hid hcsl
    have HCUR := Lib.hid hcur
    have HGA := Lib.hid hGA'
    clear hsp hcs h1c hcsl hcur hcu hGA hGA' hbl
    have hszb : (Try.prog.info? 5).map (·.size) = some 1 := by kernel_rfl
    have HSZB := Lib.hid hszb
    clear hszb
    go_region_held3 (fun _ => True) (trivial) (first | (go_at_call 90; refine (K6.out _ (hRA.below (Below.refl _ _).drew)).mono ?_; rintro e10 w10 ⟨ax, rfl, hbx, hnx, hxx, hR10, hO10⟩; have hG10 := (hO10.block w3.heap.size (by simpa using zA) (by simp; omega)).trans HGA.out; have hS10 := (hO10.block (w.heap.size + 1 + 1) (by simp; omega) (by simp; omega)).trans hSA; have hBw10 := hBwA.drew.trans (hO10.below (by simp; omega) hBwA.size); have hsrc : ∃ ad, ax = some ad ∧ ∀ (j : Nat) (v : Value), cs[j]? = some v → w10.cell? (ad.add j) = some v := (by rw [HCS.out]; have h := src_cells hbx 44 (by have := HB60.out; simp; omega); rw [List.take_take] at h; simpa using h); have HSRC := Lib.hid hsrc; clear hsrc) | (refine step_copy_splice rfl (.tmp 41) (.tmp 43) 94 94 rfl 5 Try.underlying94 HSZB.out (some ⟨w3.heap.size, 5, none⟩) ax 44 44 44 44 (by rfl) (by rfl) w3.heap.size 5 cur 42 hG10 cs HN44.out (fun _ => ⟨rfl, HSRC.out⟩) HFIT.out H1C.out w3.heap.size _ (Below.refl _ _) (Nat.le_refl _) ?_; intro w11 HG11 hB11))
    obtain ⟨f2, hf2⟩ : ∃ f : Fr, f = ⟨x0, x2, x3, x4, x5, (b.drop 16).take 44⟩ := ⟨_, rfl⟩
    have hG11 : w11.heap[w3.heap.size]? = some (.cells (FC f2) 42 (0, 0)) := by
      have h := HG11.out
      rw [HSP.out, Array.toArray_toList, ← hf2] at h
      exact h
    have hl44 : f2.body.length = 44 := by rw [hf2]; have := HB60.out; simp; omega
    have HI2 := Lib.hid (size_frm hl44)
    have hone2 := FC_one f2
    have HSZ2 := Lib.hid (show Z.size = (FC f2).size by rw [← HZ.out, FC_size, FC_size, hl44]; simp [Fr.zero])
    have hR11 : RdAt w11 B g [] false := by
      have h := hR10.under hB11 hgf
      rw [List.drop_drop, List.drop_eq_nil_of_le (by have := HB60.out; omega)] at h
      exact h
    have hS11 := (hB11.block (w.heap.size + 1 + 1) (by omega)).trans hS10
    have hBw11 := hBw10.trans (hB11.mono (by omega))
    have HPX : Hid (parseF b = f2 ∧ verF b = x1) := by have h := HX.out; rw [← hf2] at h; exact h
    have HFR := Lib.hid (fun W => fright_any f2 W)
    have HL44 := Lib.hid hl44
    clear hl44
    clear hG10 hS10 hBw10 hB11 HG11 HSP HCS H1C HFIT HN44 HCL HCUR HGA HSZB HSRC hbx hnx hxx hR10 hO10 hf2 K0 K1 K2 K3 K4 K5 K6 HX hRA hSA hBwA
    by_cases hx1 : x1 = 1
    · have t1 : ((x1 : Int) != 1) = false := by rw [bne_eq_false_iff_eq]; omega
      have HX1 := Lib.hid hx1
      clear hx1
      obtain ⟨FA, hFA⟩ : ∃ FA, FC f2 = FA := ⟨_, rfl⟩
      have HIF2 := Lib.hid HI2.out
      rw [hFA] at hG11 hone2
      have hIF : (Try.prog.info? 42).map (·.size) = some FA.size := by rw [← hFA]; exact HI2.out
      have HSF := Lib.hid (show Z.size = FA.size by rw [← hFA]; exact HSZ2.out)
      have HFA := Lib.hid hFA
      have HIF := Lib.hid hIF
      rw [hFA] at HFR
      clear hFA hIF
      cases hrt : rightF f2
      · rw [hrt] at HFR
        have HR0 : Hid (r = (Fr.zero, 10)) := by
          have h := HRR.out
          rw [if_neg (by rw [HPX.out.1, hrt]; simp)] at h
          exact h.symm
        clear hrt
        go_wp2_with (first | (refine wpList_load_row_asked (by rfl) 42 _ rfl w3.heap.size rfl 42 _ _ _ hG11 Try.underlying42 rfl HIF.out ?_) | (go_at_call 20; refine (HFR.out _).mono ?_; rintro e12 w12 ⟨rfl, hB12⟩; have hS12 := (hB12.block (w.heap.size + 1 + 1) (Array.getElem?_eq_some_iff.1 hS11).1).trans hS11; have hG12 := (hB12.block w3.heap.size (Array.getElem?_eq_some_iff.1 hG11).1).trans hG11) | (refine wpList_store_row rfl 42 _ _ rfl (w.heap.size + 1 + 1) Z rfl rfl 42 Z hS12 HIZ.out rfl hone ?_))
        have hBw12 := hBw11.trans (hB12.mono hBw11.size)
        refine bodyPost_ret (results_row_tmp rfl _ _ (w.heap.size + 1 + 1) 42 Z _ _ rfl (setRow_heap _ _ _ _ _ _ hS12) Try.underlying42 rfl HIZ.out) rfl ?_
        rw [HR0.out]
        exact ⟨by rw [HZ.out]; rfl, below_setRow hBw12 (by omega) _⟩
      · rw [hrt] at HFR
        have HR0 : Hid (r = (f2, 0)) := by
          have h := HRR.out
          rw [if_pos ⟨by rw [HPX.out.2, HX1.out], by rw [HPX.out.1, hrt]⟩, HPX.out.1] at h
          exact h.symm
        have HDO := Lib.hid (fun W (hR : RdAt W B g [] false) => rd_done g [] false W hR (by simp))
        rw [show doneOf [] false = 0 from rfl] at HDO
        clear hrt
        go_wp2_with (first | (refine wpList_load_row_asked (by rfl) 42 _ rfl w3.heap.size rfl 42 _ _ _ hG11 Try.underlying42 rfl HIF.out ?_) | (go_at_call 20; refine (HFR.out _).mono ?_; rintro e12 w12 ⟨rfl, hB12⟩; have hS12 := (hB12.block (w.heap.size + 1 + 1) (Array.getElem?_eq_some_iff.1 hS11).1).trans hS11; have hG12 := (hB12.block w3.heap.size (Array.getElem?_eq_some_iff.1 hG11).1).trans hG11) | (go_at_call 91; refine (HDO.out _ (hR11.below hB12)).mono ?_; rintro e13 w13 ⟨rfl, rfl⟩) | (refine wpList_load_row rfl 42 _ rfl w3.heap.size rfl 42 _ _ _ hG12 Try.underlying42 rfl HIF.out ?_) | (refine wpList_store_row rfl 42 _ _ rfl (w.heap.size + 1 + 1) FA rfl rfl 42 Z hS12 HIF.out HSF.out hone2 ?_))
        have hBw12 := hBw11.trans (hB12.mono hBw11.size)
        refine bodyPost_ret (results_row_tmp rfl _ _ (w.heap.size + 1 + 1) 42 FA _ _ rfl (setRow_heap _ _ _ _ _ _ hS12) Try.underlying42 rfl HIF.out) rfl ?_
        rw [HR0.out]
        exact ⟨by rw [HFA.out]; rfl, below_setRow hBw12 (by omega) _⟩
    · have t1 : ((x1 : Int) != 1) = true := by rw [bne_iff_ne]; omega
      have HR0 : Hid (r = (Fr.zero, 10)) := by
        have h := HRR.out
        rw [if_neg (by rw [HPX.out.2]; rintro ⟨h, _⟩; exact hx1 h)] at h
        exact h.symm
      clear hx1
      go_wp2_with (refine wpList_store_row rfl 42 _ _ rfl (w.heap.size + 1 + 1) Z rfl rfl 42 Z hS11 HIZ.out rfl hone ?_)
      refine bodyPost_ret (results_row_tmp rfl _ _ (w.heap.size + 1 + 1) 42 Z _ _ rfl (setRow_heap _ _ _ _ _ _ hS11) Try.underlying42 rfl HIZ.out) rfl ?_
      rw [HR0.out]
      exact ⟨by rw [HZ.out]; rfl, below_setRow hBw11 (by omega) _⟩
  · have hd : decF s = (Fr.zero, 11) := by unfold decF; rw [if_neg hsum]
    have HO := Lib.hid (fun W g hb => hOP W g hb)
    have HOP := Lib.hid (show ∀ (W : World) (g : Nat), Bytes W (some ⟨g, 0, none⟩) s → Calls Try.prog 89 #[.agg Tb.tabV, .slice (some ⟨g, 0, none⟩) 64 64] W (OpenPost none 11 W) from fun W g hb => by have := HO.out W g hb; rw [if_neg hsum] at this; exact this)
    rw [hd]
    clear hOP HO hsum hd
    have hlT : Tb.tabV.toList.length = 256 := by rw [Array.length_toList, Tb.size_tabV]
    have h1T : ∀ v ∈ Tb.tabV.toList, v.oneCell' = true := by
      intro v hv
      have := Tb.one_tabV
      rw [Array.all_eq_true_iff_forall_mem] at this
      exact this v (by simpa using hv)
    have hIT' : (Try.prog.info? 71).map (·.size) = some Tb.tabV.toList.length := by rw [Array.length_toList]; exact hIT
    clear hIT
    generalize Tb.tabV = TV at *
    obtain ⟨TL⟩ := TV
    simp only at hlT h1T hIT'
    have hrT := range_row hT0
    have hu := Try.underlying71
    have hbs := hsb
    clear hsb
    go_enter Try.func70, Try.ntmps70
    go_wp2_with fail
    go_region_held3 (fun W => W.rangeAt w.heap.size 0 TL) (first | assumption | go_keep_ranges) (first | (go_at_call 89; refine (HOP.out _ (w.heap.size + 1) (hbs.below (Below.refl _ _).drew)).mono ?_; rintro e w1 ⟨⟨v1, rfl, rfl⟩, hB1⟩; have hr1 : w1.rangeAt w.heap.size 0 TL := range_row ((hB1.block w.heap.size (by simp; omega)).trans hT0)))
    have hB1' : Below w.heap.size w w1 := hB0.drew.trans (hB1.mono (by simp; omega))
    have hS1 := (hB1.block (w.heap.size + 1 + 1) (by simp)).trans hS0
    clear hrT hr1 hT0 hu hIT' hlT h1T
    go_wp2_with (refine wpList_store_row rfl 42 _ _ rfl (w.heap.size + 1 + 1) Z rfl rfl 42 Z hS1 HIZ.out rfl hone ?_)
    refine bodyPost_ret (results_row_tmp rfl _ _ (w.heap.size + 1 + 1) 42 Z _ _ rfl (setRow_heap _ _ _ _ _ _ hS1) Try.underlying42 rfl HIZ.out) rfl ?_
    exact ⟨by rw [HZ.out]; rfl, below_setRow hB1' (by omega) _⟩
end Go.Proofs.Ytjnneoejnpephaa
namespace Go.Proofs.Ytjnneoejnpephaa
open Go.RowKit Go.Rv Frm
set_option linter.unusedVariables false
/-- what a place's sector says -/
def atF (s : List Nat) (zone off : Int) : Fr × Int :=
  if (decF s).2 ≠ 0 then (Fr.zero, (decF s).2) else if (decF s).1.zone ≠ zone ∨ (decF s).1.off ≠ off then (Fr.zero, 12) else ((decF s).1, 0)
theorem dec_body (s : List Nat) (hl : s.length = 64) : (decF s).1.body.length = 44 := by
  unfold decF
  split
  · split
    · simp only [parseF]; simp; omega
    · simp [Fr.zero]
  · simp [Fr.zero]
set_option maxRecDepth 100000 in
set_option maxHeartbeats 1000000 in
theorem at_core (s : List Nat) (f : Fr) (e : Int) (zone off : Int) (r : Fr × Int) (w : World) (hl : s.length = 64) (hf : f.body.length = 44)
    (HD : ∀ W, Calls Try.prog 70 #[.agg Tb.tabV, .agg (byteCells s)] W fun x w' => x = .returned (.tuple #[.agg (FC f), .int .i64 e]) ∧ Below W.heap.size W w')
    (hr : ((e != 0) = true ∧ r = (Fr.zero, e)) ∨ ((e != 0) = false ∧ (f.zone != zone) = true ∧ r = (Fr.zero, 12)) ∨ ((e != 0) = false ∧ (f.zone != zone) = false ∧ (f.off != off) = true ∧ r = (Fr.zero, 12)) ∨ ((e != 0) = false ∧ (f.zone != zone) = false ∧ (f.off != off) = false ∧ r = (f, 0))) :
    Calls Try.prog 40 #[.agg Tb.tabV, .agg (byteCells s), .int .i64 zone, .int .i64 off] w (FrmPost r w) := by
  have hz := (zero_of_info Try.infoFrame).1
  have h1Z := Lib.hid (FC_one Fr.zero)
  have HIZ := Lib.hid (size_frm (f := Fr.zero) (by simp [Fr.zero]))
  have HIF := Lib.hid (size_frm hf)
  have h1F := Lib.hid (FC_one f)
  have HSZ := Lib.hid (show (FC Fr.zero).size = (FC f).size by rw [FC_size, FC_size, hf]; simp [Fr.zero])
  have HIT := Lib.hid size_tab
  have HIS := Lib.hid (size_sec hl)
  have HD := Lib.hid HD
  have HR := Lib.hid hr
  obtain ⟨hT0, hS0, hF0⟩ := alloc3_at w (.cells Tb.tabV 71) (.cells (byteCells s) 77) (.cells (FC Fr.zero) 42)
  have hB0 := below3 w (.cells Tb.tabV 71) (.cells (byteCells s) 77) (.cells (FC Fr.zero) 42)
  clear hr hl
  have hg := fun (W : World) (g : Nat) (h : W.heap[g]? = some (.cells (FC f) 42 (0, 0))) => frame_cells h
  have HZ0 := Lib.hid (show FC Fr.zero = FC Fr.zero from rfl)
  obtain ⟨ZF, hZF⟩ : ∃ Z, FC Fr.zero = Z := ⟨_, rfl⟩
  obtain ⟨FA, hFA⟩ : ∃ Z, FC f = Z := ⟨_, rfl⟩
  have HZF := Lib.hid hZF
  have HFA := Lib.hid hFA
  rw [hZF] at hz h1Z HIZ HSZ hF0 hB0 hT0 hS0
  rw [hFA] at HIF h1F HSZ HD hg
  clear hZF hFA HZ0
  have HG := Lib.hid hg
  clear hg
  generalize byteCells s = SC at *
  generalize Tb.tabV = TV at *
  go_enter Try.func40, Try.ntmps40
  go_wp2_with (first | (refine wpList_load_row rfl 71 _ rfl w.heap.size rfl 71 _ _ _ hT0 Try.underlying71 rfl HIT.out ?_) | (refine wpList_load_row rfl 77 _ rfl (w.heap.size + 1) rfl 77 _ _ _ hS0 Try.underlying77 rfl HIS.out ?_))
  refine (HD.out _).mono ?_
  rintro x w1 ⟨rfl, hB1⟩
  have hF1 := (hB1.block (w.heap.size + 1 + 1) (by simp)).trans hF0
  have hB1' := hB0.trans (hB1.mono (by simp; omega))
  have z1 := (Array.getElem?_eq_some_iff.1 hF1).1
  have hba := (Below.refl w1.heap.size w1).alloc (Nat.le_refl _) (.cells FA 42)
  have hF2 := (hba.block _ z1).trans hF1
  have hG2 := heap_alloc_new w1 (.cells FA 42)
  have hB2 := hB1'.trans (hba.mono hB1'.size)
  obtain ⟨-, d1, d2, -, -⟩ := HG.out _ _ hG2
  clear hT0 hS0 hF0 hF1 hB0 hB1 hB1' hba
  rcases HR.out with ⟨t1, rfl⟩ | ⟨t1, t2, rfl⟩ | ⟨t1, t2, t3, rfl⟩ | ⟨t1, t2, t3, rfl⟩
  · clear HR
    go_wp2_with (first | (refine wpList_store_row rfl 42 _ _ rfl w1.heap.size FA rfl rfl 42 ZF (heap_alloc_new w1 _) HIF.out HSZ.out h1F.out ?_; rw [World.setRow_alloc_new]) | (refine wpList_store_row rfl 42 _ _ rfl (w.heap.size + 1 + 1) ZF rfl rfl 42 ZF hF2 HIZ.out rfl h1Z.out ?_))
    refine bodyPost_ret (results_row_tmp rfl _ _ (w.heap.size + 1 + 1) 42 ZF _ _ rfl (setRow_heap _ _ _ _ _ _ hF2) Try.underlying42 rfl HIZ.out) rfl ?_
    exact ⟨by rw [HZF.out]; rfl, below_setRow hB2 (by omega) _⟩
  · clear HR
    go_wp2_with (first | (refine wpList_store_row rfl 42 _ _ rfl w1.heap.size FA rfl rfl 42 ZF (heap_alloc_new w1 _) HIF.out HSZ.out h1F.out ?_; rw [World.setRow_alloc_new]) | (refine wpList_store_row rfl 42 _ _ rfl (w.heap.size + 1 + 1) ZF rfl rfl 42 ZF hF2 HIZ.out rfl h1Z.out ?_))
    refine bodyPost_ret (results_row_tmp rfl _ _ (w.heap.size + 1 + 1) 42 ZF _ _ rfl (setRow_heap _ _ _ _ _ _ hF2) Try.underlying42 rfl HIZ.out) rfl ?_
    exact ⟨by rw [HZF.out]; rfl, below_setRow hB2 (by omega) _⟩
  · clear HR
    go_wp2_with (first | (refine wpList_store_row rfl 42 _ _ rfl w1.heap.size FA rfl rfl 42 ZF (heap_alloc_new w1 _) HIF.out HSZ.out h1F.out ?_; rw [World.setRow_alloc_new]) | (refine wpList_store_row rfl 42 _ _ rfl (w.heap.size + 1 + 1) ZF rfl rfl 42 ZF hF2 HIZ.out rfl h1Z.out ?_))
    refine bodyPost_ret (results_row_tmp rfl _ _ (w.heap.size + 1 + 1) 42 ZF _ _ rfl (setRow_heap _ _ _ _ _ _ hF2) Try.underlying42 rfl HIZ.out) rfl ?_
    exact ⟨by rw [HZF.out]; rfl, below_setRow hB2 (by omega) _⟩
  · clear HR
    go_wp2_with (first | (refine wpList_store_row rfl 42 _ _ rfl w1.heap.size FA rfl rfl 42 ZF (heap_alloc_new w1 _) HIF.out HSZ.out h1F.out ?_; rw [World.setRow_alloc_new]) | (refine wpList_load_row rfl 42 _ rfl w1.heap.size rfl 42 _ _ _ hG2 Try.underlying42 rfl HIF.out ?_) | (refine wpList_store_row rfl 42 _ _ rfl (w.heap.size + 1 + 1) FA rfl rfl 42 ZF hF2 HIF.out HSZ.out h1F.out ?_))
    refine bodyPost_ret (results_row_tmp rfl _ _ (w.heap.size + 1 + 1) 42 FA _ _ rfl (setRow_heap _ _ _ _ _ _ hF2) Try.underlying42 rfl HIF.out) rfl ?_
    exact ⟨by rw [HFA.out]; rfl, below_setRow hB2 (by omega) _⟩
theorem at_any (s : List Nat) (zone off : Int) (w : World) (hl : s.length = 64) (hs : ∀ c ∈ s, c < 256) :
    Calls Try.prog 40 #[.agg Tb.tabV, .agg (byteCells s), .int .i64 zone, .int .i64 off] w (FrmPost (atF s zone off) w) := by
  refine at_core s (decF s).1 (decF s).2 zone off _ w hl (dec_body s hl) (fun W => decode_any s W hl hs) ?_
  unfold atF
  by_cases h : (decF s).2 = 0
  · rw [if_neg (by rw [h]; simp)]
    by_cases h2 : (decF s).1.zone = zone
    · by_cases h3 : (decF s).1.off = off
      · exact .inr (.inr (.inr ⟨by rw [h]; rfl, by rw [h2]; simp, by rw [h3]; simp, by rw [if_neg (by rw [h2, h3]; simp)]⟩))
      · exact .inr (.inr (.inl ⟨by rw [h]; rfl, by rw [h2]; simp, by simp [h3], by rw [if_pos (.inr h3)]⟩))
    · exact .inr (.inl ⟨by rw [h]; rfl, by simp [h2], by rw [if_pos (.inl h2)]⟩)
  · exact .inl ⟨by simp [h], by rw [if_pos h]⟩
end Go.Proofs.Ytjnneoejnpephaa
namespace Crc
/-- the first k places of S are xored with those of q -/
def xorTo (S q : List Nat) : Nat → List Nat
  | 0 => S
  | k + 1 => (xorTo S q k).set k ((xorTo S q k).getD k 0 ^^^ q.getD k 0)
theorem xorTo_length (S q : List Nat) (k : Nat) : (xorTo S q k).length = S.length := by
  induction k with
  | zero => rfl
  | succ k ih => simp [xorTo, ih]
theorem xorTo_at (S q : List Nat) (k i : Nat) : (xorTo S q k).getD i 0 = if i < k ∧ i < S.length then S.getD i 0 ^^^ q.getD i 0 else S.getD i 0 := by
  induction k with
  | zero => simp [xorTo]
  | succ k ih =>
    by_cases hik : i = k
    · subst hik
      by_cases hl : i < S.length
      · have h1 : i < (xorTo S q i).length := by rw [xorTo_length]; exact hl
        have h2 : (xorTo S q i).getD i 0 = S.getD i 0 := by rw [ih, if_neg (by omega)]
        rw [if_pos ⟨by omega, hl⟩, xorTo, h2]
        simp [List.getD_eq_getElem?_getD, h1]
      · have h1 : (xorTo S q (i + 1)).length = S.length := xorTo_length _ _ _
        rw [if_neg (by omega), List.getD_eq_getElem?_getD, List.getD_eq_getElem?_getD, List.getElem?_eq_none (by omega), List.getElem?_eq_none (by omega)]
    · have h : (xorTo S q (k + 1)).getD i 0 = (xorTo S q k).getD i 0 := by
        simp only [xorTo, List.getD_eq_getElem?_getD]
        rw [List.getElem?_set_ne (fun e => hik e.symm)]
      rw [h, ih]
      by_cases hl : i < k ∧ i < S.length
      · rw [if_pos hl, if_pos (by omega)]
      · rw [if_neg hl, if_neg (by omega)]
theorem xorTo_zip (S q : List Nat) (h : S.length = q.length) : xorTo S q S.length = List.zipWith (· ^^^ ·) S q := by
  apply List.ext_getElem
  · rw [xorTo_length, List.length_zipWith]; omega
  · intro i h1 h2
    have h3 := xorTo_at S q S.length i
    rw [xorTo_length] at h1
    rw [if_pos ⟨h1, h1⟩] at h3
    have hq : i < q.length := by omega
    simp only [List.getD_eq_getElem?_getD] at h3
    rw [List.getElem?_eq_getElem (by rw [xorTo_length]; exact h1), List.getElem?_eq_getElem h1, List.getElem?_eq_getElem hq] at h3
    simp only [Option.getD_some] at h3
    rw [h3, List.getElem_zipWith]
theorem xorTo_lt {S q : List Nat} (hS : ∀ c ∈ S, c < 256) (hq : ∀ c ∈ q, c < 256) (k : Nat) : ∀ c ∈ xorTo S q k, c < 256 := by
  induction k with
  | zero => exact hS
  | succ k ih =>
    intro c hc
    rcases List.mem_or_eq_of_mem_set hc with h | h
    · exact ih c h
    · rw [h]
      exact Nat.xor_lt_two_pow (n := 8) (getD_lt ih k) (getD_lt hq k)
theorem four_of {d : List Nat} (hl : d.length = 4) (hd : ∀ c ∈ d, c < 256) : ∃ y, y < 2 ^ 32 ∧ d = le4 y := by
  match d, hl with
  | [a, b, c, e], _ =>
    have ha := hd a (by simp)
    have hb := hd b (by simp)
    have hc := hd c (by simp)
    have he := hd e (by simp)
    exact ⟨a + 256 * b + 65536 * c + 16777216 * e, by omega, (le4_of ha hb hc he).symm⟩
theorem patterns (l q : List Nat) (hl : ∀ c ∈ l, c < 256) (hq : ∀ c ∈ q, c < 256) (e : q.length = l.length + 4) (X : List Nat) (hX : X = xorTo (l ++ le4 (sum l)) q q.length) :
    X.drop (X.length - 4) = le4 (sum (X.take (X.length - 4))) ↔ over 0 q = 0 := by
  have hS : (l ++ le4 (sum l)).length = q.length := by simp [le4, e]
  rw [← hS, xorTo_zip _ _ hS] at hX
  have hXl : X.length = l.length + 4 := by rw [hX, List.length_zipWith, hS, e]; omega
  obtain ⟨y, hy, hd⟩ := four_of (d := q.drop l.length) (by simp [e]) fun c hc => hq c (List.mem_of_mem_drop hc)
  have hqs : q = q.take l.length ++ le4 y := by rw [← hd, List.take_append_drop]
  have hlen : l.length = (q.take l.length).length := by simp [e]
  have hz : X = List.zipWith (· ^^^ ·) l (q.take l.length) ++ List.zipWith (· ^^^ ·) (le4 (sum l)) (le4 y) := by
    rw [hX]
    conv => lhs; arg 3; rw [hqs]
    rw [List.zipWith_append hlen]
  have hzl : (List.zipWith (· ^^^ ·) l (q.take l.length)).length = l.length := by rw [List.length_zipWith, ← hlen]; omega
  rw [hXl, Nat.add_sub_cancel]
  have h1 : X.take l.length = List.zipWith (· ^^^ ·) l (q.take l.length) := by rw [hz, List.take_append_of_le_length (by omega), List.take_of_length_le (by omega)]
  have h2 : X.drop l.length = List.zipWith (· ^^^ ·) (le4 (sum l)) (le4 y) := by rw [hz, List.drop_append_of_le_length (by omega), List.drop_eq_nil_of_le (by omega), List.nil_append]
  rw [h1, h2]
  have := sealed_xor l (q.take l.length) y (fun c hc => hq c (List.mem_of_mem_take hc)) hl hlen hy
  rw [this, ← hqs]
end Crc
namespace Go.Proofs.Ytjnneoejnpephaa
open Go.RowKit Go.Rv Frm
set_option linter.unusedVariables false
attribute [local go_sem] Oper.semAt_some
theorem _root_.Go.Rv.RowOf.imp {α : Type} {w : World} {n : Nat} {X : α → Array Value} {Q Q' : α → Prop} {a : Option Addr} {xs : List α} (h : RowOf w n X Q a xs) (hq : ∀ x ∈ xs, Q' x) : RowOf w n X Q' a xs := by
  rcases h with h | ⟨b, o, e, hb, hc⟩
  · exact .inl h
  · exact .inr ⟨b, o, e, hb, fun k x hk => ⟨(hc k x hk).1, hq x (List.mem_of_getElem? hk)⟩⟩
theorem sread_any (w : World) (a : Option Addr) (l : List Fr) (cap : Nat) (hI : RowOf w 49 FC FrQ a l) (hl : l.length ≤ 100000) (hcap : l.length ≤ cap) (hcm : cap ≤ 9223372036854775807) :
    Calls Try.prog 27 #[.slice a l.length cap] w (ReadPost w l) := by
  cases l with
  | nil => exact sread_nil w a cap
  | cons f r => exact sread_cons w a f r cap hI hl hcap hcm
set_option maxRecDepth 100000 in
set_option maxHeartbeats 16000000 in
theorem sn_mixed_walk (w : World) (g : Geo.G) (a1 a2 : Option Addr) (l1 l2 : List (Int × BE)) (c1 c2 : Nat) (at' : Int) (hI1 : RowOf w 7 opC Op64 a1 l1) (hI2 : RowOf w 7 opC Op64 a2 l2) :
    Calls Try.prog 6 #[.agg (GC g), .slice a1 l1.length c1, .slice a2 l2.length c2, .int .i64 at'] w fun e w' => e = .returned (.bool true) ∧ Below w.heap.size w w' := by
  have HA := Lib.hid (fun W => sn_anchor W)
  have HGI := Lib.hid (gsize (g := g))
  have HMA : Hid (∀ W, Below w.heap.size w W → Calls Try.prog 16 #[.agg (GC g), .slice a1 l1.length c1, .int .i64 3, .int .i64 2, .int .i64 281474976710655] W (MadePost W g l1 3 2 281474976710655)) := Lib.hid (fun W hW => made12_any g a1 l1 c1 3 2 281474976710655 W (hI1.below hW))
  have HMB : Hid (∀ W, Below w.heap.size w W → Calls Try.prog 16 #[.agg (GC g), .slice a2 l2.length c2, .int .i64 4, .int .i64 2, .int .i64 281474976710655] W (MadePost W g l2 4 2 281474976710655)) := Lib.hid (fun W hW => made12_any g a2 l2 c2 4 2 281474976710655 W (hI2.below hW))
  have hzs := (zero_of_info Try.infoSnz).1
  have hzr := (zero_of_info Try.infoRS).1
  have hal := (Below.refl w.heap.size w).alloc (Nat.le_refl _) (.cells (GC g) 23)
  have hnew := heap_alloc_new w (.cells (GC g) 23)
  clear hI1 hI2
  obtain ⟨GX, hGX⟩ : ∃ GX, GC g = GX := ⟨_, rfl⟩
  rw [hGX] at HGI HMA HMB hal hnew ⊢
  clear hGX
  go_enter Try.func6, Try.ntmps6
  go_wp2_with fail
  refine (HA.out _).mono ?_
  rintro e w0 ⟨rfl, hB0⟩
  have HG0 := Lib.hid ((hB0.block w.heap.size (by simp)).trans hnew)
  have HB0 := Lib.hid (hal.trans (hB0.mono hal.size))
  have zw0 : w.heap.size < w0.heap.size := (Array.getElem?_eq_some_iff.1 HG0.out).1
  clear hal hnew hB0
  go_wp2_with (refine wpList_row_on (by rfl) 23 _ rfl w.heap.size rfl 23 _ _ _ HG0.out Try.underlying23 rfl HGI.out ?_)
  refine (HMA.out _ HB0.out).mono ?_
  rintro eaA waA ⟨SA, TA, okA, rfl, ⟨i1, i2, i3⟩, ⟨j1, j2, j3⟩, hBA, hcA⟩
  have HIA := Lib.hid i1
  have HOA := Lib.hid i2
  have HZA := Lib.hid i3
  have HJA := Lib.hid j1
  have HPA := Lib.hid j2
  have HYA := Lib.hid j3
  have HCA := Lib.hid hcA
  have zbA := hBA.size
  obtain ⟨VA, hVA⟩ : ∃ V, (waA.alloc (.cells SZ 28)).alloc (.cells RZ 32) = V := ⟨_, rfl⟩
  have hvA : VA.heap[waA.heap.size]? = some (.cells SZ 28 (0, 0)) := by rw [← hVA]; exact heap_alloc2_old _ _ _
  have huA : VA.heap[waA.heap.size + 1]? = some (.cells RZ 32 (0, 0)) := by rw [← hVA]; exact heap_alloc2_new _ _ _
  have hbA : Below waA.heap.size waA VA := by rw [← hVA]; exact ((Below.refl _ _).alloc (Nat.le_refl _) _).alloc (by simp) _
  obtain ⟨UA, hUA⟩ : ∃ U, VA.setRow waA.heap.size SA = U := ⟨_, rfl⟩
  have hsA : Only [waA.heap.size] VA UA := by rw [← hUA]; exact only_setRow _ _ _
  have hrA : UA.heap[waA.heap.size]? = some (.cells SA 28 (0, 0)) := by rw [← hUA]; exact setRow_heap _ _ _ _ _ _ hvA
  have hqA := hsA.get huA (by simp)
  obtain ⟨WA, hWA⟩ : ∃ W, UA.setRow (waA.heap.size + 1) TA = W := ⟨_, rfl⟩
  have htA : Only [waA.heap.size + 1] UA WA := by rw [← hWA]; exact only_setRow _ _ _
  have HQAwA := Lib.hid (htA.get hrA (by simp))
  have HTTA : Hid (WA.heap[waA.heap.size + 1]? = some (.cells TA 32 (0, 0))) := Lib.hid (by rw [← hWA]; exact setRow_heap _ _ _ _ _ _ hqA)
  have hxA : Below waA.heap.size waA WA := hbA.trans ((hsA.below (B := waA.heap.size) (by simp) hbA.size).trans (htA.below (B := waA.heap.size) (by simp) (by have := hsA.size; have := hbA.size; omega)))
  have hyA := hBA.trans (hxA.mono zbA)
  have HGA := Lib.hid ((hyA.block w.heap.size (by omega)).trans HG0.out)
  have HBA := Lib.hid (HB0.out.trans (hyA.mono HB0.out.size))
  have HXA := Lib.hid hxA
  have HYYA := Lib.hid hyA
  have HVA := Lib.hid hVA
  have HUA := Lib.hid hUA
  have HWA := Lib.hid hWA
  have HH1A := Lib.hid hvA
  have HH2A := Lib.hid hqA
  have zzA : waA.heap.size + 1 < WA.heap.size := (Array.getElem?_eq_some_iff.1 HTTA.out).1
  clear i1 i2 i3 j1 j2 j3 hBA hcA hVA hvA huA hbA hUA hsA hrA hqA hWA htA hxA hyA
  go_upto_region 4 with (first | (rw [show (waA.alloc (.cells SZ 28)).alloc (.cells RZ 32) = VA from HVA.out]; refine wpList_store_row rfl 28 _ _ rfl waA.heap.size SA rfl rfl 28 SZ HH1A.out HIA.out HZA.out HOA.out ?_; rw [HUA.out]) | (refine wpList_store_row rfl 32 _ _ rfl (waA.heap.size + 1) TA rfl rfl 32 RZ HH2A.out HJA.out HYA.out HPA.out ?_; rw [HWA.out]))
  go_wp2_with (refine wpList_row_on (by rfl) 23 _ rfl w.heap.size rfl 23 _ _ _ HGA.out Try.underlying23 rfl HGI.out ?_)
  refine (HMB.out _ HBA.out).mono ?_
  rintro eaB waB ⟨SB, TB, okB, rfl, ⟨i1, i2, i3⟩, ⟨j1, j2, j3⟩, hBB, hcB⟩
  have HIB := Lib.hid i1
  have HOB := Lib.hid i2
  have HZB := Lib.hid i3
  have HJB := Lib.hid j1
  have HPB := Lib.hid j2
  have HYB := Lib.hid j3
  have HCB := Lib.hid hcB
  have zbB := hBB.size
  obtain ⟨VB, hVB⟩ : ∃ V, (waB.alloc (.cells SZ 28)).alloc (.cells RZ 32) = V := ⟨_, rfl⟩
  have hvB : VB.heap[waB.heap.size]? = some (.cells SZ 28 (0, 0)) := by rw [← hVB]; exact heap_alloc2_old _ _ _
  have huB : VB.heap[waB.heap.size + 1]? = some (.cells RZ 32 (0, 0)) := by rw [← hVB]; exact heap_alloc2_new _ _ _
  have hbB : Below waB.heap.size waB VB := by rw [← hVB]; exact ((Below.refl _ _).alloc (Nat.le_refl _) _).alloc (by simp) _
  obtain ⟨UB, hUB⟩ : ∃ U, VB.setRow waB.heap.size SB = U := ⟨_, rfl⟩
  have hsB : Only [waB.heap.size] VB UB := by rw [← hUB]; exact only_setRow _ _ _
  have hrB : UB.heap[waB.heap.size]? = some (.cells SB 28 (0, 0)) := by rw [← hUB]; exact setRow_heap _ _ _ _ _ _ hvB
  have hqB := hsB.get huB (by simp)
  obtain ⟨WB, hWB⟩ : ∃ W, UB.setRow (waB.heap.size + 1) TB = W := ⟨_, rfl⟩
  have htB : Only [waB.heap.size + 1] UB WB := by rw [← hWB]; exact only_setRow _ _ _
  have HQBwB := Lib.hid (htB.get hrB (by simp))
  have HTTB : Hid (WB.heap[waB.heap.size + 1]? = some (.cells TB 32 (0, 0))) := Lib.hid (by rw [← hWB]; exact setRow_heap _ _ _ _ _ _ hqB)
  have hxB : Below waB.heap.size waB WB := hbB.trans ((hsB.below (B := waB.heap.size) (by simp) hbB.size).trans (htB.below (B := waB.heap.size) (by simp) (by have := hsB.size; have := hbB.size; omega)))
  have hyB := hBB.trans (hxB.mono zbB)
  have HGB := Lib.hid ((hyB.block w.heap.size (by omega)).trans HGA.out)
  have HBB := Lib.hid (HBA.out.trans (hyB.mono HBA.out.size))
  have HXB := Lib.hid hxB
  have HYYB := Lib.hid hyB
  have HVB := Lib.hid hVB
  have HUB := Lib.hid hUB
  have HWB := Lib.hid hWB
  have HH1B := Lib.hid hvB
  have HH2B := Lib.hid hqB
  have zzB : waB.heap.size + 1 < WB.heap.size := (Array.getElem?_eq_some_iff.1 HTTB.out).1
  have HQAwB := Lib.hid ((hyB.block waA.heap.size (by omega)).trans HQAwA.out)
  clear i1 i2 i3 j1 j2 j3 hBB hcB hVB hvB huB hbB hUB hsB hrB hqB hWB htB hxB hyB
  go_upto_region 5 with (first | (rw [show (waB.alloc (.cells SZ 28)).alloc (.cells RZ 32) = VB from HVB.out]; refine wpList_store_row rfl 28 _ _ rfl waB.heap.size SB rfl rfl 28 SZ HH1B.out HIB.out HZB.out HOB.out ?_; rw [HUB.out]) | (refine wpList_store_row rfl 32 _ _ rfl (waB.heap.size + 1) TB rfl rfl 32 RZ HH2B.out HJB.out HYB.out HPB.out ?_; rw [HWB.out]))
  have hca := HCA.out
  rcases hca with ⟨rfl, -⟩ | ⟨rfl, hgr, hla, pa, lea, lla, va, hSA, -, hsa, -, qa1, qa2, qa3⟩
  · go_wp2
    go_ret
    exact ⟨rfl, HBB.out⟩
  have hcb := HCB.out
  rcases hcb with ⟨rfl, -⟩ | ⟨rfl, -, hlb, pb, leb, llb, vb, hSB, -, hsb, -, qb1, qb2, qb3⟩
  · go_wp2
    go_ret
    exact ⟨rfl, HBB.out⟩
  obtain ⟨sa, hsaE⟩ : ∃ sa, Sn.made g l1 3 2 281474976710655 = sa := ⟨_, rfl⟩
  obtain ⟨sb, hsbE⟩ : ∃ sb, Sn.made g l2 4 2 281474976710655 = sb := ⟨_, rfl⟩
  have hag : sa.g = g ∧ sa.gen = 3 := by rw [← hsaE]; exact ⟨rfl, rfl⟩
  have hbg : sb.g = g ∧ sb.gen = 4 := by rw [← hsbE]; exact ⟨rfl, rfl⟩
  rw [hsaE] at hSA hsa
  rw [hsbE] at hSB hsb
  have hsaW := (hsa.below HXA.out).below HYYB.out
  have hsbW := hsb.below HXB.out
  have HSA := Lib.hid hsaW
  have HSB := Lib.hid hsbW
  have hlen : ∀ s : Sn.S, Geo.right s.g = true → MapOk s.g s.es → s.es.length ≤ 100000 := fun s h1 h2 => by have h3 := h2.len; have := ((Geo.right_iff _).1 h1).1.2.2.2.1.2; omega
  have HRA : Hid (∀ W, SnIs W pa lea lla g.b.toNat (nz g) sa → Calls Try.prog 18 #[.agg SA] W fun e w' => e = .returned (.bool sa.right) ∧ Below W.heap.size W w') := Lib.hid (fun W h => by rw [hSA]; exact sright_any W pa lea lla _ _ sa.g sa.es _ h.bm (hlen sa h.hg h.ok) sa.gen sa.epoch sa.next)
  have HRB : Hid (∀ W, SnIs W pb leb llb g.b.toNat (nz g) sb → Calls Try.prog 18 #[.agg SB] W fun e w' => e = .returned (.bool sb.right) ∧ Below W.heap.size W w') := Lib.hid (fun W h => by rw [hSB]; exact sright_any W pb leb llb _ _ sb.g sb.es _ h.bm (hlen sb h.hg h.ok) sb.gen sb.epoch sb.next)
  have HFA : Hid (∀ W, SnIs W pa lea lla g.b.toNat (nz g) sa → Calls Try.prog 17 #[.agg SA, .int .i64 0] W (FramesPost W sa 0)) := Lib.hid (fun W h => by rw [hSA]; exact sframes_any W pa lea lla _ _ sa h 0)
  have HFB : Hid (∀ W, SnIs W pb leb llb g.b.toNat (nz g) sb → Calls Try.prog 17 #[.agg SB, .int .i64 0] W (FramesPost W sb 0)) := Lib.hid (fun W h => by rw [hSB]; exact sframes_any W pb leb llb _ _ sb h 0)
  have HGR := Lib.hid hgr
  have HAG := Lib.hid hag
  have HBG := Lib.hid hbg
  clear hgr hla hSA hsa hlb hSB hsb hsaW hsbW hlen hsaE hsbE hag hbg
  go_wp2_with (refine wpList_row_on (by rfl) 28 _ rfl waA.heap.size rfl 28 _ _ _ HQAwB.out Try.underlying28 rfl HIA.out ?_)
  refine (HRA.out _ HSA.out).mono ?_
  rintro e5 w5 ⟨rfl, hB5⟩
  have z5 := hB5.size
  have HSA5 := Lib.hid (HSA.out.below hB5)
  have HSB5 := Lib.hid (HSB.out.below hB5)
  have HTA5 := Lib.hid ((hB5.block waA.heap.size (by omega)).trans HQAwB.out)
  have HTB5 := Lib.hid ((hB5.block waB.heap.size (by omega)).trans HQBwB.out)
  have HB5 := Lib.hid (HBB.out.trans (hB5.mono HBB.out.size))
  clear hB5
  cases hra : sa.right
  · go_wp2
    go_ret
    exact ⟨rfl, HB5.out⟩
  go_wp2_with (refine wpList_row_on (by rfl) 28 _ rfl waB.heap.size rfl 28 _ _ _ HTB5.out Try.underlying28 rfl HIB.out ?_)
  refine (HRB.out _ HSB5.out).mono ?_
  rintro e6 w6 ⟨rfl, hB6⟩
  have z6 := hB6.size
  have HSA6 := Lib.hid (HSA5.out.below hB6)
  have HSB6 := Lib.hid (HSB5.out.below hB6)
  have HTA6 := Lib.hid ((hB6.block waA.heap.size (by omega)).trans HTA5.out)
  have HTB6 := Lib.hid ((hB6.block waB.heap.size (by omega)).trans HTB5.out)
  have HB6 := Lib.hid (HB5.out.trans (hB6.mono HB5.out.size))
  clear hB6
  cases hrb : sb.right
  · go_wp2
    go_ret
    exact ⟨rfl, HB6.out⟩
  have hga : Geo.right sa.g = true := by rw [HAG.out.1]; exact HGR.out
  have hgb : Geo.right sb.g = true := by rw [HBG.out.1]; exact HGR.out
  have hoka := Sn.ok_zero hga hra
  have hokb := Sn.ok_zero hgb hrb
  have era : sa.er 0 = 0 := by unfold Sn.S.er; rw [hoka]; rfl
  have erb : sb.er 0 = 0 := by unfold Sn.S.er; rw [hokb]; rfl
  have fra : sa.fr 0 = sa.frames 0 := by unfold Sn.S.fr; rw [hoka]; rfl
  have frb : sb.fr 0 = sb.frames 0 := by unfold Sn.S.fr; rw [hokb]; rfl
  unfold FramesPost at HFA HFB
  rw [era, fra] at HFA
  rw [erb, frb] at HFB
  have HMX : Hid (∀ (k : Nat) (y : Fr), (sb.frames 0)[k]? = some y → Sn.readS ((sa.frames 0).set k y) = none) := Lib.hid (fun k y h => Sn.mixed_none hga (by rw [HAG.out.1, HBG.out.1]) hoka hokb (by rw [HAG.out.2, HBG.out.2]; decide) h)
  have hla := Sn.S.frames_length sa ((Geo.right_iff _).1 hga).1 0
  have hlb := Sn.S.frames_length sb ((Geo.right_iff _).1 hgb).1 0
  have hm64 := Sn.nParts_64 HGR.out
  rw [HAG.out.1] at hla
  rw [HBG.out.1] at hlb
  have HQA : Hid (∀ f ∈ sa.frames 0, FrQ f) := Lib.hid (fun f hf => ⟨(Sn.frames_right hga hoka f hf).1, (Sn.frames_right hga hoka f hf).2.1⟩)
  have HQB : Hid (∀ f ∈ sb.frames 0, FrQ f) := Lib.hid (fun f hf => ⟨(Sn.frames_right hgb hokb f hf).1, (Sn.frames_right hgb hokb f hf).2.1⟩)
  obtain ⟨fa, hfa⟩ : ∃ l, sa.frames 0 = l := ⟨_, rfl⟩
  obtain ⟨fb, hfb⟩ : ∃ l, sb.frames 0 = l := ⟨_, rfl⟩
  rw [hfa] at HFA HMX hla HQA
  rw [hfb] at HFB HMX hlb HQB
  obtain ⟨m, hm⟩ : ∃ m, Sn.nParts g = m := ⟨_, rfl⟩
  rw [hm] at hla hlb hm64
  have HLA := Lib.hid hla
  have HLB := Lib.hid hlb
  clear hga hgb hoka hokb era erb fra frb hfa hfb hm hla hlb hra hrb
  go_wp2_with (refine wpList_row_on (by rfl) 28 _ rfl waA.heap.size rfl 28 _ _ _ HTA6.out Try.underlying28 rfl HIA.out ?_)
  refine (HFA.out _ HSA6.out).mono ?_
  rintro e7 w7 ⟨v7, rfl, ho7, hB7⟩
  have z7 := hB7.size
  have HO7 := Lib.hid (ho7.mono (show w.heap.size ≤ w6.heap.size from HB6.out.size))
  have HSB7 := Lib.hid (HSB6.out.below hB7)
  have HTB7 := Lib.hid ((hB7.block waB.heap.size (by omega)).trans HTB6.out)
  have HB7 := Lib.hid (HB6.out.trans (hB7.mono HB6.out.size))
  obtain ⟨ad7, cp7, rfl, -, -, -, -, -⟩ := ho7.shape kinF
  clear ho7 hB7
  go_wp2_with (refine wpList_row_on (by rfl) 28 _ rfl waB.heap.size rfl 28 _ _ _ HTB7.out Try.underlying28 rfl HIB.out ?_)
  refine (HFB.out _ HSB7.out).mono ?_
  rintro e8 w8 ⟨v8, rfl, ho8, hB8⟩
  have z8 := hB8.size
  have HOA8 := Lib.hid (HO7.out.below hB8)
  have HB8 := Lib.hid (HB7.out.trans (hB8.mono HB7.out.size))
  obtain ⟨ad8, cp8, rfl, hrow8, -, -, -, -⟩ := ho8.shape kinF
  have HRB8 := Lib.hid hrow8
  clear ho8 hB8 hrow8
  rw [HLA.out, HLB.out]
  by_cases hat : 0 ≤ at' ∧ at' < (m : Int)
  · obtain ⟨k, rfl⟩ := Int.eq_ofNat_of_zero_le hat.1
    have hkm : k < m := by omega
    have t0 : decide ((k : Int) < 0) = false := decide_eq_false (by omega)
    have t1 : decide ((m : Int) ≤ (k : Int)) = false := decide_eq_false (by omega)
    obtain ⟨y, hy⟩ : ∃ y, fb[k]? = some y := ⟨_, List.getElem?_eq_getElem (by rw [HLB.out]; exact hkm)⟩
    obtain ⟨by8, oy8, rfl, -, -, -⟩ := HRB8.out.at hy
    have hqy := HQB.out y (List.mem_of_getElem? hy)
    have HNO := Lib.hid (HMX.out k y hy)
    have HQY := Lib.hid hqy
    -- the copy's block
    obtain ⟨W9, hW9⟩ : ∃ W9, w8.alloc (.cells #[] 42) = W9 := ⟨_, rfl⟩
    have hb9 : Below w8.heap.size w8 W9 := by rw [← hW9]; exact (Below.refl _ _).alloc (Nat.le_refl _) _
    have hz9 : W9.heap[w8.heap.size]? = some (.cells #[] 42 (0, 0)) := by rw [← hW9]; exact heap_alloc_new w8 _
    have HF9 := Lib.hid (OwnM.fresh W9 42 49 FC (fun f => f.body.length = 44) (Nat.le_refl w8.heap.size) hz9)
    obtain ⟨ad9, cp9, e9, hra9, hn9, -, -, -⟩ := (HOA8.out.below hb9).shape kinF
    cases e9
    have HRA9 := Lib.hid hra9
    have HN9 := Lib.hid hn9
    have HRB9 := Lib.hid (HRB8.out.below hb9)
    have HB9 := Lib.hid (HB8.out.trans (hb9.mono HB8.out.size))
    have HW9 := Lib.hid hW9
    have z9 := hb9.size
    have HIR : Hid ((Try.prog.info? 42).map (fun i => (i.zero, i.size, i.bytes)) = some (some (.agg (FC Fr.zero)), 49, 88)) := Lib.hid (by kernel_rfl)
    clear hW9 hb9 hz9 hra9 hn9 hat hy hqy
    have hfl : fa.length = m := HLA.out
    go_upto_region 12 with (at_builtin; rw [HW9.out]; refine wpList_appendM rfl (.tmp 86) (.tmp 87) 35 rfl 42 49 FC (fun f => f.body.length = 44) kinF (by decide) (.agg (FC Fr.zero)) 88 Try.underlying35 HIR.out rfl w8.heap.size (.slice (some ⟨w8.heap.size, 0, none⟩) 0 0) [] rfl HF9.out ad7 cp7 fa (by rw [HLA.out]; rfl) HRA9.out HN9.out (by unfold maxLen; simp; omega) (by simp; omega) z9 ?_; intro v10 w10 hv10 hg10 _)
    rw [List.nil_append] at hv10
    have hs10 := HF9.out.grown hg10 z9
    have hB810 : Below w8.heap.size w8 w10 := by
      have hb9 : Below w8.heap.size w8 W9 := by rw [← HW9.out]; exact (Below.refl _ _).alloc (Nat.le_refl _) _
      exact hb9.trans hs10
    have z10 := hB810.size
    have HB10 := Lib.hid (HB8.out.trans (hB810.mono HB8.out.size))
    obtain ⟨y, hy⟩ : ∃ y, fb[k]? = some y := ⟨_, List.getElem?_eq_getElem (by rw [HLB.out]; exact hkm)⟩
    obtain ⟨x, hx⟩ : ∃ x, fa[k]? = some x := ⟨_, List.getElem?_eq_getElem (by rw [HLA.out]; exact hkm)⟩
    have hqy := HQB.out y (List.mem_of_getElem? hy)
    have hry := (HRB8.out.below hB810).range hy (by rw [FC_size, hqy.1.1])
    obtain ⟨ad10, cp10, rfl, hr10, -, hc1, hc2, hx10⟩ := hv10.shape kinF
    obtain ⟨zb, zo, rfl, hzl, -, -⟩ := hr10.at hx
    obtain ⟨rfl, hzb, hth⟩ := hv10.there (show k < fa.length by rw [HLA.out]; exact hkm)
    have hr11 := (hr10.imp HQA.out).store (k := k) (y := y) (by rw [HLA.out]; exact hkm) (by rw [FC_size, hqy.1.1]) hqy (by rw [Nat.zero_add]; exact hth)
    rw [Nat.zero_add] at hr11
    have hiy : (Try.prog.info? 42).map (·.size) = some (FC y).toList.length := by rw [FC_len hqy.1.1]; exact (zero_of_info Try.infoFrame).2
    have hic := size_frq hqy.1.1
    have hoc := FC_one y
    have hsz : (FC y).size = 49 := by rw [FC_size, hqy.1.1]
    have HNO' := Lib.hid (HMX.out k y hy)
    obtain ⟨YL, hYL⟩ : ∃ YL, (FC y).toList = YL := ⟨_, rfl⟩
    have hYC : FC y = YL.toArray := by rw [← hYL]
    rw [hYL] at hry hiy hr11
    rw [hYC] at hic hoc hsz
    have hth' : w10.there zb (k * 49) YL.toArray.size := by rw [hsz]; exact hth
    have HRY := Lib.hid hry
    have HIY := Lib.hid hiy
    have HIC := Lib.hid hic
    have HOC := Lib.hid hoc
    have HTH := Lib.hid hth'
    obtain ⟨W11, hW11⟩ : ∃ W11, w10.setCells zb (k * 49) YL = W11 := ⟨_, rfl⟩
    rw [hW11] at hr11
    have hO11 : Only [zb] w10 W11 := by rw [← hW11]; exact Only.of_setCells zb _ _ _
    have HB11 := Lib.hid (HB10.out.trans (hO11.below (B := w.heap.size) (by simp; have := HB8.out.size; omega) HB10.out.size))
    have HW11 := Lib.hid hW11
    have HRDW : Hid (Calls Try.prog 27 #[.slice (some ⟨zb, 0, none⟩) m cp10] W11 (ReadPost W11 (fa.set k y))) := Lib.hid (by
      have := sread_any W11 (some ⟨zb, 0, none⟩) (fa.set k y) cp10 hr11 (by rw [List.length_set, HLA.out]; omega) (by rw [List.length_set]; exact hc1) hc2
      rwa [List.length_set, HLA.out] at this)
    rw [hfl]
    obtain ⟨XZ, hXZ⟩ : ∃ XZ, SZ = XZ := ⟨_, rfl⟩
    have HXI : Hid ((Try.prog.info? 28).map (·.size) = some XZ.size) := Lib.hid (by rw [← hXZ]; exact (zero_of_info Try.infoSnz).2)
    have HXO : Hid (XZ.all (·.oneCell') = true) := Lib.hid (by rw [← hXZ]; simp [SZ, Value.oneCell'])
    have HXZ := Lib.hid hXZ
    clear hv10 hg10 hs10 hB810 hy hx hqy hry hr10 hc1 hx10 hth hth' hr11 hiy hic hoc hsz hYL hYC hW11 hO11 t0 t1 hfl
    rw [hXZ] at hzs
    clear hXZ
    go_upto_region 13 with (first | (refine wpList_load_mid rfl 42 _ rfl by8 (oy8 + k * 49) rfl YL _ HRY.out Try.underlying42 rfl HIY.out ?_) | (refine wpList_store_mid rfl 42 _ _ rfl zb (k * 49) YL.toArray rfl rfl HTH.out HIC.out HOC.out ?_; rw [show w10.setCells zb (k * 49) YL.toArray.toList = W11 from HW11.out]))
    go_wp2_with fail
    refine HRDW.out.mono ?_
    rintro e12 w12 ⟨hB12, ⟨s', _, _, _, _, _, h, -⟩ | ⟨-, rfl⟩⟩
    · rw [HNO'.out] at h
      cases h
    rw [HXZ.out]
    have HB12 := Lib.hid ((HB11.out.trans (hB12.mono HB11.out.size)).alloc (HB11.out.trans (hB12.mono HB11.out.size)).size (.cells XZ 28))
    clear hB12
    go_wp2_with (refine wpList_store_row rfl 28 _ _ rfl w12.heap.size XZ rfl rfl 28 XZ (heap_alloc_new w12 _) HXI.out rfl HXO.out ?_; rw [World.setRow_alloc_new])
    go_ret
    exact ⟨rfl, HB12.out⟩
  · have hcc : (decide (at' < 0) = true) ∨ (decide (at' < 0) = false ∧ decide ((m : Int) ≤ at') = true) := by
      by_cases h1 : at' < 0
      · exact .inl (decide_eq_true h1)
      · exact .inr ⟨decide_eq_false h1, decide_eq_true (by omega)⟩
    clear hat
    rcases hcc with t0 | ⟨t0, t1⟩
    · go_wp2
      go_ret
      exact ⟨rfl, HB8.out⟩
    · go_wp2
      go_ret
      exact ⟨rfl, HB8.out⟩
end Go.Proofs.Ytjnneoejnpephaa
namespace Go.Proofs.Ytjnneoejnpephaa
open Go.RowKit Go.Rv
set_option linter.unusedVariables false
attribute [local go_sem] Oper.semAt_some
set_option maxRecDepth 100000 in
set_option maxHeartbeats 8000000 in
theorem rsright_core (w : World) (gen epoch next : Int) (g : Geo.G) (a : Option Addr) (cap : Nat) (es : List BE) (hr : RowOf w 6 BEC (fun _ => True) a es) (hn : es.length ≤ 100000) :
    Calls Try.prog 22 #[.agg (RC gen epoch next g (.slice a es.length cap))] w fun e w' => e = .returned (.bool (Sn.right gen epoch next es)) ∧ Below w.heap.size w w' := by
  have hB0 := (Below.refl w.heap.size w).alloc (Nat.le_refl _) (.cells (RC gen epoch next g (.slice a es.length cap)) 32)
  have hX0 := heap_alloc_new w (.cells (RC gen epoch next g (.slice a es.length cap)) 32)
  have HCC : Hid (∀ W : World, W.heap[w.heap.size]? = some (.cells (RC gen epoch next g (.slice a es.length cap)) 32 (0, 0)) → W.cell? ⟨w.heap.size, 0, none⟩ = some (.int .i64 gen) ∧ W.cell? ⟨w.heap.size, 1, none⟩ = some (.int .i64 epoch) ∧ W.cell? ⟨w.heap.size, 2, none⟩ = some (.int .i64 next) ∧ W.cell? ⟨w.heap.size, 9, none⟩ = some (.slice a es.length cap)) := Lib.hid (fun W h => ⟨(cell_of_row _ _ _ _ _ _ h).trans rfl, (cell_of_row _ _ _ _ _ _ h).trans rfl, (cell_of_row _ _ _ _ _ _ h).trans rfl, (cell_of_row _ _ _ _ _ _ h).trans rfl⟩)
  have HRO := Lib.hid (hr.below hB0)
  obtain ⟨C, hC⟩ : ∃ C, RC gen epoch next g (.slice a es.length cap) = C := ⟨_, rfl⟩
  rw [hC] at hB0 hX0 HCC HRO ⊢
  clear hC hr
  obtain ⟨W0, hW0⟩ : ∃ W0, w.alloc (.cells C 32) = W0 := ⟨_, rfl⟩
  rw [hW0] at hB0 hX0 HRO
  have HW0 := Lib.hid hW0
  have HB0 := Lib.hid hB0
  have HX0 := Lib.hid hX0
  have z0 : w.heap.size < W0.heap.size := (Array.getElem?_eq_some_iff.1 hX0).1
  obtain ⟨c0, c1, c2, c9⟩ := HCC.out _ hX0
  clear hW0 hB0 hX0
  have hcase : (Sn.right gen epoch next es = false ∧ (decide (gen < 1) = true ∨ (decide (gen < 1) = false ∧ decide (281474976710655 < gen) = true) ∨ (decide (gen < 1) = false ∧ decide (281474976710655 < gen) = false ∧ decide (epoch < 1) = true) ∨ (decide (gen < 1) = false ∧ decide (281474976710655 < gen) = false ∧ decide (epoch < 1) = false ∧ decide (4294967295 < epoch) = true) ∨ (decide (gen < 1) = false ∧ decide (281474976710655 < gen) = false ∧ decide (epoch < 1) = false ∧ decide (4294967295 < epoch) = false ∧ decide (next < 1) = true) ∨ (decide (gen < 1) = false ∧ decide (281474976710655 < gen) = false ∧ decide (epoch < 1) = false ∧ decide (4294967295 < epoch) = false ∧ decide (next < 1) = false ∧ decide (281474976710655 < next) = true))) ∨ ((Sn.right gen epoch next es = es.all fun e => decide (e.q < next)) ∧ decide (gen < 1) = false ∧ decide (281474976710655 < gen) = false ∧ decide (epoch < 1) = false ∧ decide (4294967295 < epoch) = false ∧ decide (next < 1) = false ∧ decide (281474976710655 < next) = false) := by
    simp only [decide_eq_true_eq, decide_eq_false_iff_not]
    by_cases h : Sn.nums gen epoch next = true
    · right
      obtain ⟨⟨a1, a2⟩, ⟨b1, b2⟩, n1, n2⟩ := Sn.nums_iff.1 h
      refine ⟨by unfold Sn.right; rw [h]; rfl, ?_⟩
      omega
    · left
      refine ⟨by unfold Sn.right; rw [Bool.eq_false_iff.2 h]; rfl, ?_⟩
      rw [Sn.nums_iff] at h
      omega
  obtain ⟨r, hrr⟩ : ∃ r, Sn.right gen epoch next es = r := ⟨_, rfl⟩
  rw [hrr] at hcase ⊢
  clear hrr
  go_enter Try.func22, Try.ntmps22
  go_upto_region 1 with (fail)
  rw [HW0.out]
  rcases hcase with ⟨hf, hc⟩ | ⟨hf, t1, t2, t3, t4, t5, t6⟩
  · subst hf
    rcases hc with t1 | ⟨t1, t2⟩ | ⟨t1, t2, t3⟩ | ⟨t1, t2, t3, t4⟩ | ⟨t1, t2, t3, t4, t5⟩ | ⟨t1, t2, t3, t4, t5, t6⟩
    all_goals
      go_wp2
      go_ret
      exact ⟨rfl, HB0.out⟩
  · have HF := Lib.hid hf
    clear hf
    go_upto_region 3 with (fail)
    clear t1 t2 t3 t4 t5 t6 c0 c1 c2 c9
    go_wp2
    go_loopw [3] (fun u wr => ∃ k : Nat, k ≤ es.length ∧ u = .int .i64 k ∧ (∀ e ∈ es.take k, e.q < next) ∧ Below W0.heap.size W0 wr) (fun u _ => es.length - (intOf u).toNat)
    case atStart => exact ⟨0, Nat.zero_le _, rfl, by simp, Below.refl _ _⟩
    case round =>
      obtain ⟨k, hk, rfl, hall, hBr⟩ := hrel
      have HALL := Lib.hid hall
      have HBR := Lib.hid hBr
      have zr := hBr.size
      have HXr := Lib.hid ((hBr.block w.heap.size z0).trans HX0.out)
      obtain ⟨c0, c1, c2, c9⟩ := HCC.out _ HXr.out
      clear hall hBr
      by_cases hlt : k < es.length
      · obtain ⟨x, hx⟩ : ∃ x, es[k]? = some x := ⟨_, List.getElem?_eq_getElem hlt⟩
        obtain ⟨b, o, rfl, hbl, -, -, -, -, -, d4, -⟩ := (HRO.out.below HBR.out).ent6 hx
        have HTK : Hid (x.q < next → ∀ e ∈ es.take (k + 1), e.q < next) := Lib.hid (fun h e he => by
          rw [List.take_add_one, hx] at he
          rcases List.mem_append.1 he with he | he
          · exact HALL.out e he
          · have : e = x := by simpa using he
            rw [this]; exact h)
        have HNO : Hid (¬ x.q < next → (es.all fun e => decide (e.q < next)) = false) := Lib.hid (fun h => by
          rw [List.all_eq_false]
          exact ⟨x, List.mem_of_getElem? hx, by simpa using h⟩)
        have HD4 : Hid (∀ W : World, Below wr.heap.size wr W → W.cell? ⟨b, o + k * 6 + 4, none⟩ = some (.int .i64 x.q)) := Lib.hid (fun W hW => (hW.cell (p := ⟨b, o + k * 6 + 4, none⟩) hbl).trans d4)
        have t0 : decide ((k : Int) < (es.length : Int)) = true := decide_eq_true (by omega)
        clear hx d4 hbl
        go_upto_region 6 with (fail)
        clear t0 c0 c1 c2 c9
        refine wp_region_conf2 8 [Fact.eq (.pointer (some ⟨w.heap.size, 9, none⟩)), Fact.eq (.slice (some ⟨b, o, none⟩) es.length cap), Fact.eq (.int .i64 (k : Nat)), Fact.eq (.pointer (some ⟨b, o + k * 6, none⟩)), Fact.eq (.pointer (some ⟨b, o + k * 6 + 4, none⟩)), Fact.eq (.int .i64 x.q), Fact.eq (.pointer (some ⟨w.heap.size, 2, none⟩)), Fact.eq (.int .i64 next)] ?raA (by kernel_rfl) (by kernel_rfl) ?rahA ?raho ?rahend
        case rahA =>
          intro vv
          simp only [putRules, Nat.reduceAdd]
          rfl
        case raho =>
          refine ⟨?_, ?_, ?_, ?_, ?_, ?_, ?_, ?_, trivial⟩
          · intro vv W K hB hd HK
            simp only [confRules] at HK
            clear hd
            go_wp2
            refine HK.out _ _ (Below.refl _ _) ?_
            rfl
          · intro vv W K hB hd HK
            simp only [confRules] at hd HK
            have h0 := hd
            clear hd
            simp only [h0] at HK ⊢
            clear h0
            obtain ⟨c0, c1, c2, c9⟩ := HCC.out _ ((hB.block w.heap.size (by omega)).trans HXr.out)
            clear c0 c1 c2
            go_wp2
            refine HK.out _ _ (Below.refl _ _) ?_
            rfl
          · intro vv W K hB hd HK
            simp only [confRules] at HK
            clear hd
            go_wp2
            refine HK.out _ _ (Below.refl _ _) ?_
            rfl
          · intro vv W K hB hd HK
            simp only [confRules] at hd HK
            obtain ⟨h1, h2⟩ := hd
            simp only [h1, h2] at HK ⊢
            clear h1 h2
            go_wp2
            refine HK.out _ _ (Below.refl _ _) ?_
            rfl
          · intro vv W K hB hd HK
            simp only [confRules] at hd HK
            have h3 := hd
            clear hd
            simp only [h3] at HK ⊢
            clear h3
            go_wp2
            refine HK.out _ _ (Below.refl _ _) ?_
            rfl
          · intro vv W K hB hd HK
            simp only [confRules] at hd HK
            have h4 := hd
            clear hd
            simp only [h4] at HK ⊢
            clear h4
            have d4 := HD4.out _ hB
            go_wp2
            refine HK.out _ _ (Below.refl _ _) ?_
            rfl
          · intro vv W K hB hd HK
            simp only [confRules] at HK
            clear hd
            go_wp2
            refine HK.out _ _ (Below.refl _ _) ?_
            rfl
          · intro vv W K hB hd HK
            simp only [confRules] at hd HK
            have h6 := hd
            clear hd
            simp only [h6] at HK ⊢
            clear h6
            obtain ⟨c0, c1, c2, c9⟩ := HCC.out _ ((hB.block w.heap.size (by omega)).trans HXr.out)
            clear c0 c1 c9
            go_wp2
            refine HK.out _ _ (Below.refl _ _) ?_
            rfl
        case rahend =>
          intro vv W hB hf
          have e5 := hf 5 (by decide)
          have e7 := hf 7 (by decide)
          simp only [endRules] at e5 e7
          simp only [e5, e7, dropRules]
          clear hf e5 e7
          have HBW := Lib.hid (HBR.out.trans (hB.mono HBR.out.size))
          clear hB
          by_cases hq : x.q < next
          · have t1 : decide (next ≤ x.q) = false := decide_eq_false (by omega)
            have HT := Lib.hid (HTK.out hq)
            clear hq
            go_wp2
            go_roundw
            case rel => exact ⟨k + 1, by omega, by go_num, HT.out, HBW.out⟩
            case measure => simp [intOf]; omega
          · have t1 : decide (next ≤ x.q) = true := decide_eq_true (by omega)
            obtain rfl : r = false := HF.out.trans (HNO.out hq)
            clear hq
            go_wp2
            go_ret
            exact ⟨rfl, HB0.out.trans (HBW.out.mono HB0.out.size)⟩
      · obtain rfl : k = es.length := by omega
        have HT : Hid ((es.all fun e => decide (e.q < next)) = true) := Lib.hid (by
          rw [List.all_eq_true]
          intro e he
          have := HALL.out e (by rw [List.take_length]; exact he)
          exact decide_eq_true this)
        obtain rfl : r = true := HF.out.trans HT.out
        go_wp2
        go_ret
        exact ⟨rfl, HB0.out.trans (HBR.out.mono HB0.out.size)⟩
theorem rsright_any (w : World) (gen epoch next : Int) (g : Geo.G) (v : Value) (base : Nat) (es : List BE) (h : OwnM w 104 6 BEC (fun _ => True) base v es) (hn : es.length ≤ 100000) :
    Calls Try.prog 22 #[.agg (RC gen epoch next g v)] w fun e w' => e = .returned (.bool (Sn.right gen epoch next es)) ∧ Below w.heap.size w w' := by
  obtain ⟨a, cap, rfl, hr, -⟩ := h.shape kinR
  exact rsright_core w gen epoch next g a cap es hr hn
end Go.Proofs.Ytjnneoejnpephaa
namespace Frm
/-- sixty-four bytes -/
def Sec (s : List Nat) : Prop := s.length = 64 ∧ ∀ c ∈ s, c < 256
theorem sec_of {f : Fr} (h : Body f.body) : Sec (sectorOf f) := ⟨sector_length h, sector_lt h⟩
theorem frB_parse (b : List Nat) (hl : b.length = 60) (hb : ∀ c ∈ b, c < 256) (hv : verF b = 1) : frB (parseF b) = b := by
  have hk : ∀ o k : Nat, o + k ≤ 60 → Cod.leN k ((Cod.rd ((b.drop o).take k) : Nat) : Int).toNat = (b.drop o).take k := by
    intro o k h
    have h1 := Cod.leN_rd ((b.drop o).take k) (fun c hc => hb c (List.mem_of_mem_drop (List.mem_of_mem_take hc)))
    rw [List.length_take, List.length_drop, Nat.min_eq_left (by omega)] at h1
    exact h1
  have hk0 := hk 0 1 (by omega)
  rw [List.drop_zero] at hk0
  have hv1 : Cod.leN 1 1 = (b.drop 1).take 1 := by
    have h1 := Cod.leN_rd ((b.drop 1).take 1) (fun c hc => hb c (List.mem_of_mem_drop (List.mem_of_mem_take hc)))
    rw [List.length_take, List.length_drop, Nat.min_eq_left (by omega)] at h1
    unfold verF at hv
    rw [hv] at h1
    exact h1
  unfold frB parseF
  simp only
  rw [hk0, hv1, hk 2 2 (by omega), hk 4 2 (by omega), hk 6 4 (by omega), hk 10 6 (by omega)]
  have a : ∀ o k : Nat, b.take o ++ (b.drop o).take k = b.take (o + k) := fun o k => by rw [List.take_add]
  have a0 := a 1 1
  have a1 := a 2 2
  have a2 := a 4 2
  have a3 := a 6 4
  have a4 := a 10 6
  have a5 := a 16 44
  simp only [Nat.reduceAdd] at a0 a1 a2 a3 a4 a5
  rw [a0, a1, a2, a3, a4, a5, List.take_of_length_le (by omega)]
/-- a sector that says a frame is that frame's -/
theorem dec_inv {s : List Nat} (hs : Sec s) (h : (decF s).2 = 0) : s = sectorOf (decF s).1 ∧ rightF (decF s).1 = true ∧ Body (decF s).1.body := by
  unfold decF at h ⊢
  by_cases h1 : s.drop 60 = Crc.le4 (Crc.sum (s.take 60))
  · rw [if_pos h1] at h ⊢
    by_cases h2 : verF (s.take 60) = 1 ∧ rightF (parseF (s.take 60)) = true
    · rw [if_pos h2]
      have ht : ∀ c ∈ s.take 60, c < 256 := fun c hc => hs.2 c (List.mem_of_mem_take hc)
      refine ⟨?_, h2.2, ?_, ?_⟩
      · unfold sectorOf
        rw [frB_parse _ (by rw [List.length_take, hs.1]; rfl) ht h2.1, ← h1, List.take_append_drop]
      · simp only [parseF]
        simp [hs.1]
      · intro c hc
        exact ht c (List.mem_of_mem_drop (List.mem_of_mem_take hc))
    · rw [if_neg h2] at h; cases h
  · rw [if_neg h1] at h; cases h
end Frm
namespace Go.Proofs.Ytjnneoejnpephaa
open Frm
theorem at_sec (f : Fr) (zone off : Int) (hr : rightF f = true) (hb : Body f.body) : atF (sectorOf f) zone off = if f.zone ≠ zone ∨ f.off ≠ off then (Fr.zero, 12) else (f, 0) := by
  unfold atF
  rw [dec_sector hr hb]
  rfl
theorem at_inv {s : List Nat} {zone off : Int} (hs : Sec s) (h : (atF s zone off).2 = 0) : s = sectorOf (atF s zone off).1 ∧ rightF (atF s zone off).1 = true ∧ Body (atF s zone off).1.body ∧ (atF s zone off).1.zone = zone ∧ (atF s zone off).1.off = off ∧ (atF s zone off).1 = (decF s).1 ∧ (decF s).2 = 0 := by
  unfold atF at h ⊢
  by_cases h1 : (decF s).2 = 0
  · rw [if_neg (by rw [h1]; simp)] at h ⊢
    by_cases h2 : (decF s).1.zone ≠ zone ∨ (decF s).1.off ≠ off
    · rw [if_pos h2] at h; cases h
    · rw [if_neg h2]
      obtain ⟨a, b, c⟩ := dec_inv hs h1
      have hz : (decF s).1.zone = zone := Classical.byContradiction fun e => h2 (.inl e)
      have ho : (decF s).1.off = off := Classical.byContradiction fun e => h2 (.inr e)
      exact ⟨a, b, c, hz, ho, rfl, h1⟩
  · rw [if_pos h1] at h; exact absurd h h1
theorem at_len (s : List Nat) (zone off : Int) (hl : s.length = 64) : (atF s zone off).1.body.length = 44 := by
  unfold atF
  split
  · simp [Fr.zero]
  · split
    · simp [Fr.zero]
    · exact dec_body s hl
end Go.Proofs.Ytjnneoejnpephaa
namespace Ck
open Go.Proofs.Ytjnneoejnpephaa Frm
/-- the frames that a zone's sectors say, from a place on -/
def decs (zone : Int) : Nat → List (List Nat) → List Fr
  | _, [] => []
  | i, x :: r => if (atF x zone i).2 = 0 then (atF x zone i).1 :: decs zone (i + 1) r else []
def secs (fs : List Fr) : List (List Nat) := fs.map sectorOf
/-- the snapshot of a zone's sectors -/
def parseS (zone : Int) (l : List (List Nat)) : Option Sn.S := Sn.readS (decs zone 0 l)
/-- of the first k sectors -/
theorem decs_len (zone : Int) : ∀ (l : List (List Nat)) (i : Nat), (decs zone i l).length ≤ l.length
  | [], _ => Nat.le_refl _
  | x :: r, i => by
    unfold decs
    split
    · simpa using decs_len zone r (i + 1)
    · simp
/-- frames that stand in a zone, one behind the other -/
def Stand (zone : Int) (i : Nat) (fs : List Fr) : Prop := ∀ (k : Nat) (f : Fr), fs[k]? = some f → rightF f = true ∧ Body f.body ∧ f.zone = zone ∧ f.off = ((i + k : Nat) : Int)
theorem decs_secs (zone : Int) : ∀ (fs : List Fr) (i : Nat) (r : List (List Nat)), Stand zone i fs → decs zone i (secs fs ++ r) = fs ++ decs zone (i + fs.length) r
  | [], i, r, _ => by simp [secs]
  | f :: fs, i, r, h => by
    obtain ⟨h1, h2, h3, h4⟩ := h 0 f rfl
    have e : atF (sectorOf f) zone i = (f, 0) := by
      rw [at_sec f zone i h1 h2, if_neg]
      rintro (h | h)
      · exact h h3
      · exact h (by rw [h4]; rfl)
    have ih := decs_secs zone fs (i + 1) r (fun k g hg => by
      have := h (k + 1) g hg
      rw [show i + (k + 1) = i + 1 + k by omega] at this
      exact this)
    show (if (atF (sectorOf f) zone i).2 = 0 then (atF (sectorOf f) zone i).1 :: decs zone (i + 1) (secs fs ++ r) else []) = _
    rw [e, if_pos rfl, ih, List.length_cons, show i + 1 + fs.length = i + (fs.length + 1) by omega]
    rfl
theorem decs_none {zone : Int} {i : Nat} {x : List Nat} {r : List (List Nat)} (h : (atF x zone i).2 ≠ 0) : decs zone i (x :: r) = [] := by
  unfold decs
  rw [if_neg h]
theorem decs_at (zone : Int) : ∀ (l : List (List Nat)) (i k : Nat) (f : Fr), (∀ x ∈ l, Sec x) → (decs zone i l)[k]? = some f → ∃ x, l[k]? = some x ∧ x = sectorOf f ∧ rightF f = true ∧ Body f.body ∧ f.zone = zone ∧ f.off = ((i + k : Nat) : Int) ∧ decF x = (f, 0)
  | [], _, _, _, _, h => by simp [decs] at h
  | x :: r, i, k, f, hl, h => by
    unfold decs at h
    by_cases he : (atF x zone i).2 = 0
    · rw [if_pos he] at h
      cases k with
      | zero =>
        simp only [List.getElem?_cons_zero, Option.some.injEq] at h
        obtain ⟨a1, a2, a3, a4, a5, a6, a7⟩ := at_inv (hl x (by simp)) he
        subst h
        exact ⟨x, rfl, a1, a2, a3, a4, a5, by rw [a6, ← a7]⟩
      | succ k =>
        simp only [List.getElem?_cons_succ] at h ⊢
        obtain ⟨y, b1, b2, b3, b4, b5, b6, b7⟩ := decs_at zone r (i + 1) k f (fun y hy => hl y (by simp [hy])) h
        exact ⟨y, b1, b2, b3, b4, b5, by rw [b6, show i + 1 + k = i + (k + 1) by omega], b7⟩
    · rw [if_neg he] at h; simp at h
theorem secs_inj {xs ys : List Fr} (ha : ∀ f ∈ xs, rightF f = true ∧ Body f.body) (hb : ∀ f ∈ ys, rightF f = true ∧ Body f.body) (h : secs xs = secs ys) : xs = ys := by
  induction xs generalizing ys with
  | nil => cases ys with
    | nil => rfl
    | cons b ys => simp [secs] at h
  | cons a xs ih => cases ys with
    | nil => simp [secs] at h
    | cons b ys =>
      simp only [secs, List.map_cons, List.cons.injEq] at h
      obtain ⟨h1, h2⟩ := h
      have e1 := sector_inj (ha a (by simp)).1 (hb b (by simp)).1 (ha a (by simp)).2 (hb b (by simp)).2 h1
      rw [e1, ih (fun f hf => ha f (by simp [hf])) (fun f hf => hb f (by simp [hf])) h2]
theorem frames_stand {s : Sn.S} {zone : Int} (hg : Geo.right s.g = true) (hk : s.ok zone = true) : Stand zone 0 (s.frames zone) := by
  intro k f h
  obtain ⟨h1, -, h3⟩ := Sn.frames_right hg hk f (List.mem_of_getElem? h)
  refine ⟨h3, h1, ?_⟩
  unfold Sn.S.frames Sn.frames at h
  cases k with
  | zero =>
    simp only [List.getElem?_cons_zero, Option.some.injEq] at h
    subst h
    exact ⟨rfl, rfl⟩
  | succ k =>
    simp only [List.getElem?_cons_succ, List.getElem?_map] at h
    cases hk : (List.range (Sn.nParts s.g - 1))[k]? with
    | none => rw [hk] at h; simp at h
    | some i =>
      have hi : i = k := by
        obtain ⟨h1, h2⟩ := List.getElem?_eq_some_iff.1 hk
        simpa using h2.symm
      subst hi
      rw [hk] at h
      simp only [Option.map_some, Option.some.injEq] at h
      subst h
      exact ⟨rfl, by show ((i + 1 : Nat) : Int) = _; rw [Nat.zero_add]⟩
/-- a copy's sectors -/
def sl (s : Sn.S) (zone : Int) : List (List Nat) := secs (s.fr zone)
/-- a copy is parsed from its sectors, with anything behind them -/
theorem parse_secs {s : Sn.S} {zone : Int} (hg : Geo.right s.g = true) (hM : MapOk s.g s.es) (hk : s.ok zone = true) (r : List (List Nat)) : parseS zone (secs (s.frames zone) ++ r) = some s := by
  unfold parseS
  rw [decs_secs zone _ 0 r (frames_stand hg hk)]
  exact Sn.read_frames hg hM hk _
theorem parse_other {s : Sn.S} {zone other : Int} (hg : Geo.right s.g = true) (hk : s.ok zone = true) (ho : other ≠ zone) (r : List (List Nat)) : parseS other (secs (s.frames zone) ++ r) = none := by
  obtain ⟨f, hf⟩ : ∃ f, (s.frames zone)[0]? = some f := ⟨_, List.getElem?_eq_getElem (by rw [Sn.S.frames_length s ((Geo.right_iff _).1 hg).1]; have := (Sn.nParts_two ((Geo.right_iff _).1 hg).1).1; omega)⟩
  obtain ⟨h1, h2, h3, -⟩ := frames_stand hg hk 0 f hf
  obtain ⟨fs, hfs⟩ : ∃ fs, s.frames zone = f :: fs := by
    cases h : s.frames zone with
    | nil => rw [h] at hf; cases hf
    | cons a fs => rw [h] at hf; cases hf; exact ⟨fs, rfl⟩
  unfold parseS
  rw [hfs]
  show Sn.readS (decs other 0 (sectorOf f :: (secs fs ++ r))) = none
  rw [decs_none]
  · rfl
  · rw [at_sec f other _ h1 h2, if_pos (.inl (by rw [h3]; exact fun e => ho e.symm))]
    simp
theorem secs_take (fs : List Fr) (k : Nat) : (secs fs).take k = secs (fs.take k) := by simp [secs, List.map_take]
/-- of a beginning there is none -/
theorem parse_cut {s : Sn.S} {zone : Int} (hg : Geo.right s.g = true) (hk : s.ok zone = true) {k : Nat} (h : k < Sn.nParts s.g) : parseS zone ((secs (s.frames zone)).take k) = none := by
  have hr : s.right = true := by simp only [Sn.S.ok, Bool.and_eq_true] at hk; exact hk.1
  unfold parseS
  rw [secs_take]
  have h1 := decs_secs zone ((s.frames zone).take k) 0 [] (fun j f hj => frames_stand hg hk j f (by
    rw [List.getElem?_take] at hj
    split at hj
    · exact hj
    · cases hj))
  rw [List.append_nil] at h1
  rw [h1]
  show Sn.readS (_ ++ []) = none
  rw [List.append_nil]
  exact Sn.read_cut hg hr h
theorem decs_stop (zone : Int) (fs : List Fr) (x : List Nat) (r : List (List Nat)) (h : Stand zone 0 fs) (hx : (atF x zone fs.length).2 ≠ 0) : decs zone 0 (secs fs ++ x :: r) = fs := by
  rw [decs_secs zone fs 0 _ h, decs_none (by rw [Nat.zero_add]; exact hx), List.append_nil]
theorem spoilt_at {f : Fr} (hb : Body f.body) (q : List Nat) (hq : q.length = 64) (hqb : ∀ c ∈ q, c < 256) (ho : Crc.over 0 q ≠ 0) (zone off : Int) : (atF (Crc.xorTo (sectorOf f) q 64) zone off).2 ≠ 0 := by
  obtain ⟨X, hX⟩ : ∃ X, X = Crc.xorTo (sectorOf f) q 64 := ⟨_, rfl⟩
  rw [← hX]
  have hl : X.length = 64 := by rw [hX, Crc.xorTo_length, sector_length hb]
  have hp := Crc.patterns (frB f) q (frB_lt hb) hqb (by rw [hq, frB_length hb]) X (by rw [hX, hq]; rfl)
  rw [hl] at hp
  have h2 : (decF X).2 = 11 := by
    unfold decF
    rw [if_neg (fun e => ho (hp.1 e))]
  unfold atF
  rw [h2, if_pos (by omega)]
  simp
/-- a copy of which a sector is spoilt is none -/
theorem parse_spoilt {s : Sn.S} {zone : Int} (hg : Geo.right s.g = true) (hk : s.ok zone = true) (q : List Nat) (hq : q.length = 64) (hqb : ∀ c ∈ q, c < 256) (ho : Crc.over 0 q ≠ 0) {k : Nat} {x : List Nat} (hx : (secs (s.frames zone))[k]? = some x) : parseS zone ((secs (s.frames zone)).set k (Crc.xorTo x q 64)) = none := by
  have hr : s.right = true := by simp only [Sn.S.ok, Bool.and_eq_true] at hk; exact hk.1
  have hlen : (s.frames zone).length = Sn.nParts s.g := Sn.S.frames_length s ((Geo.right_iff _).1 hg).1 zone
  have hk1 : k < (secs (s.frames zone)).length := (List.getElem?_eq_some_iff.1 hx).1
  have hk2 : k < (s.frames zone).length := by simpa [secs] using hk1
  obtain ⟨f, hf⟩ : ∃ f, (s.frames zone)[k]? = some f := ⟨_, List.getElem?_eq_getElem hk2⟩
  have hxf : x = sectorOf f := by
    simp only [secs, List.getElem?_map, hf, Option.map_some, Option.some.injEq] at hx
    exact hx.symm
  obtain ⟨h1, h2, h3, h4⟩ := frames_stand hg hk k f hf
  have he : (secs (s.frames zone)).set k (Crc.xorTo x q 64) = secs ((s.frames zone).take k) ++ Crc.xorTo x q 64 :: (secs (s.frames zone)).drop (k + 1) := by
    rw [List.set_eq_take_append_cons_drop, if_pos hk1, secs_take]
  have hst : Stand zone 0 ((s.frames zone).take k) := fun j f hj => frames_stand hg hk j f (by
    rw [List.getElem?_take] at hj
    split at hj
    · exact hj
    · cases hj)
  unfold parseS
  rw [he, decs_stop zone _ _ _ hst (by rw [hxf]; exact spoilt_at h2 q hq hqb ho _ _)]
  exact Sn.read_cut hg hr (by rw [← hlen]; exact hk2)
theorem read_one (f : Fr) : Sn.readS [f] = none := by
  rw [Sn.readS_cons, if_neg]
  rintro ⟨h1, h2⟩
  have := (Sn.nParts_two ((Geo.right_iff _).1 h1).1).1
  simp at h2
  omega
/-- a copy's sectors behind another one are none -/
theorem parse_moved {s : Sn.S} {zone : Int} (hg : Geo.right s.g = true) (hk : s.ok zone = true) (a : List Nat) : parseS zone (a :: secs (s.frames zone)) = none := by
  obtain ⟨f, hf⟩ : ∃ f, (s.frames zone)[0]? = some f := ⟨_, List.getElem?_eq_getElem (by rw [Sn.S.frames_length s ((Geo.right_iff _).1 hg).1]; have := (Sn.nParts_two ((Geo.right_iff _).1 hg).1).1; omega)⟩
  obtain ⟨h1, h2, h3, h4⟩ := frames_stand hg hk 0 f hf
  obtain ⟨fs, hfs⟩ : ∃ fs, s.frames zone = f :: fs := by
    cases h : s.frames zone with
    | nil => rw [h] at hf; cases hf
    | cons a fs => rw [h] at hf; cases hf; exact ⟨fs, rfl⟩
  unfold parseS
  have h5 : decs zone 1 (secs (s.frames zone)) = [] := by
    rw [hfs]
    show decs zone 1 (sectorOf f :: secs fs) = []
    rw [decs_none]
    rw [at_sec f zone _ h1 h2, if_pos (.inr (by rw [h4]; decide))]
    simp
  unfold decs
  rw [Nat.zero_add, h5]
  split
  · exact read_one _
  · rfl
/-- what is parsed begins with its own sectors -/
theorem parse_some {zone : Int} {l : List (List Nat)} {s : Sn.S} (hl : ∀ x ∈ l, Sec x) (h : parseS zone l = some s) : Geo.right s.g = true ∧ MapOk s.g s.es ∧ s.ok zone = true ∧ Sn.nParts s.g ≤ l.length ∧ ∀ (k : Nat) (f : Fr), (s.frames zone)[k]? = some f → l[k]? = some (sectorOf f) ∧ decF (sectorOf f) = (f, 0) ∧ f.zone = zone ∧ f.off = (k : Int) := by
  unfold parseS at h
  have hb : ∀ f ∈ decs zone 0 l, ∀ c ∈ f.body, c < 256 := by
    intro f hf
    obtain ⟨k, hk⟩ := List.mem_iff_getElem?.1 hf
    obtain ⟨x, -, -, -, h4, -⟩ := decs_at zone l 0 k f hl hk
    exact h4.2
  obtain ⟨f0, r, h1, h2, h3, h4, h5, h6⟩ := Sn.read_some hb h
  obtain ⟨x0, -, -, -, -, h7, -⟩ := decs_at zone l 0 0 f0 hl (by rw [h1]; rfl)
  rw [h7] at h4 h6
  refine ⟨h2, h3, h4, Nat.le_trans h5 (decs_len zone l 0), fun k f hf => ?_⟩
  have h8 : (decs zone 0 l)[k]? = some f := by
    rw [h6, List.getElem?_take] at hf
    split at hf
    · exact hf
    · cases hf
  obtain ⟨x, b1, b2, b3, b4, b5, b6, b7⟩ := decs_at zone l 0 k f hl h8
  rw [b2] at b1 b7
  exact ⟨b1, b7, b5, by rw [b6, Nat.zero_add]⟩
end Ck
namespace Go.Proofs.Ytjnneoejnpephaa
open Go.RowKit Go.Rv Frm
set_option linter.unusedVariables false
attribute [local go_sem] Oper.semAt_some
theorem Try.infoIt13 : (Try.prog.info? 120).map (fun i => (i.zero, i.size)) = some (some (.agg (opC (0, BE.zero))), 7) := by kernel_rfl
set_option maxRecDepth 100000 in
set_option maxHeartbeats 16000000 in
theorem made13_core (g : Geo.G) (n : Nat) (hbn : g.b = n) (hr : Geo.right g = true) (a : Option Addr) (l : List (Int × BE)) (cp : Nat) (gen epoch next : Int) (w : World) (hI : RowOf w 7 opC Op64 a l) (hl : l.length ≤ 60) :
    Calls Try.prog 33 #[.agg (GC g), .slice a l.length cp, .int .i64 gen, .int .i64 epoch, .int .i64 next] w fun e w' => ∃ p le ll v, e = .returned (.tuple #[.agg (SnC gen epoch next p), .agg (RC gen epoch next g v), .bool (Sn.made g l gen epoch next).right]) ∧ SnIs w' p le ll n (nz g) (Sn.made g l gen epoch next) ∧ OwnM w' 104 6 BEC (fun _ => True) w.heap.size v (Sn.made g l gen epoch next).es ∧ (w.heap.size ≤ p ∧ w.heap.size ≤ le ∧ w.heap.size ≤ ll) ∧ Below w.heap.size w w' := by
  obtain ⟨RB, hRB⟩ : ∃ b, (Sn.made g l gen epoch next).right = b := ⟨_, rfl⟩
  rw [hRB]
  have HRB := Lib.hid hRB
  clear hRB
  have hgt : g.b.toNat = n := by rw [hbn]; rfl
  have hs := ((Geo.right_iff g).1 hr).1
  have hn2 : n ≤ 256 := by have := hs.2.2.2.1.2; omega
  have HRT := Lib.hid hr
  have HN : Hid (∀ W, Calls Try.prog 44 #[.agg (GC g)] W fun x w' => ∃ p le ll, x = .returned (.tuple #[.pointer (some ⟨p, 0, none⟩), .int .i64 0]) ∧ BmIs w' p le ll n (nz g) g (List.replicate n BE.zero) (liveL (nz g) (List.replicate n BE.zero)) ∧ W.heap.size ≤ p ∧ W.heap.size ≤ le ∧ W.heap.size ≤ ll ∧ Below W.heap.size W w') := Lib.hid (fun W => by have := bnew_any g hr W; rwa [hgt] at this)
  have HM0 : Hid (MapOk g (List.replicate n BE.zero)) := Lib.hid (by have := mapOk_new g hr; rwa [hgt] at this)
  have HMD : Hid (Sn.made g l gen epoch next = ⟨gen, epoch, next, g, Sn.setAll g (List.replicate n BE.zero) l⟩) := Lib.hid (by unfold Sn.made; rw [hgt])
  have HI := Lib.hid hI
  have HGI := Lib.hid (gsize (g := g))
  have HSI : Hid ((Try.prog.info? 28).map (·.size) = some SZ.size) := Lib.hid (zero_of_info Try.infoSnz).2
  have HRI := Lib.hid (fun gen epoch next v => rssize gen epoch next g v)
  have HII : Hid (∀ x : Int × BE, (Try.prog.info? 120).map (·.size) = some (opC x).size) := Lib.hid (fun x => (zero_of_info Try.infoIt13).2)
  have HIL : Hid (∀ x : Int × BE, (Try.prog.info? 120).map (·.size) = some (opC x).toList.length) := Lib.hid (fun x => (zero_of_info Try.infoIt13).2)
  have HIE := Lib.hid (fun e => esize e)
  have HIEL : Hid (∀ e : BE, (Try.prog.info? 46).map (·.size) = some (BEC e).toList.length) := Lib.hid (fun e => by rw [Array.length_toList]; exact esize e)
  have HON := Lib.hid (fun e => BEC_one e)
  have HOO := Lib.hid (fun x => opC_one x)
  have HZO : Hid (∀ x : Int × BE, (opC (0, BE.zero)).size = (opC x).size) := Lib.hid (fun x => rfl)
  have HSZ : Hid (∀ e : BE, (BEC BE.zero).size = (BEC e).size) := Lib.hid (fun e => by rw [BEC_size, BEC_size])
  have HBR := Lib.hid (built_rs gen epoch next g)
  have HRO : Hid ((RC gen epoch next g (.slice none 0 0)).all (·.oneCell') = true) := Lib.hid (by simp [RC, Value.oneCell'])
  have hzo := (zero_of_info Try.infoIt13).1
  have hzs := (zero_of_info Try.infoSnz).1
  have hzr := (zero_of_info Try.infoRS).1
  have hz := (zero_of_info Try.infoEnt).1
  have HIR : Hid ((Try.prog.info? 104).map (fun i => (i.zero, i.size, i.bytes)) = some (some (.agg (BEC BE.zero)), 6, 48)) := Lib.hid (by kernel_rfl)
  have HST := Lib.hid (fun (W : World) (p le ll : Nat) (es : List BE) hM hW (k : Int) e hn => bset_any W p le ll n (nz g) g es hr hM hW k e hn)
  have t1 : decide (60 < (l.length : Int)) = false := decide_eq_false (by omega)
  obtain ⟨XZ, hXZ⟩ : ∃ XZ, SZ = XZ := ⟨_, rfl⟩
  obtain ⟨XR, hXR⟩ : ∃ XR, RZ = XR := ⟨_, rfl⟩
  have HZS : Hid (∀ p, XZ.size = (SnC gen epoch next p).size) := Lib.hid (fun p => by rw [← hXZ]; rfl)
  have HZR : Hid (∀ v, XR.size = (RC gen epoch next g v).size) := Lib.hid (fun v => by rw [← hXR]; rfl)
  rw [hXZ] at HSI hzs
  rw [hXR] at hzr
  have hB0 : Below w.heap.size w (((w.alloc (.cells (GC g) 23)).alloc (.cells XZ 28)).alloc (.cells XR 32)) := (((Below.refl _ _).alloc (Nat.le_refl _) _).alloc (by simp) _).alloc (by simp; omega) _
  obtain ⟨W0, hW0⟩ : ∃ W0, ((w.alloc (.cells (GC g) 23)).alloc (.cells XZ 28)).alloc (.cells XR 32) = W0 := ⟨_, rfl⟩
  have hG0 : W0.heap[w.heap.size]? = some (.cells (GC g) 23 (0, 0)) := by rw [← hW0, alloc_old _ _ (by simp; omega), alloc_old _ _ (by simp)]; exact alloc_new _ _ rfl
  have hZ0 : W0.heap[w.heap.size + 1]? = some (.cells XZ 28 (0, 0)) := by rw [← hW0, alloc_old _ _ (by simp)]; exact alloc_new _ _ (by simp)
  have hR0 : W0.heap[w.heap.size + 2]? = some (.cells XR 32 (0, 0)) := by rw [← hW0]; exact alloc_new _ _ (by simp)
  rw [hW0] at hB0
  have HW0 := Lib.hid hW0
  have z0 : w.heap.size + 2 < W0.heap.size := (Array.getElem?_eq_some_iff.1 hR0).1
  have HZ0 := Lib.hid hZ0
  have HR0 := Lib.hid hR0
  have HG0 := Lib.hid hG0
  clear hI hs hr hgt hW0 hZ0 hR0 hXZ hXR hbn
  obtain ⟨GX, hGX⟩ : ∃ GX, GC g = GX := ⟨_, rfl⟩
  rw [hGX] at HN HGI HBR hG0 HG0 HW0 ⊢
  clear hGX
  refine calls_of_marks Try.func33 rfl ?_
  simp only [Try.ntmps33, List.size_toArray, List.length_cons, List.length_nil, Nat.reduceAdd, Nat.reduceSub, Array.replicate_succ, Array.replicate_zero, List.push_toArray, List.append_toArray, List.nil_append, List.cons_append]
  go_upto_region 1 with (fail)
  rw [show ((w.alloc (.cells GX 23)).alloc (.cells XZ 28)).alloc (.cells XR 32) = W0 from HW0.out]
  go_wp2_with (refine wpList_row_on (by rfl) 23 _ rfl w.heap.size rfl 23 _ _ _ hG0 Try.underlying23 rfl HGI.out ?_)
  refine (HN.out _).mono ?_
  rintro e1 w1 ⟨p, le, ll, rfl, hbm1, q1, q2, q3, hB1⟩
  have HBM1 := Lib.hid hbm1
  have hlt1 := hbm1.lt
  have z1 := hB1.size
  have HG1 := Lib.hid ((hB1.block w.heap.size (by omega)).trans HG0.out)
  have HZ1 := Lib.hid ((hB1.block (w.heap.size + 1) (by omega)).trans HZ0.out)
  have HR1 := Lib.hid ((hB1.block (w.heap.size + 2) (by omega)).trans HR0.out)
  have HB1 := Lib.hid (hB0.trans (hB1.mono hB0.size))
  clear hG0 hB0 hbm1 hB1
  go_wp2
  clear t1
  go_loopw [40] (fun u wr => ∃ (k : Nat) (es : List BE), k ≤ l.length ∧ u = .int .i64 k ∧ es = Sn.setAll g (List.replicate n BE.zero) (l.take k) ∧ MapOk g es ∧ BmIs wr p le ll n (nz g) g es (liveL (nz g) es) ∧ Only [le, ll] w1 wr) (fun u _ => l.length - (intOf u).toNat)
  case atStart => exact ⟨0, _, Nat.zero_le _, rfl, rfl, HM0.out, HBM1.out, Only.refl _ _⟩
  case round =>
    obtain ⟨k, es, hk, rfl, hes, hM, hbm, hO⟩ := hrel
    have HES := Lib.hid hes
    have HM := Lib.hid hM
    have HBM := Lib.hid hbm
    have HO := Lib.hid hO
    have zr := hO.size
    clear hes hM hbm hO
    by_cases hlt : k < l.length
    · obtain ⟨x, hx⟩ : ∃ x, l[k]? = some x := ⟨_, List.getElem?_eq_getElem hlt⟩
      obtain ⟨b, o, rfl, hbl, -, h64⟩ := HI.out.at hx
      have hrow : RowOf wr 7 opC Op64 (some ⟨b, o, none⟩) l := (HI.out.below HB1.out).only HO.out (fun y hy => by cases hy; simp; omega)
      have hrg := hrow.range hx rfl
      have HTK : Hid (setEs g es x.1 x.2 = Sn.setAll g (List.replicate n BE.zero) (l.take (k + 1))) := Lib.hid (by rw [Sn.setAll_take hx, ← HES.out])
      have HMN := Lib.hid (setEs_ok HM.out h64.2 x.1)
      obtain ⟨blk, e⟩ := x
      have HEW := Lib.hid h64.2
      have hil := HIL.out (blk, e)
      have hic := HII.out (blk, e)
      have hoc := HOO.out (blk, e)
      have hzc := HZO.out (blk, e)
      obtain ⟨XL, hXL⟩ : ∃ XL, (opC (blk, e)).toList = XL := ⟨_, rfl⟩
      have hXC : opC (blk, e) = XL.toArray := by rw [← hXL]
      rw [hXL] at hrg hil
      rw [hXC] at hic hoc hzc
      have HGX := Lib.hid hrg
      have HIX := Lib.hid hil
      have HIC := Lib.hid hic
      have HOC := Lib.hid hoc
      have HZC := Lib.hid hzc
      obtain ⟨W2, hW2⟩ : ∃ W2, wr.alloc (.cells XL.toArray 120) = W2 := ⟨_, rfl⟩
      have hb2 : Below wr.heap.size wr W2 := by rw [← hW2]; exact (Below.refl _ _).alloc (Nat.le_refl _) _
      have hX2 : W2.heap[wr.heap.size]? = some (.cells XL.toArray 120 (0, 0)) := by rw [← hW2]; exact heap_alloc_new wr _
      have c0 : W2.cell? ⟨wr.heap.size, 0, none⟩ = some (.int .i64 blk) := by rw [cell_of_row _ _ _ _ _ _ hX2, ← hXC]; rfl
      have hre : W2.rangeAt wr.heap.size 1 (BEC e).toList := by
        intro j v hv
        have hj : j < 6 := by have := (List.getElem?_eq_some_iff.1 hv).1; rwa [Array.length_toList, BEC_size] at this
        rw [cell_of_row _ _ _ _ _ _ hX2, ← hXC, ← hv]
        match j, hj with
        | 0, _ => rfl
        | 1, _ => rfl
        | 2, _ => rfl
        | 3, _ => rfl
        | 4, _ => rfl
        | 5, _ => rfl
      have hiel := HIEL.out e
      obtain ⟨EL, hEL⟩ : ∃ EL, (BEC e).toList = EL := ⟨_, rfl⟩
      have hEC : BEC e = EL.toArray := by rw [← hEL]
      have HSE := Lib.hid (HST.out W2 p le ll es HM.out (HBM.out.below hb2) blk e HEW.out)
      rw [hEL] at hre hiel
      rw [hEC] at HSE
      have HRE := Lib.hid hre
      have HIEL' := Lib.hid hiel
      have HO2 := Lib.hid (HO.out.trans (Only.of_below (S := [le, ll]) hb2))
      have HW2 := Lib.hid hW2
      clear hx h64 hrow hrg hil hic hoc hzc hXL hXC hb2 hW2 hX2 hre hiel hEL hEC
      go_upto_region 7 with (first | (refine wpList_load_mid rfl 120 _ rfl b (o + k * 7) rfl XL _ HGX.out Try.underlying120 rfl HIX.out ?_) | (refine wpList_store_row rfl 120 _ _ rfl wr.heap.size XL.toArray rfl rfl 120 (opC (0, BE.zero)) (heap_alloc_new wr _) HIC.out HZC.out HOC.out ?_; rw [World.setRow_alloc_new]))
      rw [HW2.out]
      go_wp2_with (refine wpList_load_mid rfl 46 _ rfl wr.heap.size 1 rfl EL _ HRE.out Try.underlying46 rfl HIEL'.out ?_)
      refine HSE.out.mono ?_
      rintro e3 w3 ⟨rfl, hbm3, hO3⟩
      have HBM3 := Lib.hid hbm3
      have HO3 := Lib.hid (HO2.out.trans hO3)
      clear hbm3 hO3 c0
      go_wp2
      go_roundw
      case rel => exact ⟨k + 1, _, by omega, by go_num, HTK.out, HMN.out, HBM3.out, HO3.out⟩
      case measure => simp [intOf]; omega
    · obtain rfl : k = l.length := by omega
      have HEF : Hid (es = Sn.setAll g (List.replicate n BE.zero) l) := Lib.hid (by have := HES.out; rwa [List.take_of_length_le (Nat.le_refl _)] at this)
      have hGr := HO.out.get HG1.out (by simp; omega)
      have HZr := Lib.hid (HO.out.get HZ1.out (by simp; omega))
      have HRr := Lib.hid (HO.out.get HR1.out (by simp; omega))
      have HBr := Lib.hid (HB1.out.trans (HO.out.below (B := w.heap.size) (by simp; omega) HB1.out.size))
      have hel : es.length = n := by have h1 := HM.out.len; have h2 := HM0.out.len; rw [List.length_replicate] at h2; omega
      obtain ⟨sb, hsb⟩ : ∃ sb, wr.heap.size = sb := ⟨_, rfl⟩
      obtain ⟨W2, hW2⟩ : ∃ W2, wr.alloc (.cells (RC gen epoch next g (.slice none 0 0)) 32) = W2 := ⟨_, rfl⟩
      have hb2 : Below wr.heap.size wr W2 := by rw [← hW2]; exact (Below.refl _ _).alloc (Nat.le_refl _) _
      have hS2 : W2.heap[sb]? = some (.cells (RC gen epoch next g (.slice none 0 0)) 32 (0, 0)) := by rw [← hW2, ← hsb]; exact heap_alloc_new wr _
      have HS2 := Lib.hid hS2
      have HZ2 := Lib.hid ((hb2.block (w.heap.size + 1) (by omega)).trans HZr.out)
      have HR2 := Lib.hid ((hb2.block (w.heap.size + 2) (by omega)).trans HRr.out)
      have HBM2 := Lib.hid (HBM.out.below hb2)
      have HB2 := Lib.hid (HBr.out.trans (hb2.mono HBr.out.size))
      have z2 : sb < W2.heap.size := (Array.getElem?_eq_some_iff.1 hS2).1
      have HW2 := Lib.hid hW2
      have HSB := Lib.hid hsb
      have zsb : w1.heap.size ≤ sb := by omega
      clear hb2 hW2 hS2 hsb
      go_upto_region 10 with (first | (refine wpList_row_on (by rfl) 23 _ rfl w.heap.size rfl 23 _ _ _ hGr Try.underlying23 rfl HGI.out ?_) | (refine wpList_build_on (by rfl) 32 _ rfl #[(0, .int .i64 gen), (1, .int .i64 epoch), (2, .int .i64 next), (3, .agg GX)] (by simp [Act.eval, Act.put]) (RC gen epoch next g (.slice none 0 0)) HBR.out ?_) | (refine wpList_store_row rfl 32 _ _ rfl wr.heap.size (RC gen epoch next g (.slice none 0 0)) rfl rfl 32 XR (heap_alloc_new wr _) (HRI.out _ _ _ _) (HZR.out _) HRO.out ?_; rw [World.setRow_alloc_new]))
      rw [HW2.out, HSB.out]
      have HAL := Lib.hid (ball_any W2 p _ _ _ HBM2.out.cells.1)
      rw [hel] at HAL
      obtain ⟨W3, hW3⟩ : ∃ W3, W2.alloc (.cells #[.slice (some ⟨le, 0, none⟩) n n] 108) = W3 := ⟨_, rfl⟩
      have hb3 : Below W2.heap.size W2 W3 := by rw [← hW3]; exact (Below.refl _ _).alloc (Nat.le_refl _) _
      have hsl : W3.heap[W2.heap.size]? = some (.cells #[.slice (some ⟨le, 0, none⟩) n n] 108 (0, 0)) := by rw [← hW3]; exact heap_alloc_new W2 _
      have hbm3 := HBM2.out.below hb3
      have hlt3 := hbm3.lt
      have HSTP : Hid _ := Lib.hid (eallK_stops 7 (by omega) W2.heap.size le (some ⟨le, 0, none⟩) n es W3 (by rw [hel]; exact cell_of_one hsl) hbm3.rows (fun x e => by cases e; rfl) hlt3.2.1 (by omega))
      have HBM3 := Lib.hid hbm3
      have HS3 := Lib.hid ((hb3.block sb z2).trans HS2.out)
      have HZ3 := Lib.hid ((hb3.block (w.heap.size + 1) (by omega)).trans HZ2.out)
      have HR3 := Lib.hid ((hb3.block (w.heap.size + 2) (by omega)).trans HR2.out)
      have HB3 := Lib.hid (HB2.out.trans (hb3.mono HB2.out.size))
      have z3 : W2.heap.size < W3.heap.size := (Array.getElem?_eq_some_iff.1 hsl).1
      have HW3 := Lib.hid hW3
      clear hb3 hsl hbm3 hW3 hGr
      go_wp2_with fail
      refine HAL.out.mono ?_
      rintro e4 w4 ⟨rfl, rfl⟩
      rw [HW3.out]
      go_wp2
      refine (wpIn_wide (n := 8)).1 (wpIn_rangeK2 (encs := ieV) rfl (by omega) (gf := 92) (lb := #[.pointer (some ⟨W2.heap.size, 0, none⟩)]) rfl trivial (enters_of Try.func92 (by kernel_rfl) rfl)
        HSTP.out (Below.refl _ _) (fun _ => rfl) (by simp; omega)
        (fun pre W => ∃ v, W.heap[sb]? = some (.cells (RC gen epoch next g v) 32 (0, 0)) ∧ OwnM W 104 6 BEC (fun _ => True) W3.heap.size v (pre.map (·.1)) ∧ Only [sb] W3 W)
        (fun cx pre W => False)
        (fun pre A W h ht => by obtain ⟨v, h1, h2, h3⟩ := h; exact ⟨v, ht.block sb _ h1 (by simp) (.inr rfl), h2.turn ht, (AbT.only (β := Unit) (C := []) (S := [sb]) (w₀ := W3) (Nat.le_refl _) (by simp)) () A W h3 ht⟩)
        (fun cx pre A W h _ => h) ⟨.slice none 0 0, HS3.out, OwnM.nil _ _ _ _ _ _, Only.refl _ _⟩
        ?fr (fun x Be W' => W'.heap[Be]? = some (.cells (BEC x.1) 46 (0, 0))) (fun x Be => AbT.row (fun _ => BEC x.1) (by simp)) ?assign ?body ?done ?stop)
      case assign =>
        intro rr pre x W4 K _ hI hK
        have HK4 := Lib.hid hK
        clear hK
        unfold ieV
        gi_wp2_with (refine wpListIn_store_row (by rfl) 46 _ _ rfl W4.heap.size (BEC x.1) rfl rfl 46 (BEC BE.zero) (heap_alloc_new W4 _) (HIE.out _) (HSZ.out _) (HON.out _) ?_; rw [World.setRow_alloc_new])
        obtain ⟨Be, hBe⟩ : ∃ Be, W4.heap.size = Be := ⟨_, rfl⟩
        have hn := heap_alloc_new W4 (.cells (BEC x.1) 46)
        rw [hBe] at hn ⊢
        exact HK4.out Be _ ((Only.refl _ _).alloc _) hn
      case body =>
        rintro rr pre x Be W4 _ hrr ⟨v, hS, hown, hO⟩ hE hlen hsp
        obtain ⟨av, cv, rfl, hrv, -, hc1, hc2, hxv⟩ := hown.shape kinR
        have c9 : W4.cell? ⟨sb, 9, none⟩ = some (.slice av (pre.map (·.1)).length cv) := (cell_of_row _ _ _ _ _ _ hS).trans rfl
        have f9 := frozen_of_row _ sb 9 _ _ hS
        have zO := hO.size
        have hle : le < W4.heap.size := by omega
        have hpl : pre.length + 1 ≤ 300 := by omega
        have HOWN := Lib.hid hown
        have HS := Lib.hid hS
        have HO := Lib.hid hO
        have HE := Lib.hid hE
        have HXV := Lib.hid hxv
        obtain ⟨W5, hW5⟩ : ∃ W5, W4.alloc (.cells (BEC x.1) 104) = W5 := ⟨_, rfl⟩
        have hb5 : Below W4.heap.size W4 W5 := by rw [← hW5]; exact (Below.refl _ _).alloc (Nat.le_refl _) _
        have hX5 : W5.heap[W4.heap.size]? = some (.cells (BEC x.1) 104 (0, 0)) := by rw [← hW5]; exact heap_alloc_new W4 _
        have HROW : Hid (RowOf W5 6 BEC (fun _ => True) (some ⟨W4.heap.size, 0, none⟩) [x.1]) := Lib.hid (one_rowOf hX5 trivial)
        have HOWN5 := Lib.hid (HOWN.out.below hb5)
        have hS5 := (hb5.block sb (by omega)).trans HS.out
        have HS5 := Lib.hid hS5
        have HB5 := Lib.hid hb5
        have HW5 := Lib.hid hW5
        have z5 := hb5.size
        have hbase : W3.heap.size ≤ W5.heap.size := by omega
        obtain ⟨L0, hL0⟩ : ∃ L0, pre.map (·.1) = L0 := ⟨_, rfl⟩
        have hl0 : L0.length + [x.1].length ≤ 300 := by rw [← hL0]; simpa using hpl
        have HL0 := Lib.hid hL0
        rw [hL0] at HOWN HOWN5 HXV c9 HS5
        have HLN := Lib.hid hl0
        clear hS hO hE hxv hown hrv hc1 hlen hsp hrr hb5 hX5 hW5 hS5 hl0 hpl hL0
        gi_wp2_with (first | (refine wpListIn_row_on (by rfl) 46 _ rfl Be rfl 46 _ _ _ HE.out Try.underlying46 rfl (HIE.out _) ?_) | (refine wpListIn_slice1e rfl (.tmp 62) rfl x.1 rfl ?_; rw [HW5.out]) | (refine wpListIn_appendM rfl (.tmp 61) (.tmp 63) 30 rfl 104 6 BEC (fun _ => True) kinR (by decide) (.agg (BEC BE.zero)) 48 Try.underlying30 HIR.out rfl W3.heap.size (.slice av L0.length cv) L0 rfl HOWN5.out ⟨W4.heap.size, 0, none⟩ 1 [x.1] rfl HROW.out (by have := HLN.out; unfold maxLen; omega) (by have := HLN.out; omega) hbase ?_; intro v6 w6 hv6 hg6 hat6; obtain ⟨a6, c6, rfl, hr6, -, hd1, hd2, hx6⟩ := hv6.shape kinR; have HV6 := Lib.hid hv6; have HG6 := Lib.hid hg6; have HAT6 := Lib.hid hat6; have hs6 := HOWN5.out.grown hg6 hbase; have hS6 := (hs6.block sb (by omega)).trans HS5.out; have HS6 := Lib.hid hS6; have HB6 := Lib.hid hs6; have c6' : w6.cell? ⟨sb, 9, none⟩ = some (.slice av L0.length cv) := (cell_of_row _ _ _ _ _ _ hS6).trans rfl; have f6' := frozen_of_row _ sb 9 _ _ hS6; clear hv6 hg6 hat6 hs6 hS6 hr6 hd1 hx6))
        have hown6 : (.slice av L0.length cv : Value).ownBlock = none ∨ ∃ k, (.slice av L0.length cv : Value).ownBlock = some k ∧ W3.heap.size ≤ k ∧ ∃ C, W5.heap[k]? = some (.cells C 104 (0, 0)) := by
          cases hk : (.slice av L0.length cv : Value).ownBlock with
          | none => exact .inl rfl
          | some k =>
            obtain ⟨k1, k2⟩ := HOWN5.out.base_le hk
            exact .inr ⟨k, rfl, k1, k2⟩
        have hOx : Only [sb] W3 w6 := (HO.out.trans (Only.of_below (S := [sb]) HB5.out)).grown HG6.out (fun k hk => by
          rcases hown6 with h | ⟨j, h, h1, -⟩
          · rw [h] at hk; cases hk
          · rw [h] at hk; cases hk; exact .inr h1)
        have hKx : Keeps [le] W4 w6 := (Keeps.of_below HB5.out (by simp; omega)).grown HG6.out (by simp; omega) (fun k hk => by
          rcases hown6 with h | ⟨j, h, h1, C, h2⟩
          · rw [h] at hk; cases hk
          · rw [h] at hk
            cases hk
            refine ⟨by simp; omega, fun o ho => ?_⟩
            rw [h2] at ho
            cases ho
            rfl)
        have hsets : (w6.setCell ⟨sb, 9, none⟩ (.slice a6 (L0.length + 1) c6)).heap[sb]? = some (.cells (RC gen epoch next g (.slice a6 (L0.length + 1) c6)) 32 (0, 0)) := heap_setCell_same w6 sb 9 _ _ _ HS6.out
        have hOs : Only [sb] w6 (w6.setCell ⟨sb, 9, none⟩ (.slice a6 (L0.length + 1) c6)) := (Only.refl _ _).setCell (.inl (by simp)) _
        refine ⟨hKx.setCell (by simp; omega) _, .slice a6 (L0.length + 1) c6, hsets, ?_, hOx.setCell (.inl (by simp)) _⟩
        have hv := HV6.out
        rw [List.length_append] at hv
        have h3 := hv.only hOs (fun k hk => by have := (hv.base_le hk).1; simp; omega)
        rw [List.map_append, HL0.out]
        exact h3
      case done =>
        rintro D ys W4 hD rfl ⟨v, hS, hown, hO⟩ hKD
        rw [zip_fst'] at hown
        have HOWN := Lib.hid hown
        have HS := Lib.hid hS
        have HZ4 := Lib.hid (hO.get HZ3.out (by simp; omega))
        have HR4 := Lib.hid (hO.get HR3.out (by simp; omega))
        have hlt := HBM3.out.lt
        have HBM4 := Lib.hid (HBM3.out.only hO (by simp; omega) (by simp; omega) (by simp; omega))
        have HB4 := Lib.hid (HB3.out.trans (hO.below (B := w.heap.size) (by simp; omega) HB3.out.size))
        have HKD := Lib.hid hKD
        have zO := hO.size
        have zD : D < W4.heap.size := (Array.getElem?_eq_some_iff.1 hKD).1
        have HSPL : Hid ((Try.prog.info? 32).map (·.size) = some (RC gen epoch next g v).size) := Lib.hid (HRI.out _ _ _ _)
        obtain ⟨av, cv, rfl, -, -, -, -, -⟩ := hown.shape kinR
        have HRO2 : Hid ((RC gen epoch next g (.slice av es.length cv)).all (·.oneCell') = true) := Lib.hid (by simp [RC, Value.oneCell'])
        have HZR2 : Hid (XR.size = (RC gen epoch next g (.slice av es.length cv)).size) := Lib.hid (HZR.out _)
        have HBS := Lib.hid (built_snm gen epoch next p)
        have HIS : Hid ((Try.prog.info? 28).map (·.size) = some (SnC gen epoch next p).size) := Lib.hid (snsize _ _ _ _)
        have HSO : Hid ((SnC gen epoch next p).all (·.oneCell') = true) := Lib.hid (by simp [SnC, Value.oneCell'])
        have HZS2 := Lib.hid (HZS.out p)
        have HFIN : Hid (∀ (W : World) (S1 S2 : Array Value), Only [w.heap.size + 1, w.heap.size + 2, D] W4 W → S1 = SnC gen epoch next p → S2 = RC gen epoch next g (.slice av es.length cv) → ∃ p le ll v, (Value.tuple #[.agg S1, .agg S2, .bool RB]) = .tuple #[.agg (SnC gen epoch next p), .agg (RC gen epoch next g v), .bool RB] ∧ SnIs W p le ll n (nz g) (Sn.made g l gen epoch next) ∧ OwnM W 104 6 BEC (fun _ => True) w.heap.size v (Sn.made g l gen epoch next).es ∧ (w.heap.size ≤ p ∧ w.heap.size ≤ le ∧ w.heap.size ≤ ll) ∧ Below w.heap.size w W) := Lib.hid (by
          rintro W S1 S2 hOW rfl rfl
          have hx := HOWN.out.only hOW (fun k hk => by have := (HOWN.out.base_le hk); have h1 := this.1; obtain ⟨C, hC⟩ := this.2; simp; refine ⟨by omega, by omega, fun e => ?_⟩; subst e; rw [HKD.out] at hC; cases hC)
          refine ⟨p, le, ll, _, rfl, ?_, ?_, ⟨by omega, by omega, by omega⟩, ?_⟩
          · rw [HMD.out, ← HEF.out]
            exact ⟨HBM4.out.only hOW (by simp; omega) (by simp; omega) (by simp; omega), HRT.out, HM.out⟩
          · rw [HMD.out, ← HEF.out]
            exact hx.mono (by omega)
          · exact HB4.out.trans (hOW.below (B := w.heap.size) (by simp; omega) HB4.out.size))
        have HRRX : Hid (∀ W, Only [w.heap.size + 1, w.heap.size + 2] W4 W → Calls Try.prog 22 #[.agg (RC gen epoch next g (.slice av es.length cv))] W fun e w' => e = .returned (.bool RB) ∧ Below W.heap.size W w') := Lib.hid (fun W hW => by
          have hx := HOWN.out.only hW (fun k hk => by have h1 := (HOWN.out.base_le hk).1; simp; omega)
          have hl5 : es.length ≤ 100000 := by have h1 := HM.out.len; have := ((Geo.right_iff g).1 HRT.out).1.2.2.2.1.2; omega
          have := rsright_any W gen epoch next g _ _ es hx hl5
          rw [← HRB.out, HMD.out, ← HEF.out]
          exact this)
        obtain ⟨XS, hXS⟩ : ∃ XS, SnC gen epoch next p = XS := ⟨_, rfl⟩
        obtain ⟨XC, hXC⟩ : ∃ XC, RC gen epoch next g (.slice av es.length cv) = XC := ⟨_, rfl⟩
        rw [hXS] at HBS HIS HSO HZS2 HFIN
        rw [hXC] at HRO2 HZR2 HSPL HS HFIN HRRX
        clear hS hown hO hKD hXS hXC
        go_upto_region 13 with (fail)
        refine wp_region_stage 10 [.int .i64 gen, .int .i64 epoch, .int .i64 next, .pointer (some ⟨p, 0, none⟩), .agg XS, .agg XC, .agg XC, .bool RB, undef, undef] [8, 9] [0, 0, 0, 0, 0, 0, 0, 0, 1, 2] (fun s W => W.heap[w.heap.size + 1]? = some (.cells (if s = 0 then XZ else XS) 28 (0, 0)) ∧ W.heap[w.heap.size + 2]? = some (.cells (if s ≤ 1 then XR else XC) 32 (0, 0)) ∧ Only [w.heap.size + 1, w.heap.size + 2] W4 W) ?rdA (by kernel_rfl) (by kernel_rfl) (by kernel_rfl) ?rdhA ?rdh0 ?rdhb ?rdho ?rdhend
        case rdhA =>
          intro vv
          simp only [putRules, Nat.reduceAdd]
          rfl
        case rdh0 =>
          exact ⟨by rw [if_pos rfl]; exact HZ4.out, by rw [if_pos (by omega)]; exact HR4.out, (Only.refl _ _).drew⟩
        case rdhb =>
          intro s W W' hI hB
          exact ⟨(hB.block _ (Array.getElem?_eq_some_iff.1 hI.1).1).trans hI.1, (hB.block _ (Array.getElem?_eq_some_iff.1 hI.2.1).1).trans hI.2.1, hI.2.2.trans (Only.of_below hB)⟩
        case rdho =>
          refine ⟨?_, ?_, ?_, ?_, ?_, ?_, ?_, ?_, ?_, ?_, trivial⟩
          · intro vv W K s hlo hI hd HK
            simp only [conf5Rules] at HK
            clear hd
            go_wp2
            refine HK.out _ _ (Below.refl _ _) ?_
            rfl
          · intro vv W K s hlo hI hd HK
            simp only [conf5Rules] at HK
            clear hd
            go_wp2
            refine HK.out _ _ (Below.refl _ _) ?_
            rfl
          · intro vv W K s hlo hI hd HK
            simp only [conf5Rules] at HK
            clear hd
            go_wp2
            refine HK.out _ _ (Below.refl _ _) ?_
            rfl
          · intro vv W K s hlo hI hd HK
            simp only [conf5Rules] at HK
            clear hd
            go_wp2
            refine HK.out _ _ (Below.refl _ _) ?_
            rfl
          · intro vv W K s hlo hI hd HK
            simp only [confRules, conf5Rules] at hd HK
            obtain ⟨h0, h1, h2, h3⟩ := hd
            simp only [h0, h1, h2, h3] at HK ⊢
            clear h0 h1 h2 h3
            go_wp2_with (refine wpList_build_on (by rfl) 28 _ rfl #[(0, .int .i64 gen), (1, .int .i64 epoch), (2, .int .i64 next), (3, .pointer (some ⟨p, 0, none⟩))] (by simp [Act.eval, Act.put]) XS HBS.out ?_)
            refine HK.out _ _ (Below.refl _ _) ?_
            rfl
          · intro vv W K s hlo hI hd HK
            simp only [conf5Rules] at HK
            clear hd
            have hT := hI.2.2.get HS.out (by simp; omega)
            go_wp2_with (refine wpList_row_on (by rfl) 32 _ rfl sb rfl 32 _ _ _ hT Try.underlying32 rfl HSPL.out ?_)
            refine HK.out _ _ (Below.refl _ _) ?_
            rfl
          · intro vv W K s hlo hI hd HK
            simp only [conf5Rules] at HK
            clear hd
            have hT := hI.2.2.get HS.out (by simp; omega)
            go_wp2_with (refine wpList_row_on (by rfl) 32 _ rfl sb rfl 32 _ _ _ hT Try.underlying32 rfl HSPL.out ?_)
            refine HK.out _ _ (Below.refl _ _) ?_
            rfl
          · intro vv W K s hlo hI hd HK
            simp only [confRules, conf5Rules] at hd HK
            have h6 := hd
            clear hd
            simp only [h6] at HK ⊢
            clear h6
            go_wp2_with (refine (HRRX.out _ hI.2.2).mono ?_; rintro e w9 ⟨rfl, hB9⟩)
            refine HK.out _ _ hB9 ?_
            rfl
          · intro vv W K hI hd HK
            simp only [confRules, conf5Rules, cond7] at hd HK
            obtain ⟨h4, h7, h0, h1, h2, h3, _⟩ := hd
            simp only [h4, h7, h0, h1, h2, h3] at HK ⊢
            clear h4 h7 h0 h1 h2 h3
            have hT := hI.1
            simp only [if_true] at hT
            go_wp2_with (refine wpList_store_row rfl 28 _ _ rfl (w.heap.size + 1) XS rfl rfl 28 XZ hT HIS.out HZS2.out HSO.out ?_)
            have hs := only_setRow W (w.heap.size + 1) XS
            refine HK.out undef _ ⟨by simpa using setRow_heap W (w.heap.size + 1) XZ XS _ _ hT, by have := hs.get hI.2.1 (by simp); simpa using this, hI.2.2.trans (hs.mono (by simp))⟩ ?_
            rfl
          · intro vv W K hI hd HK
            simp only [confRules, conf5Rules, cond7] at hd HK
            obtain ⟨h5, h8, h0, h1, h2, h3, h4, _, _⟩ := hd
            simp only [h5, h8, h0, h1, h2, h3, h4] at HK ⊢
            clear h5 h8 h0 h1 h2 h3 h4
            have hT := hI.2.1
            simp only [Nat.le_refl, if_true] at hT
            go_wp2_with (refine wpList_store_row rfl 32 _ _ rfl (w.heap.size + 2) XC rfl rfl 32 XR hT HSPL.out HZR2.out HRO2.out ?_)
            have hs := only_setRow W (w.heap.size + 2) XC
            refine HK.out undef _ ⟨by have := hs.get hI.1 (by simp); simpa using this, by simpa using setRow_heap W (w.heap.size + 2) XR XC _ _ hT, hI.2.2.trans (hs.mono (by simp))⟩ ?_
            rfl
        case rdhend =>
          intro vv W hI hf
          have e7 := hf 7 (by decide)
          simp only [conf5Rules] at e7
          simp only [e7, dropRules]
          clear hf e7
          have hz1 := hI.1
          have hz2 := hI.2.1
          simp at hz1 hz2
          have hOW := hI.2.2
          have HR1' := Lib.hid hz1
          have HR2' := Lib.hid hz2
          have HKW := Lib.hid (hOW.get HKD.out (by simp; omega))
          have HOW := Lib.hid hOW
          clear hI hz1 hz2 hOW
          go_wp2
          refine leave_marks (v := .tuple #[.agg XS, .agg XC, .bool RB]) [D] _ (by simp) (by simpa using HKW.out) ?_
          intro W' hO'
          have r1 := hO'.get HR1'.out (by simp; omega)
          have r2 := hO'.get HR2'.out (by simp; omega)
          refine ⟨rres_cct (fn := Try.f33) (p := 10) (p2 := 11) (q0 := 12) rfl _ _ (w.heap.size + 1) (w.heap.size + 2) 28 32 XS XC _ _ _ _ rfl r1 Try.underlying28 rfl HIS.out rfl r2 Try.underlying32 rfl HSPL.out, ?_⟩
          obtain ⟨p', le', ll', v', h1, h2⟩ := HFIN.out W' XS XC ((HOW.out.mono (T := [w.heap.size + 1, w.heap.size + 2, D]) (by simp)).trans (hO'.mono (T := [w.heap.size + 1, w.heap.size + 2, D]) (by simp))) rfl rfl
          exact ⟨p', le', ll', v', by rw [h1], h2⟩
      case stop => exact fun D cx pre W4 hD hsp h => h.elim
set_option maxRecDepth 100000 in
set_option maxHeartbeats 4000000 in
theorem made13_no (g : Geo.G) (a : Option Addr) (l : List (Int × BE)) (cp : Nat) (gen epoch next : Int) (w : World) (hno : Geo.right g = false ∨ (Geo.right g = true ∧ 60 < l.length)) :
    Calls Try.prog 33 #[.agg (GC g), .slice a l.length cp, .int .i64 gen, .int .i64 epoch, .int .i64 next] w fun e w' => e = .returned (.tuple #[.agg SZ, .agg RZ, .bool false]) ∧ Below w.heap.size w w' := by
  have HGI := Lib.hid (gsize (g := g))
  have HSI : Hid ((Try.prog.info? 28).map (·.size) = some SZ.size) := Lib.hid (zero_of_info Try.infoSnz).2
  have HRI : Hid ((Try.prog.info? 32).map (·.size) = some RZ.size) := Lib.hid (zero_of_info Try.infoRS).2
  have HBZ := Lib.hid built_snz
  have HBR := Lib.hid built_rsz
  have HS1 : Hid (SZ.all (·.oneCell') = true) := Lib.hid (by simp [SZ, Value.oneCell'])
  have HR1 : Hid (RZ.all (·.oneCell') = true) := Lib.hid (by simp [RZ, RC, Value.oneCell'])
  have HNN := Lib.hid (fun W (h : Geo.right g = false) => bnew_no g h W)
  have HNY := Lib.hid (fun W (h : Geo.right g = true) => bnew_any g h W)
  have hzs := (zero_of_info Try.infoSnz).1
  have hzr := (zero_of_info Try.infoRS).1
  obtain ⟨XZ, hXZ⟩ : ∃ XZ, SZ = XZ := ⟨_, rfl⟩
  obtain ⟨XR, hXR⟩ : ∃ XR, RZ = XR := ⟨_, rfl⟩
  rw [hXZ] at HSI HBZ HS1 hzs ⊢
  rw [hXR] at HRI HBR HR1 hzr ⊢
  clear hXZ hXR
  have hB0 : Below w.heap.size w (((w.alloc (.cells (GC g) 23)).alloc (.cells XZ 28)).alloc (.cells XR 32)) := (((Below.refl _ _).alloc (Nat.le_refl _) _).alloc (by simp) _).alloc (by simp; omega) _
  obtain ⟨W0, hW0⟩ : ∃ W0, ((w.alloc (.cells (GC g) 23)).alloc (.cells XZ 28)).alloc (.cells XR 32) = W0 := ⟨_, rfl⟩
  have hG0 : W0.heap[w.heap.size]? = some (.cells (GC g) 23 (0, 0)) := by rw [← hW0, alloc_old _ _ (by simp; omega), alloc_old _ _ (by simp)]; exact alloc_new _ _ rfl
  have hZ0 : W0.heap[w.heap.size + 1]? = some (.cells XZ 28 (0, 0)) := by rw [← hW0, alloc_old _ _ (by simp)]; exact alloc_new _ _ (by simp)
  have hR0 : W0.heap[w.heap.size + 1 + 1]? = some (.cells XR 32 (0, 0)) := by rw [← hW0]; exact alloc_new _ _ (by simp)
  rw [hW0] at hB0
  have HW0 := Lib.hid hW0
  have z0 : w.heap.size + 1 + 1 < W0.heap.size := (Array.getElem?_eq_some_iff.1 hR0).1
  have HZ0 := Lib.hid hZ0
  have HR0 := Lib.hid hR0
  have HB0 := Lib.hid hB0
  have HFIN : Hid (∀ w1 : World, Below W0.heap.size W0 w1 → ∀ W', W' = (w1.setRow (w.heap.size + 1) XZ).setRow (w.heap.size + 1 + 1) XR → W'.heap[w.heap.size + 1]? = some (.cells XZ 28 (0, 0)) ∧ W'.heap[w.heap.size + 1 + 1]? = some (.cells XR 32 (0, 0)) ∧ Below w.heap.size w W') := Lib.hid (by
    rintro w1 hB1 W' rfl
    have h1 := (hB1.block (w.heap.size + 1) (by omega)).trans HZ0.out
    have h2 := (hB1.block (w.heap.size + 1 + 1) (by omega)).trans HR0.out
    have s1 := only_setRow w1 (w.heap.size + 1) XZ
    have s2 := only_setRow (w1.setRow (w.heap.size + 1) XZ) (w.heap.size + 1 + 1) XR
    have h1' := setRow_heap w1 (w.heap.size + 1) XZ XZ _ _ h1
    have h2' := s1.get h2 (by simp)
    refine ⟨s2.get h1' (by simp), setRow_heap _ _ XR XR _ _ h2', ?_⟩
    exact below_setRow (below_setRow (HB0.out.trans (hB1.mono HB0.out.size)) (by omega) _) (by omega) _)
  clear hB0 hW0 hZ0 hR0
  obtain ⟨GX, hGX⟩ : ∃ GX, GC g = GX := ⟨_, rfl⟩
  rw [hGX] at HGI hG0 HW0 HNN HNY ⊢
  clear hGX
  go_enter Try.func33, Try.ntmps33
  go_upto_region 1 with (fail)
  rw [show ((w.alloc (.cells GX 23)).alloc (.cells XZ 28)).alloc (.cells XR 32) = W0 from HW0.out]
  rcases hno with hr | ⟨hr, hl⟩
  · have HN := Lib.hid (HNN.out W0 hr)
    clear hr
    go_wp2_with (refine wpList_row_on (by rfl) 23 _ rfl w.heap.size rfl 23 _ _ _ hG0 Try.underlying23 rfl HGI.out ?_)
    refine HN.out.mono ?_
    rintro e1 w1 ⟨rfl, hB1⟩
    have hz := (hB1.block (w.heap.size + 1) (by omega)).trans HZ0.out
    have hr1 := (only_setRow w1 (w.heap.size + 1) XZ).get ((hB1.block (w.heap.size + 1 + 1) (by omega)).trans HR0.out) (by simp)
    have HB1 := Lib.hid hB1
    clear hG0 hB1
    go_upto_region 3 with (fail)
    go_wp2_with (first | (refine wpList_build_on (by rfl) 28 _ rfl #[] (by simp) XZ HBZ.out ?_) | (refine wpList_build_on (by rfl) 32 _ rfl #[] (by simp) XR HBR.out ?_) | (refine wpList_store_row rfl 28 _ _ rfl (w.heap.size + 1) XZ rfl rfl 28 XZ hz HSI.out rfl HS1.out ?_) | (refine wpList_store_row rfl 32 _ _ rfl (w.heap.size + 1 + 1) XR rfl rfl 32 XR hr1 HRI.out rfl HR1.out ?_))
    obtain ⟨r1, r2, r3⟩ := HFIN.out w1 HB1.out _ rfl
    refine bodyPost_ret (rres_cct (fn := Try.f33) (p := 10) (p2 := 11) (q0 := 12) rfl _ _ (w.heap.size + 1) (w.heap.size + 1 + 1) 28 32 XZ XR _ _ _ _ rfl r1 Try.underlying28 rfl HSI.out rfl r2 Try.underlying32 rfl HRI.out) rfl ?_
    exact ⟨rfl, r3⟩
  · have HN := Lib.hid (HNY.out W0 hr)
    have t1 : decide (60 < (l.length : Int)) = true := decide_eq_true (by omega)
    clear hr hl
    go_wp2_with (refine wpList_row_on (by rfl) 23 _ rfl w.heap.size rfl 23 _ _ _ hG0 Try.underlying23 rfl HGI.out ?_)
    refine HN.out.mono ?_
    rintro e1 w1 ⟨p, le, ll, rfl, -, -, -, -, hB1⟩
    have hz := (hB1.block (w.heap.size + 1) (by omega)).trans HZ0.out
    have hr1 := (only_setRow w1 (w.heap.size + 1) XZ).get ((hB1.block (w.heap.size + 1 + 1) (by omega)).trans HR0.out) (by simp)
    have HB1 := Lib.hid hB1
    clear hG0 hB1
    go_upto_region 3 with (fail)
    go_wp2_with (first | (refine wpList_build_on (by rfl) 28 _ rfl #[] (by simp) XZ HBZ.out ?_) | (refine wpList_build_on (by rfl) 32 _ rfl #[] (by simp) XR HBR.out ?_) | (refine wpList_store_row rfl 28 _ _ rfl (w.heap.size + 1) XZ rfl rfl 28 XZ hz HSI.out rfl HS1.out ?_) | (refine wpList_store_row rfl 32 _ _ rfl (w.heap.size + 1 + 1) XR rfl rfl 32 XR hr1 HRI.out rfl HR1.out ?_))
    obtain ⟨r1, r2, r3⟩ := HFIN.out w1 HB1.out _ rfl
    refine bodyPost_ret (rres_cct (fn := Try.f33) (p := 10) (p2 := 11) (q0 := 12) rfl _ _ (w.heap.size + 1) (w.heap.size + 1 + 1) 28 32 XZ XR _ _ _ _ rfl r1 Try.underlying28 rfl HSI.out rfl r2 Try.underlying32 rfl HRI.out) rfl ?_
    exact ⟨rfl, r3⟩
/-- what 'made' tells, whatever its arguments -/
def MadePost13 (w : World) (g : Geo.G) (l : List (Int × BE)) (gen epoch next : Int) (e : Ending) (w' : World) : Prop :=
  ∃ (S1 S2 : Array Value) (ok : Bool), e = .returned (.tuple #[.agg S1, .agg S2, .bool ok]) ∧ ((Try.prog.info? 28).map (·.size) = some S1.size ∧ S1.all (·.oneCell') = true ∧ SZ.size = S1.size) ∧ ((Try.prog.info? 32).map (·.size) = some S2.size ∧ S2.all (·.oneCell') = true ∧ RZ.size = S2.size) ∧ Below w.heap.size w w' ∧
    (ok = false ∨ (ok = true ∧ Geo.right g = true ∧ l.length ≤ 60 ∧ (Sn.made g l gen epoch next).right = true ∧ ∃ p le ll v, S1 = SC (Sn.made g l gen epoch next) p ∧ S2 = RC gen epoch next g v ∧ SnIs w' p le ll g.b.toNat (nz g) (Sn.made g l gen epoch next) ∧ OwnM w' 104 6 BEC (fun _ => True) w.heap.size v (Sn.made g l gen epoch next).es ∧ (w.heap.size ≤ p ∧ w.heap.size ≤ le ∧ w.heap.size ≤ ll)))
theorem made13_any (g : Geo.G) (a : Option Addr) (l : List (Int × BE)) (cp : Nat) (gen epoch next : Int) (w : World) (hI : RowOf w 7 opC Op64 a l) :
    Calls Try.prog 33 #[.agg (GC g), .slice a l.length cp, .int .i64 gen, .int .i64 epoch, .int .i64 next] w (MadePost13 w g l gen epoch next) := by
  have hno : (Geo.right g = false ∨ (Geo.right g = true ∧ 60 < l.length)) → Calls Try.prog 33 #[.agg (GC g), .slice a l.length cp, .int .i64 gen, .int .i64 epoch, .int .i64 next] w (MadePost13 w g l gen epoch next) := fun h => by
    refine (made13_no g a l cp gen epoch next w h).mono ?_
    rintro e w' ⟨rfl, hB⟩
    exact ⟨SZ, RZ, false, rfl, ⟨(zero_of_info Try.infoSnz).2, by simp [SZ, Value.oneCell'], rfl⟩, ⟨(zero_of_info Try.infoRS).2, by simp [RZ, RC, Value.oneCell'], rfl⟩, hB, .inl rfl⟩
  cases hr : Geo.right g
  · exact hno (.inl hr)
  · by_cases hl : l.length ≤ 60
    · have hb1 := ((Geo.right_iff g).1 hr).1.2.2.2.1.1
      refine (made13_core g g.b.toNat (by omega) hr a l cp gen epoch next w hI hl).mono ?_
      rintro e w' ⟨p, le, ll, v, rfl, hs, ho, hb, hB⟩
      obtain ⟨av, cv, rfl, -, -, -, -, -⟩ := ho.shape kinR
      refine ⟨_, _, _, rfl, ⟨snsize _ _ _ _, by simp [SnC, Value.oneCell'], rfl⟩, ⟨rssize _ _ _ _ _, by simp [RC, Value.oneCell'], rfl⟩, hB, ?_⟩
      cases hq : (Sn.made g l gen epoch next).right
      · exact .inl rfl
      · exact .inr ⟨rfl, hr, hl, rfl, p, le, ll, _, rfl, rfl, hs, ho, hb⟩
    · exact hno (.inr ⟨hr, by omega⟩)
end Go.Proofs.Ytjnneoejnpephaa
namespace Go.Proofs.Ytjnneoejnpephaa
open Go.RowKit Go.Rv Frm
set_option linter.unusedVariables false
attribute [local go_sem] Oper.semAt_some
theorem kinB : Kin 64 byteCells Sec := ⟨fun s h => by rw [size_byteCells, h.1], fun s _ => one_byteCells s⟩
theorem Try.infoSec3 : (Try.prog.info? 77).map (fun i => (i.zero, i.size, i.bytes)) = some (some (.agg (byteCells (List.replicate 64 0))), 64, 64) := by kernel_rfl
theorem Try.infoFrm3 : (Try.prog.info? 42).map (fun i => (i.zero, i.size, i.bytes)) = some (some (.agg (FC Fr.zero)), 49, 88) := by kernel_rfl
theorem filled_sec (s : List Nat) (h : s.length = 64) (ie : Array Value) (h0 : ie = byteCells (List.replicate 64 0)) : Instr.fill (fun i => some (i * 64, 64)) ((Array.range (1 * 64)).map (ie[· % 64]!)) [(0, .agg (byteCells s))] = some (byteCells s) := by
  obtain ⟨f, rfl⟩ := list_fn s 64 h
  subst h0
  kernel_rfl
/-- a slice of one sector is made -/
theorem wpList_slice1s {w : World} {ops : Array Oper} {rest : List Oper} {o : Oper} {a : Act} {Q : Exit → Act → World → Prop} (hg : o.guard = none) (x : Operand) (ho : o.op = .buildSlice 73 1 #[(0, x)]) (s : List Nat) (hl : s.length = 64) (hx : a.eval x = .agg (byteCells s))
    (h : wpList Try.prog ops Q rest (a.put o.dst (.slice (some ⟨w.heap.size, 0, none⟩) 1 1)) (w.alloc (.cells (byteCells s) 77))) : wpList Try.prog ops Q (o :: rest) a w := by
  have hi : (Try.prog.info? 77).map (fun i => (i.zero, i.size)) = some (some (.agg (byteCells (List.replicate 64 0))), 64) := by kernel_rfl
  cases hie : Try.prog.info? 77 with
  | none => rw [hie] at hi; cases hi
  | some ie =>
    rw [hie, Option.map_some, Option.some.injEq, Prod.mk.injEq] at hi
    obtain ⟨hz, hs⟩ := hi
    refine wpList_buildSlice hg 73 77 1 #[(0, x)] ho (byteCells s) ie (.agg (byteCells (List.replicate 64 0))) Try.underlying73 hie hz (by rw [hs]; decide) (by rw [hs]; decide) ?_ h
    rw [hs]
    have h1 := filled_sec s hl _ rfl
    simp only [List.map_toArray, List.map_cons, List.map_nil, hx]
    exact h1
theorem num_of_right {f : Fr} (h : rightF f = true) : Num64 f := by
  obtain ⟨k, z, o, e, s, hf, h1, h2, h3, h4, h5, h6, h7⟩ := right_nat h
  rw [hf]
  refine ⟨?_, ?_, ?_, ?_, ?_⟩ <;> (simp [Lit.wf, IntKind.min, IntKind.max, IntKind.signed, IntKind.bits]; omega)
theorem kinQ : Kin 49 FC FrQ := ⟨fun f h => by rw [FC_size, h.1.1], fun f _ => FC_one f⟩
set_option maxRecDepth 100000 in
set_option maxHeartbeats 8000000 in
theorem ksectors_core (w : World) (C : Array Value) (zone er : Int) (fr : List Fr) (hIC : (Try.prog.info? 28).map (·.size) = some C.size)
    (HF : ∀ W, Below w.heap.size w W → Calls Try.prog 17 #[.agg C, .int .i64 zone] W fun e w' => ∃ v, e = .returned (.tuple #[v, .int .i64 er]) ∧ OwnM w' 42 49 FC (fun f => f.body.length = 44) W.heap.size v fr ∧ Below W.heap.size W w')
    (hfr : ∀ f ∈ fr, rightF f = true ∧ Body f.body) (hl : fr.length ≤ 1000) (her : ((er != 0) = true ∧ fr = []) ∨ er = 0) :
    Calls Try.prog 35 #[.agg Tb.tabV, .agg C, .int .i64 zone] w fun e w' => ∃ v, e = .returned (.tuple #[v, .int .i64 er]) ∧ OwnM w' 77 64 byteCells Sec w.heap.size v (Ck.secs fr) ∧ Below w.heap.size w w' := by
  have HIC := Lib.hid hIC
  have HIT := Lib.hid size_tab
  have HFF := Lib.hid HF
  have HEN := Lib.hid (fun (f : Fr) (W : World) (h : Body f.body) (h2 : rightF f = true) => encode_yes f W h h2)
  have HFR := Lib.hid hfr
  have hzf := (zero_of_info Try.infoFrame).1
  have hzs := (zero_of_info Try.infoSector).1
  have HIS3 := Lib.hid Try.infoSec3
  have ha := heap_alloc2_old w (.cells Tb.tabV 71) (.cells C 28)
  have hb := heap_alloc2_new w (.cells Tb.tabV 71) (.cells C 28)
  have hB0 : Below w.heap.size w ((w.alloc (.cells Tb.tabV 71)).alloc (.cells C 28)) := ((Below.refl _ _).alloc (Nat.le_refl _) _).alloc (by simp) _
  obtain ⟨TV, hTV⟩ : ∃ T, Tb.tabV = T := ⟨_, rfl⟩
  rw [hTV] at HIT HEN ha hb hB0 ⊢
  obtain ⟨ZS, hZS⟩ : ∃ Z, byteCells (List.replicate 64 0) = Z := ⟨_, rfl⟩
  have HZS : Hid (∀ s : List Nat, s.length = 64 → ZS.size = (byteCells s).size) := Lib.hid (fun s h => by rw [← hZS, size_byteCells, size_byteCells, h]; rfl)
  have HSS : Hid (∀ s : List Nat, s.length = 64 → (Try.prog.info? 77).map (·.size) = some (byteCells s).size) := Lib.hid (fun s h => size_sec h)
  rw [hZS] at hzs
  have HZSE := Lib.hid hZS
  obtain ⟨W0, hW0⟩ : ∃ W, (w.alloc (.cells TV 71)).alloc (.cells C 28) = W := ⟨_, rfl⟩
  rw [hW0] at ha hb hB0
  have HT0 := Lib.hid ha
  have HC0 := Lib.hid hb
  have HB0 := Lib.hid hB0
  have HW0 := Lib.hid hW0
  have zT0 : w.heap.size < W0.heap.size := (Array.getElem?_eq_some_iff.1 ha).1
  clear hIC HF hfr ha hb hB0 hW0 hTV hZS
  go_enter Try.func35, Try.ntmps35
  go_upto_region 1 with (fail)
  rw [HW0.out]
  go_wp2_with (refine wpList_load_row rfl 28 _ rfl (w.heap.size + 1) rfl 28 _ _ _ HC0.out Try.underlying28 rfl HIC.out ?_)
  refine (HFF.out _ HB0.out).mono ?_
  rintro e1 w1 ⟨v1, rfl, ho1, hB1⟩
  have HT1 := Lib.hid ((hB1.block w.heap.size zT0).trans HT0.out)
  have HB1 := Lib.hid (HB0.out.trans (hB1.mono HB0.out.size))
  have zT1 : w.heap.size < w1.heap.size := Nat.lt_of_lt_of_le zT0 hB1.size
  clear hB1
  rcases her with ⟨t1, rfl⟩ | rfl
  · go_wp2
    go_ret2
    exact ⟨_, rfl, OwnM.nil _ _ _ _ _ _, HB1.out⟩
  · obtain ⟨a1, c1, rfl, hr1, -, -, -, -⟩ := ho1.shape kinF
    obtain ⟨m, hm⟩ : ∃ m, fr.length = m := ⟨_, rfl⟩
    rw [hm] at hl ⊢
    have HM := Lib.hid hm
    have HR1 := Lib.hid hr1
    clear ho1 hm hr1
    go_wp2
    go_loopw [10, 26] (fun v u wr => ∃ k : Nat, k ≤ m ∧ u = .int .i64 k ∧ OwnM wr 77 64 byteCells Sec w1.heap.size v (Ck.secs (fr.take k)) ∧ Below w1.heap.size w1 wr) (fun _ u _ => m - (intOf u).toNat)
    case atStart => exact ⟨0, Nat.zero_le _, rfl, OwnM.nil _ _ _ _ _ _, Below.refl _ _⟩
    case round =>
      obtain ⟨k, hk, rfl, hown, hBr⟩ := hrel
      have zr := hBr.size
      have HBR := Lib.hid hBr
      have HOW := Lib.hid hown
      clear hBr hown
      by_cases hlt : k < m
      · obtain ⟨x, hx⟩ : ∃ x, fr[k]? = some x := ⟨_, List.getElem?_eq_getElem (by rw [HM.out]; exact hlt)⟩
        obtain ⟨hx1, hx2⟩ := HFR.out x (List.mem_of_getElem? hx)
        obtain ⟨b, o, rfl, -, -, -⟩ := HR1.out.at hx
        have hgx := (HR1.out.below HBR.out).range hx (by rw [FC_size, hx2.1])
        have hix : (Try.prog.info? 42).map (·.size) = some (FC x).toList.length := by rw [FC_len hx2.1]; exact (zero_of_info Try.infoFrame).2
        have hicx := size_frm hx2.1
        have hocx := FC_one x
        have hzcx : (FC Fr.zero).size = (FC x).size := by rw [FC_size, FC_size, hx2.1]; rfl
        have hen := fun W => HEN.out x W hx2 hx1
        have hsx := Frm.sec_of hx2
        have hstep : Ck.secs (fr.take k) ++ [sectorOf x] = Ck.secs (fr.take (k + 1)) := by
          rw [List.take_add_one, hx]
          simp [Ck.secs]
        obtain ⟨s, hs⟩ : ∃ s, sectorOf x = s := ⟨_, rfl⟩
        rw [hs] at hen hsx hstep
        have hse : (Try.prog.info? 77).map (·.size) = some (byteCells s).size := HSS.out s hsx.1
        have hsz := HZS.out s hsx.1
        have hso := one_byteCells s
        obtain ⟨XL, hXL⟩ : ∃ XL, (FC x).toList = XL := ⟨_, rfl⟩
        have hXC : FC x = XL.toArray := by rw [← hXL]
        rw [hXL] at hgx hix
        rw [hXC] at hicx hocx hzcx hen
        have HGX := Lib.hid hgx
        have HIXL := Lib.hid hix
        have HICX := Lib.hid hicx
        have HOCX := Lib.hid hocx
        have HZCX := Lib.hid hzcx
        have HENX := Lib.hid hen
        have HSX := Lib.hid hsx
        have HSTEP := Lib.hid hstep
        have HSE := Lib.hid hse
        obtain ⟨BS, hBS⟩ : ∃ B, byteCells s = B := ⟨_, rfl⟩
        have HBS := Lib.hid hBS
        rw [hBS] at hsz hso HSE
        have HSZ := Lib.hid hsz
        have HSO := Lib.hid hso
        obtain ⟨W9, hW9⟩ : ∃ W9, wr.alloc (.cells XL.toArray 42) = W9 := ⟨_, rfl⟩
        have hb9 : Below wr.heap.size wr W9 := by rw [← hW9]; exact (Below.refl _ _).alloc (Nat.le_refl _) _
        have hF9 : W9.heap[wr.heap.size]? = some (.cells XL.toArray 42 (0, 0)) := by rw [← hW9]; exact heap_alloc_new wr _
        have zF9 : wr.heap.size < W9.heap.size := (Array.getElem?_eq_some_iff.1 hF9).1
        have HB9 := Lib.hid hb9
        have HF9 := Lib.hid hF9
        have HW9 := Lib.hid hW9
        have HT9 := Lib.hid (((HBR.out.trans (hb9.mono zr)).block w.heap.size zT1).trans HT1.out)
        clear hx hx1 hx2 hgx hix hicx hocx hzcx hen hsx hstep hs hse hsz hso hXL hXC hBS hW9 hb9 hF9
        go_upto_region 8 with (first | (refine wpList_load_mid rfl 42 _ rfl b (o + k * 49) rfl XL _ HGX.out Try.underlying42 rfl HIXL.out ?_) | (refine wpList_store_row rfl 42 _ _ rfl wr.heap.size XL.toArray rfl rfl 42 (FC Fr.zero) (heap_alloc_new wr _) HICX.out HZCX.out HOCX.out ?_; rw [World.setRow_alloc_new]))
        rw [HW9.out, put_none]
        go_wp2_with (first | (refine wpList_load_row rfl 71 _ rfl w.heap.size rfl 71 _ _ _ HT9.out Try.underlying71 rfl HIT.out ?_) | (refine wpList_load_row rfl 42 _ rfl wr.heap.size rfl 42 _ _ _ HF9.out Try.underlying42 rfl HICX.out ?_))
        refine (HENX.out _).mono ?_
        rintro e10 w10 ⟨rfl, hB10⟩
        have z10 := hB10.size
        obtain ⟨W11, hW11⟩ : ∃ W, w10.alloc (.cells BS 77) = W := ⟨_, rfl⟩
        have hb11 : Below w10.heap.size w10 W11 := by rw [← hW11]; exact (Below.refl _ _).alloc (Nat.le_refl _) _
        have hS11 : W11.heap[w10.heap.size]? = some (.cells BS 77 (0, 0)) := by rw [← hW11]; exact heap_alloc_new w10 _
        have zS11 : w10.heap.size < W11.heap.size := (Array.getElem?_eq_some_iff.1 hS11).1
        have hb := HB9.out.trans ((hB10.trans (hb11.mono z10)).mono HB9.out.size)
        have HOW11 := Lib.hid (HOW.out.below hb)
        have HB11 := Lib.hid (HBR.out.trans (hb.mono zr))
        have HS11 := Lib.hid hS11
        have HW11 := Lib.hid hW11
        obtain ⟨W12, hW12⟩ : ∃ W, W11.alloc (.cells BS 77) = W := ⟨_, rfl⟩
        have hb12 : Below W11.heap.size W11 W12 := by rw [← hW12]; exact (Below.refl _ _).alloc (Nat.le_refl _) _
        have hS12 : W12.heap[W11.heap.size]? = some (.cells BS 77 (0, 0)) := by rw [← hW12]; exact heap_alloc_new W11 _
        have HOW12 := Lib.hid (HOW11.out.below hb12)
        have HB12 := Lib.hid (HB11.out.trans (hb12.mono HB11.out.size))
        have HROW : Hid (RowOf W12 64 byteCells Sec (some ⟨W11.heap.size, 0, none⟩) [s]) := Lib.hid (one_rowOf (t := 77) (fr := (0, 0)) (by rw [HBS.out]; exact hS12) HSX.out)
        have HW12 := Lib.hid hW12
        have z12 := HB12.out.size
        have HLK : Hid ((Ck.secs (fr.take k)).length = k) := Lib.hid (by simp [Ck.secs]; rw [HM.out]; omega)
        clear hb11 hS11 hb hW11 hb12 hS12 hW12 hB10
        go_upto_region 9 with (first | (rw [HBS.out]; refine wpList_store_row rfl 77 _ _ rfl w10.heap.size BS rfl rfl 77 ZS (heap_alloc_new w10 _) HSE.out HSZ.out HSO.out ?_; rw [World.setRow_alloc_new]))
        rw [HW11.out]
        go_wp2_with (first | (refine wpList_load_row rfl 77 _ rfl w10.heap.size rfl 77 _ _ _ HS11.out Try.underlying77 rfl HSE.out ?_) | (refine wpList_slice1s rfl (.tmp 40) rfl s HSX.out.1 (congrArg Value.agg HBS.out.symm) ?_; rw [HBS.out, HW12.out]) | (at_builtin; refine wpList_appendM rfl (.tmp 39) (.tmp 41) 73 rfl 77 64 byteCells Sec kinB (by decide) (.agg (byteCells (List.replicate 64 0))) 64 Try.underlying73 HIS3.out rfl w1.heap.size _ (Ck.secs (fr.take k)) rfl HOW12.out (some ⟨W11.heap.size, 0, none⟩) 1 [s] (by rfl) HROW.out (by simp) (by have := HLK.out; unfold maxLen; simp; omega) (by have := HLK.out; simp; omega) z12 ?_; intro v13 w13 hv13 hg13 _; have hB13 := HB12.out.trans (HOW12.out.grown hg13 z12)))
        rw [HSTEP.out] at hv13
        exact ⟨⟨k + 1, by omega, by go_num, hv13, hB13⟩, by simp [intOf]; omega⟩
      · obtain rfl : k = m := by omega
        have HFIN : Hid (Ck.secs (fr.take k) = Ck.secs fr) := Lib.hid (by rw [List.take_of_length_le (by rw [HM.out]; exact Nat.le_refl _)])
        go_wp2
        go_ret2
        refine ⟨_, rfl, ?_, HB1.out.trans (HBR.out.mono HB1.out.size)⟩
        rw [← HFIN.out]
        exact HOW.out.mono (show w.heap.size ≤ w1.heap.size by omega)
theorem ksectors_any (w : World) (p le ll ce cl : Nat) (s : Sn.S) (h : SnIs w p le ll ce cl s) (zone : Int) :
    Calls Try.prog 35 #[.agg Tb.tabV, .agg (SC s p), .int .i64 zone] w fun e w' => ∃ v, e = .returned (.tuple #[v, .int .i64 (s.er zone)]) ∧ OwnM w' 77 64 byteCells Sec w.heap.size v (Ck.secs (s.fr zone)) ∧ Below w.heap.size w w' := by
  refine ksectors_core w (SC s p) zone (s.er zone) (s.fr zone) (snsize _ _ _ _) (fun W hW => sframes_any W p le ll ce cl s (h.below hW) zone) ?_ ?_ ?_
  · intro f hf
    unfold Sn.S.fr at hf
    split at hf
    · have := Sn.frames_right h.hg ‹_› f hf
      exact ⟨this.2.2, this.1⟩
    · cases hf
  · unfold Sn.S.fr
    split
    · have := Sn.nParts_64 h.hg
      rw [Sn.S.frames_length s ((Geo.right_iff _).1 h.hg).1]
      omega
    · simp
  · unfold Sn.S.er Sn.S.fr
    split
    · exact .inr rfl
    · exact .inl ⟨rfl, rfl⟩
/-- what Parse tells -/
def ParsePost (w : World) (r : Option Sn.S) (e : Ending) (w' : World) : Prop :=
  Below w.heap.size w w' ∧ ((∃ s p le ll ce cl, r = some s ∧ e = .returned (.tuple #[.agg (SC s p), .int .i64 0]) ∧ SnIs w' p le ll ce cl s ∧ w.heap.size ≤ p ∧ w.heap.size ≤ le ∧ w.heap.size ≤ ll) ∨ (r = none ∧ e = .returned (.tuple #[.agg SZ, .int .i64 10])))
theorem snSize (s : Sn.S) (p : Nat) : (Try.prog.info? 28).map (·.size) = some (SC s p).size := snsize _ _ _ _
set_option maxRecDepth 100000 in
set_option maxHeartbeats 8000000 in
theorem kparse_any (w : World) (zone : Int) (a : Option Addr) (l : List (List Nat)) (cap : Nat) (hI : RowOf w 64 byteCells Sec a l) (hl : l.length ≤ 1000) :
    Calls Try.prog 38 #[.agg Tb.tabV, .int .i64 zone, .slice a l.length cap] w (ParsePost w (Ck.parseS zone l)) := by
  have HIT := Lib.hid size_tab
  have HAT := Lib.hid (fun (s : List Nat) (z o : Int) (W : World) (h : s.length = 64) (h2 : ∀ c ∈ s, c < 256) => at_any s z o W h h2)
  have hzf := (zero_of_info Try.infoFrame).1
  have hzs := (zero_of_info Try.infoSector).1
  have hzn := (zero_of_info Try.infoSnz).1
  have HIF3 := Lib.hid Try.infoFrm3
  obtain ⟨r0, hr0⟩ : ∃ r, Ck.parseS zone l = r := ⟨_, rfl⟩
  have hrd : Sn.readS (Ck.decs zone 0 l) = r0 := hr0
  have HRD := Lib.hid hrd
  obtain ⟨DL, hDL⟩ : ∃ D, Ck.decs zone 0 l = D := ⟨_, rfl⟩
  rw [hDL] at HRD
  have HPP : Hid (∀ e w', ParsePost w r0 e w' → ParsePost w (Ck.parseS zone l) e w') := Lib.hid (fun e w' h => by rw [hr0]; exact h)
  rw [hr0]
  have ha := heap_alloc2_old w (.cells Tb.tabV 71) (.cells SZ 28)
  have hb := heap_alloc2_new w (.cells Tb.tabV 71) (.cells SZ 28)
  have hB0 : Below w.heap.size w ((w.alloc (.cells Tb.tabV 71)).alloc (.cells SZ 28)) := ((Below.refl _ _).alloc (Nat.le_refl _) _).alloc (by simp) _
  obtain ⟨TV, hTV⟩ : ∃ T, Tb.tabV = T := ⟨_, rfl⟩
  rw [hTV] at HIT HAT ha hb hB0 ⊢
  obtain ⟨NZ, hNZ⟩ : ∃ Z, SZ = Z := ⟨_, rfl⟩
  have HNS : Hid (∀ s p, NZ.size = (SC s p).size) := Lib.hid (fun s p => by rw [← hNZ]; rfl)
  have HNI : Hid ((Try.prog.info? 28).map (·.size) = some NZ.size) := Lib.hid (by rw [← hNZ]; exact (zero_of_info Try.infoSnz).2)
  have HNO : Hid (NZ.all (·.oneCell') = true) := Lib.hid (by rw [← hNZ]; simp [SZ, Value.oneCell'])
  rw [hNZ] at hzn ha hb hB0
  have HNZ := Lib.hid hNZ
  obtain ⟨ZS, hZS⟩ : ∃ Z, byteCells (List.replicate 64 0) = Z := ⟨_, rfl⟩
  have HZS : Hid (∀ s : List Nat, s.length = 64 → ZS.size = (byteCells s).size) := Lib.hid (fun s h => by rw [← hZS, size_byteCells, size_byteCells, h]; rfl)
  rw [hZS] at hzs
  obtain ⟨W0, hW0⟩ : ∃ W, (w.alloc (.cells TV 71)).alloc (.cells NZ 28) = W := ⟨_, rfl⟩
  rw [hW0] at ha hb hB0
  have HT0 := Lib.hid ha
  have HN0 := Lib.hid hb
  have HB0 := Lib.hid hB0
  have HW0 := Lib.hid hW0
  have zT0 : w.heap.size < W0.heap.size := (Array.getElem?_eq_some_iff.1 ha).1
  have zN0 : w.heap.size + 1 < W0.heap.size := (Array.getElem?_eq_some_iff.1 hb).1
  have HI0 := Lib.hid (hI.below hB0)
  obtain ⟨m, hm⟩ : ∃ m, l.length = m := ⟨_, rfl⟩
  have HM := Lib.hid hm
  have HDL := Lib.hid hDL
  rw [hm] at hl ⊢
  clear ha hb hB0 hW0 hTV hZS hNZ hI hm hr0 hrd hDL
  go_enter Try.func38, Try.ntmps38
  go_upto_region 1 with (fail)
  rw [HW0.out]
  go_wp2
  go_loopw [8, 15] (fun v u wr => ∃ (k : Nat) (ds : List Fr), k ≤ m ∧ u = .int .i64 k ∧ OwnM wr 42 49 FC FrQ W0.heap.size v ds ∧ ds.length = k ∧ DL = ds ++ Ck.decs zone k (l.drop k) ∧ Below W0.heap.size W0 wr) (fun _ u _ => m - (intOf u).toNat)
  case atStart => exact ⟨0, [], Nat.zero_le _, rfl, OwnM.nil _ _ _ _ _ _, rfl, by rw [← HDL.out]; rfl, Below.refl _ _⟩
  case round =>
    obtain ⟨k, ds, hk, rfl, hown, hdk, hde, hBr⟩ := hrel
    have zr := hBr.size
    have HBR := Lib.hid hBr
    have HOW := Lib.hid hown
    have HDK := Lib.hid hdk
    have HDE := Lib.hid hde
    clear hBr hown hdk hde
    by_cases hlt : k < m
    · obtain ⟨x, hx⟩ : ∃ x, l[k]? = some x := ⟨_, List.getElem?_eq_getElem (by rw [HM.out]; exact hlt)⟩
      obtain ⟨b, o, rfl, -, -, hsx⟩ := HI0.out.at hx
      have hdrop : l.drop k = x :: l.drop (k + 1) := by
        obtain ⟨h1, h2⟩ := List.getElem?_eq_some_iff.1 hx
        rw [← h2]
        exact List.drop_eq_getElem_cons h1
      have hgx := (HI0.out.below HBR.out).range hx (by rw [size_byteCells, hsx.1])
      have hix : (Try.prog.info? 77).map (·.size) = some (byteCells x).toList.length := by rw [Array.length_toList]; exact size_sec hsx.1
      have hicx := size_sec hsx.1
      have hocx := one_byteCells x
      have hzcx := HZS.out x hsx.1
      have hat := fun W => HAT.out x zone k W hsx.1 hsx.2
      have hln := at_len x zone k hsx.1
      have hdec : Ck.decs zone k (l.drop k) = if (atF x zone k).2 = 0 then (atF x zone k).1 :: Ck.decs zone (k + 1) (l.drop (k + 1)) else [] := by rw [hdrop]; rfl
      have hinv := fun h => at_inv (zone := zone) (off := (k : Int)) hsx h
      obtain ⟨R, hR⟩ : ∃ R, atF x zone k = R := ⟨_, rfl⟩
      rw [hR] at hat hln hdec hinv
      obtain ⟨f, ev⟩ := R
      unfold FrmPost at hat
      simp only at hat hln hdec hinv
      have hiF := size_frm hln
      have hoF := FC_one f
      have hzF : (FC Fr.zero).size = (FC f).size := by rw [FC_size, FC_size, hln]; rfl
      obtain ⟨FX, hFX⟩ : ∃ F, FC f = F := ⟨_, rfl⟩
      rw [hFX] at hat hiF hoF hzF
      obtain ⟨XL, hXL⟩ : ∃ XL, (byteCells x).toList = XL := ⟨_, rfl⟩
      have hXC : byteCells x = XL.toArray := by rw [← hXL]
      rw [hXL] at hgx hix
      rw [hXC] at hicx hocx hzcx hat
      have HGX := Lib.hid hgx
      have HIXL := Lib.hid hix
      have HICX := Lib.hid hicx
      have HOCX := Lib.hid hocx
      have HZCX := Lib.hid hzcx
      have HATX := Lib.hid hat
      have HIF := Lib.hid hiF
      have HOF := Lib.hid hoF
      have HZF := Lib.hid hzF
      have HFX := Lib.hid hFX
      have HLN := Lib.hid hln
      have HDEC := Lib.hid hdec
      have HINV := Lib.hid hinv
      obtain ⟨W9, hW9⟩ : ∃ W9, wr.alloc (.cells XL.toArray 77) = W9 := ⟨_, rfl⟩
      have hb9 : Below wr.heap.size wr W9 := by rw [← hW9]; exact (Below.refl _ _).alloc (Nat.le_refl _) _
      have hF9 : W9.heap[wr.heap.size]? = some (.cells XL.toArray 77 (0, 0)) := by rw [← hW9]; exact heap_alloc_new wr _
      have zF9 : wr.heap.size < W9.heap.size := (Array.getElem?_eq_some_iff.1 hF9).1
      have HB9 := Lib.hid hb9
      have HF9 := Lib.hid hF9
      have HW9 := Lib.hid hW9
      have HT9 := Lib.hid (((HBR.out.trans (hb9.mono zr)).block w.heap.size zT0).trans HT0.out)
      clear hx hsx hdrop hgx hix hicx hocx hzcx hat hln hdec hinv hR hiF hoF hzF hFX hXL hXC hW9 hb9 hF9
      go_upto_region 5 with (first | (refine wpList_load_mid rfl 77 _ rfl b (o + k * 64) rfl XL _ HGX.out Try.underlying77 rfl HIXL.out ?_) | (refine wpList_store_row rfl 77 _ _ rfl wr.heap.size XL.toArray rfl rfl 77 ZS (heap_alloc_new wr _) HICX.out HZCX.out HOCX.out ?_; rw [World.setRow_alloc_new]))
      rw [HW9.out, put_none]
      go_wp2_with (first | (refine wpList_load_row rfl 71 _ rfl w.heap.size rfl 71 _ _ _ HT9.out Try.underlying71 rfl HIT.out ?_) | (refine wpList_load_row rfl 77 _ rfl wr.heap.size rfl 77 _ _ _ HF9.out Try.underlying77 rfl HICX.out ?_))
      refine (HATX.out _).mono ?_
      rintro e10 w10 ⟨rfl, hB10⟩
      have z10 := hB10.size
      obtain ⟨W11, hW11⟩ : ∃ W, w10.alloc (.cells FX 42) = W := ⟨_, rfl⟩
      have hb11 : Below w10.heap.size w10 W11 := by rw [← hW11]; exact (Below.refl _ _).alloc (Nat.le_refl _) _
      have hS11 : W11.heap[w10.heap.size]? = some (.cells FX 42 (0, 0)) := by rw [← hW11]; exact heap_alloc_new w10 _
      have hb := HB9.out.trans ((hB10.trans (hb11.mono z10)).mono HB9.out.size)
      have HOW11 := Lib.hid (HOW.out.below hb)
      have HB11 := Lib.hid (HBR.out.trans (hb.mono zr))
      have HS11 := Lib.hid hS11
      have HW11 := Lib.hid hW11
      clear hb11 hS11 hb hW11 hB10
      go_upto_region 6 with (refine wpList_store_row rfl 42 _ _ rfl w10.heap.size FX rfl rfl 42 (FC Fr.zero) (heap_alloc_new w10 _) HIF.out HZF.out HOF.out ?_; rw [World.setRow_alloc_new])
      rw [HW11.out]
      by_cases hev : ev = 0
      · subst hev
        obtain ⟨-, q2, q3, -, -, -, -⟩ := HINV.out rfl
        have HFQ : Hid (FrQ f) := Lib.hid ⟨q3, num_of_right q2⟩
        obtain ⟨W12, hW12⟩ : ∃ W, W11.alloc (.cells FX 42) = W := ⟨_, rfl⟩
        have hb12 : Below W11.heap.size W11 W12 := by rw [← hW12]; exact (Below.refl _ _).alloc (Nat.le_refl _) _
        have hS12 : W12.heap[W11.heap.size]? = some (.cells FX 42 (0, 0)) := by rw [← hW12]; exact heap_alloc_new W11 _
        have HOW12 := Lib.hid (HOW11.out.below hb12)
        have HB12 := Lib.hid (HB11.out.trans (hb12.mono HB11.out.size))
        have HROW : Hid (RowOf W12 49 FC FrQ (some ⟨W11.heap.size, 0, none⟩) [f]) := Lib.hid (one_rowOf (t := 42) (fr := (0, 0)) (by rw [HFX.out]; exact hS12) HFQ.out)
        have HW12 := Lib.hid hW12
        have z12 := HB12.out.size
        have HSTEP : Hid (DL = (ds ++ [f]) ++ Ck.decs zone (k + 1) (l.drop (k + 1))) := Lib.hid (by rw [HDE.out, HDEC.out, if_pos rfl, List.append_assoc]; rfl)
        clear q2 q3 hb12 hS12 hW12
        go_wp2_with (first | (refine wpList_load_row rfl 42 _ rfl w10.heap.size rfl 42 _ _ _ HS11.out Try.underlying42 rfl HIF.out ?_) | (refine wpList_slice1 rfl (.tmp 31) rfl f HLN.out (congrArg Value.agg HFX.out.symm) ?_; rw [HFX.out, HW12.out]) | (at_builtin; refine wpList_appendM rfl (.tmp 30) (.tmp 32) 35 rfl 42 49 FC FrQ kinQ (by decide) (.agg (FC Fr.zero)) 88 Try.underlying35 HIF3.out rfl W0.heap.size _ ds rfl HOW12.out (some ⟨W11.heap.size, 0, none⟩) 1 [f] (by rfl) HROW.out (by simp) (by have := HDK.out; unfold maxLen; simp; omega) (by have := HDK.out; simp; omega) z12 ?_; intro v13 w13 hv13 hg13 _; have hB13 := HB12.out.trans (HOW12.out.grown hg13 z12)))
        exact ⟨⟨k + 1, ds ++ [f], by omega, by go_num, hv13, by simp [HDK.out], HSTEP.out, hB13⟩, by simp [intOf]; omega⟩
      · have t1 : (ev != 0) = true := by simp [hev]
        have HX : Hid (DL = ds) := Lib.hid (by rw [HDE.out, HDEC.out, if_neg hev, List.append_nil])
        clear hev
        obtain ⟨a8, c8, rfl, hr8, -, hc8, hm8, -⟩ := HOW11.out.shape kinQ
        have hd100 : ds.length ≤ 100000 := by rw [HDK.out]; omega
        have HRC := Lib.hid (sread_any W11 a8 ds c8 hr8 hd100 hc8 hm8)
        clear hr8 hc8 hm8 hd100
        go_wp2_with fail
        refine HRC.out.mono ?_
        rintro e20 w20 ⟨hB20, hcase⟩
        have hN20 := ((HB11.out.trans (hB20.mono HB11.out.size)).block (w.heap.size + 1) zN0).trans HN0.out
        have HN20 := Lib.hid hN20
        have HB20 := Lib.hid (HB0.out.trans ((HB11.out.trans (hB20.mono HB11.out.size)).mono HB0.out.size))
        have z11 := HB11.out.size
        clear hB20 hN20
        rcases hcase with ⟨s, p, le, ll, ce, cl, hs, rfl, hsn, g1, g2, g3⟩ | ⟨hs, rfl⟩
        · have HIS := Lib.hid (snSize s p)
          have HOS : Hid ((SC s p).all (·.oneCell') = true) := Lib.hid (by simp [SC, SnC, Value.oneCell'])
          have HZX := Lib.hid (HNS.out s p)
          have HRES : Hid (r0 = some s) := Lib.hid (by rw [← HRD.out, HX.out]; exact hs)
          have HSN : Hid (SnIs (w20.setRow (w.heap.size + 1) (SC s p)) p le ll ce cl s) := Lib.hid ⟨hsn.bm.only (only_setRow w20 (w.heap.size + 1) (SC s p)) (by simp; omega) (by simp; omega) (by simp; omega), hsn.hg, hsn.ok⟩
          obtain ⟨X, hX⟩ : ∃ X, SC s p = X := ⟨_, rfl⟩
          rw [hX] at HIS HOS HZX HSN ⊢
          have HXX := Lib.hid hX
          clear hs hsn hX
          go_wp2_with (refine wpList_store_row rfl 28 _ _ rfl (w.heap.size + 1) X rfl rfl 28 NZ HN20.out HIS.out HZX.out HOS.out ?_)
          refine bodyPost_ret (res_row_tmp rfl _ _ (w.heap.size + 1) 28 X _ _ rfl (setRow_heap _ _ _ _ _ _ HN20.out) Try.underlying28 rfl HIS.out) rfl ?_
          exact ⟨below_setRow HB20.out (by omega) _, .inl ⟨s, p, le, ll, ce, cl, HRES.out, by rw [HXX.out]; rfl, HSN.out, by omega, by omega, by omega⟩⟩
        · have HRES : Hid (r0 = none) := Lib.hid (by rw [← HRD.out, HX.out]; exact hs)
          rw [HNZ.out]
          clear hs
          go_wp2_with (refine wpList_store_row rfl 28 _ _ rfl (w.heap.size + 1) NZ rfl rfl 28 NZ HN20.out HNI.out rfl HNO.out ?_)
          refine bodyPost_ret (res_row_tmp rfl _ _ (w.heap.size + 1) 28 NZ _ _ rfl (setRow_heap _ _ _ _ _ _ HN20.out) Try.underlying28 rfl HNI.out) rfl ?_
          exact ⟨below_setRow HB20.out (by omega) _, .inr ⟨HRES.out, by rw [HNZ.out]; rfl⟩⟩
    · have HX : Hid (DL = ds) := Lib.hid (by rw [HDE.out, List.drop_eq_nil_of_le (by rw [HM.out]; omega)]; simp [Ck.decs])
      have HOW11 := HOW
      have HB11 := HBR
      obtain ⟨a8, c8, rfl, hr8, -, hc8, hm8, -⟩ := HOW11.out.shape kinQ
      have hd100 : ds.length ≤ 100000 := by rw [HDK.out]; omega
      have HRC := Lib.hid (sread_any wr a8 ds c8 hr8 hd100 hc8 hm8)
      clear hr8 hc8 hm8 hd100
      go_wp2_with fail
      refine HRC.out.mono ?_
      rintro e20 w20 ⟨hB20, hcase⟩
      have hN20 := ((HB11.out.trans (hB20.mono HB11.out.size)).block (w.heap.size + 1) zN0).trans HN0.out
      have HN20 := Lib.hid hN20
      have HB20 := Lib.hid (HB0.out.trans ((HB11.out.trans (hB20.mono HB11.out.size)).mono HB0.out.size))
      have z11 := HB11.out.size
      clear hB20 hN20
      rcases hcase with ⟨s, p, le, ll, ce, cl, hs, rfl, hsn, g1, g2, g3⟩ | ⟨hs, rfl⟩
      · have HIS := Lib.hid (snSize s p)
        have HOS : Hid ((SC s p).all (·.oneCell') = true) := Lib.hid (by simp [SC, SnC, Value.oneCell'])
        have HZX := Lib.hid (HNS.out s p)
        have HRES : Hid (r0 = some s) := Lib.hid (by rw [← HRD.out, HX.out]; exact hs)
        have HSN : Hid (SnIs (w20.setRow (w.heap.size + 1) (SC s p)) p le ll ce cl s) := Lib.hid ⟨hsn.bm.only (only_setRow w20 (w.heap.size + 1) (SC s p)) (by simp; omega) (by simp; omega) (by simp; omega), hsn.hg, hsn.ok⟩
        obtain ⟨X, hX⟩ : ∃ X, SC s p = X := ⟨_, rfl⟩
        rw [hX] at HIS HOS HZX HSN ⊢
        have HXX := Lib.hid hX
        clear hs hsn hX
        go_wp2_with (refine wpList_store_row rfl 28 _ _ rfl (w.heap.size + 1) X rfl rfl 28 NZ HN20.out HIS.out HZX.out HOS.out ?_)
        refine bodyPost_ret (res_row_tmp rfl _ _ (w.heap.size + 1) 28 X _ _ rfl (setRow_heap _ _ _ _ _ _ HN20.out) Try.underlying28 rfl HIS.out) rfl ?_
        exact ⟨below_setRow HB20.out (by omega) _, .inl ⟨s, p, le, ll, ce, cl, HRES.out, by rw [HXX.out]; rfl, HSN.out, by omega, by omega, by omega⟩⟩
      · have HRES : Hid (r0 = none) := Lib.hid (by rw [← HRD.out, HX.out]; exact hs)
        rw [HNZ.out]
        clear hs
        go_wp2_with (refine wpList_store_row rfl 28 _ _ rfl (w.heap.size + 1) NZ rfl rfl 28 NZ HN20.out HNI.out rfl HNO.out ?_)
        refine bodyPost_ret (res_row_tmp rfl _ _ (w.heap.size + 1) 28 NZ _ _ rfl (setRow_heap _ _ _ _ _ _ HN20.out) Try.underlying28 rfl HNI.out) rfl ?_
        exact ⟨below_setRow HB20.out (by omega) _, .inr ⟨HRES.out, by rw [HNZ.out]; rfl⟩⟩
end Go.Proofs.Ytjnneoejnpephaa
namespace Ck
/-- how two numbers compare -/
def cmpI (a b : Int) : Int := if a < b then -1 else if b < a then 1 else 0
/-- which of two copies (a zone, a Gen) counts more -/
def ordC (p q : Int × Int) : Int := if cmpI p.2 q.2 ≠ 0 then cmpI p.2 q.2 else cmpI q.1 p.1
def better (m x : Int × Int) : Int × Int := if 0 < ordC x m then x else m
end Ck
namespace Go.Proofs.Ytjnneoejnpephaa
open Go.RowKit Go.Rv
set_option linter.unusedVariables false
attribute [local go_sem] Oper.semAt_some
/-- a copy of an empty snapshot, but for its Gen -/
def CC (c : Int × Int) : Array Value := #[.int .i64 c.1, .int .i64 c.2, .int .i64 0, .int .i64 0, .pointer none]
def Fact.rowI (B : Nat) (C : Array Value) (n : Nat) (t : TypeId) : Fact := ⟨fun u w => ∃ g, u = .slice (some ⟨g, 0, none⟩) n n ∧ B ≤ g ∧ w.heap[g]? = some (.cells C t (0, 0)), fun u w w' ⟨g, e, hb, h⟩ hB => ⟨g, e, hb, (hB.block g (Array.getElem?_eq_some_iff.1 h).1).trans h⟩⟩
theorem knan_any (a : Int) (w : World) : Calls Try.prog 97 #[.int .i64 a] w fun e w' => e = .returned (.bool false) ∧ w' = w := by
  go_enter Try.func97, Try.ntmps97
  go_wp2
  go_ret
  exact ⟨rfl, rfl⟩
theorem kcmp_any (a b : Int) (w : World) : Calls Try.prog 85 #[.int .i64 a, .int .i64 b] w fun e w' => e = .returned (.int .i64 (Ck.cmpI a b)) ∧ w' = w := by
  have HN := Lib.hid (fun (x : Int) (W : World) => knan_any x W)
  obtain ⟨r, hr⟩ : ∃ r, Ck.cmpI a b = r := ⟨_, rfl⟩
  have hc : (decide (a < b) = true ∧ r = -1) ∨ (decide (a < b) = false ∧ decide (b < a) = true ∧ r = 1) ∨ (decide (a < b) = false ∧ decide (b < a) = false ∧ r = 0) := by
    rw [← hr]
    unfold Ck.cmpI
    by_cases h1 : a < b
    · left; simp [h1]
    · right
      by_cases h2 : b < a
      · left; simp [h1, h2]
      · right; simp [h1, h2]
  rw [hr]
  clear hr
  rcases hc with ⟨t1, rfl⟩ | ⟨t1, t2, rfl⟩ | ⟨t1, t2, rfl⟩
  · go_enter Try.func85, Try.ntmps85
    go_wp2_with fail
    refine (HN.out _ _).mono ?_
    rintro e w1 ⟨rfl, rfl⟩
    go_wp2_with fail
    refine (HN.out _ _).mono ?_
    rintro e w2 ⟨rfl, rfl⟩
    go_wp2
    go_ret
    exact ⟨rfl, rfl⟩
  · go_enter Try.func85, Try.ntmps85
    go_wp2_with fail
    refine (HN.out _ _).mono ?_
    rintro e w1 ⟨rfl, rfl⟩
    go_wp2_with fail
    refine (HN.out _ _).mono ?_
    rintro e w2 ⟨rfl, rfl⟩
    go_wp2
    go_ret
    exact ⟨rfl, rfl⟩
  · go_enter Try.func85, Try.ntmps85
    go_wp2_with fail
    refine (HN.out _ _).mono ?_
    rintro e w1 ⟨rfl, rfl⟩
    go_wp2_with fail
    refine (HN.out _ _).mono ?_
    rintro e w2 ⟨rfl, rfl⟩
    go_wp2
    go_ret
    exact ⟨rfl, rfl⟩
theorem kor_any (x y : Int) (g : Nat) (w : World) (h : w.heap[g]? = some (.cells #[.int .i64 x, .int .i64 y] 3 (0, 0))) :
    Calls Try.prog 84 #[.slice (some ⟨g, 0, none⟩) 2 2] w fun e w' => e = .returned (.int .i64 (if x ≠ 0 then x else y)) ∧ w' = w := by
  have c0 : w.cell? ⟨g, 0, none⟩ = some (.int .i64 x) := (cell_of_row _ _ _ _ _ _ h).trans rfl
  have c1 : w.cell? ⟨g, 1, none⟩ = some (.int .i64 y) := (cell_of_row _ _ _ _ _ _ h).trans rfl
  have C0 := Lib.hid c0
  have C1 := Lib.hid c1
  obtain ⟨r, hr⟩ : ∃ r, (if x ≠ 0 then x else y) = r := ⟨_, rfl⟩
  rw [hr]
  have HR := Lib.hid hr
  clear c0 c1 h hr
  go_enter Try.func84, Try.ntmps84
  go_wp2
  go_loopw [8] (fun u wr => wr = w ∧ ((u = .int .i64 0) ∨ (u = .int .i64 1 ∧ x = 0) ∨ (u = .int .i64 2 ∧ x = 0 ∧ y = 0))) (fun u _ => 2 - (intOf u).toNat)
  case atStart => exact ⟨rfl, .inl rfl⟩
  case round =>
    obtain ⟨rfl, rfl | ⟨rfl, hx⟩ | ⟨rfl, hx, hy⟩⟩ := hrel
    · have c0 := C0.out
      clear C0 C1
      by_cases hx : x = 0
      · have t0 : (x != 0) = false := by simp [hx]
        go_wp2
        exact ⟨⟨by first | rfl | trivial, .inr (.inl ⟨by go_num, hx⟩)⟩, by simp [intOf]⟩
      · have t0 : (x != 0) = true := by simp [hx]
        obtain rfl : r = x := by rw [← HR.out, if_pos hx]
        clear HR
        go_wp2
        go_ret
        exact ⟨rfl, rfl⟩
    · have c1 := C1.out
      clear C0 C1
      have hry : r = y := by rw [← HR.out, if_neg (fun k => k hx)]
      have HRY := Lib.hid hry
      clear hry HR
      by_cases hy : y = 0
      · have t0 : (y != 0) = false := by simp [hy]
        go_wp2
        exact ⟨⟨by first | rfl | trivial, .inr (.inr ⟨by go_num, hx, hy⟩)⟩, by simp [intOf]⟩
      · have t0 : (y != 0) = true := by simp [hy]
        obtain rfl : r = y := HRY.out
        go_wp2
        go_ret
        exact ⟨rfl, rfl⟩
    · obtain rfl : r = 0 := by rw [← HR.out]; simp [hx, hy]
      clear C0 C1 HR
      go_wp2
      go_ret
      exact ⟨rfl, rfl⟩
set_option maxRecDepth 100000 in
set_option maxHeartbeats 4000000 in
theorem korder_any (p q : Int × Int) (w : World) : Calls Try.prog 65 #[.agg (CC p), .agg (CC q)] w fun e w' => e = .returned (.int .i64 (Ck.ordC p q)) ∧ Below w.heap.size w w' := by
  have HCM := Lib.hid (fun (a b : Int) (W : World) => kcmp_any a b W)
  have HOR := Lib.hid (fun (x y : Int) (g : Nat) (W : World) h => kor_any x y g W h)
  have HCC : Hid (∀ (W : World) (g : Nat) (c : Int × Int), W.heap[g]? = some (.cells (CC c) 81 (0, 0)) → W.cell? ⟨g, 0, none⟩ = some (.int .i64 c.1) ∧ W.cell? ⟨g, 1, none⟩ = some (.int .i64 c.2)) := Lib.hid (fun W g c h => ⟨(cell_of_row _ _ _ _ _ _ h).trans rfl, (cell_of_row _ _ _ _ _ _ h).trans rfl⟩)
  obtain ⟨r, hr⟩ : ∃ r, Ck.ordC p q = r := ⟨_, rfl⟩
  obtain ⟨x, hx⟩ : ∃ x, Ck.cmpI p.2 q.2 = x := ⟨_, rfl⟩
  obtain ⟨y, hy⟩ : ∃ y, Ck.cmpI q.1 p.1 = y := ⟨_, rfl⟩
  have hxy : (if x ≠ 0 then x else y) = r := by rw [← hr, ← hx, ← hy]; rfl
  have H1 : Hid (∀ W, Calls Try.prog 85 #[.int .i64 p.2, .int .i64 q.2] W fun e w' => e = .returned (.int .i64 x) ∧ w' = W) := Lib.hid (fun W => by rw [← hx]; exact HCM.out _ _ W)
  have H2 : Hid (∀ W, Calls Try.prog 85 #[.int .i64 q.1, .int .i64 p.1] W fun e w' => e = .returned (.int .i64 y) ∧ w' = W) := Lib.hid (fun W => by rw [← hy]; exact HCM.out _ _ W)
  have H3 : Hid (∀ g (W : World), W.heap[g]? = some (.cells #[.int .i64 x, .int .i64 y] 3 (0, 0)) → Calls Try.prog 84 #[.slice (some ⟨g, 0, none⟩) 2 2] W fun e w' => e = .returned (.int .i64 r) ∧ w' = W) := Lib.hid (fun g W h => by rw [← hxy]; exact HOR.out x y g W h)
  have ha := heap_alloc2_old w (.cells (CC p) 81) (.cells (CC q) 81)
  have hb := heap_alloc2_new w (.cells (CC p) 81) (.cells (CC q) 81)
  have hB0 : Below w.heap.size w ((w.alloc (.cells (CC p) 81)).alloc (.cells (CC q) 81)) := ((Below.refl _ _).alloc (Nat.le_refl _) _).alloc (by simp) _
  rw [hr]
  obtain ⟨P1, hP1⟩ : ∃ P, CC p = P := ⟨_, rfl⟩
  obtain ⟨Q1, hQ1⟩ : ∃ P, CC q = P := ⟨_, rfl⟩
  obtain ⟨p0, hp0⟩ : ∃ z, p.1 = z := ⟨_, rfl⟩
  obtain ⟨p1, hp1⟩ : ∃ z, p.2 = z := ⟨_, rfl⟩
  obtain ⟨q0, hq0⟩ : ∃ z, q.1 = z := ⟨_, rfl⟩
  obtain ⟨q1, hq1⟩ : ∃ z, q.2 = z := ⟨_, rfl⟩
  have HA : Hid (∀ W : World, W.heap[w.heap.size]? = some (.cells P1 81 (0, 0)) → W.cell? ⟨w.heap.size, 0, none⟩ = some (.int .i64 p0) ∧ W.cell? ⟨w.heap.size, 1, none⟩ = some (.int .i64 p1)) := Lib.hid (fun W h => by rw [← hp0, ← hp1]; rw [← hP1] at h; exact HCC.out W _ _ h)
  have HB : Hid (∀ W : World, W.heap[w.heap.size + 1]? = some (.cells Q1 81 (0, 0)) → W.cell? ⟨w.heap.size + 1, 0, none⟩ = some (.int .i64 q0) ∧ W.cell? ⟨w.heap.size + 1, 1, none⟩ = some (.int .i64 q1)) := Lib.hid (fun W h => by rw [← hq0, ← hq1]; rw [← hQ1] at h; exact HCC.out W _ _ h)
  rw [hp1, hq1] at H1
  rw [hq0, hp0] at H2
  rw [hP1, hQ1] at ha hb hB0 ⊢
  obtain ⟨W0, hW0⟩ : ∃ W0, (w.alloc (.cells P1 81)).alloc (.cells Q1 81) = W0 := ⟨_, rfl⟩
  rw [hW0] at ha hb hB0
  have z0 : w.heap.size + 1 < W0.heap.size := (Array.getElem?_eq_some_iff.1 hb).1
  have HA0 := Lib.hid ha
  have HB0 := Lib.hid hb
  have HBB := Lib.hid hB0
  have HW0 := Lib.hid hW0
  clear ha hb hB0 hW0 hr hx hy hxy hP1 hQ1 hp0 hp1 hq0 hq1 HCC HCM HOR
  go_enter Try.func65, Try.ntmps65
  go_upto_region 1 with (fail)
  rw [HW0.out]
  refine wp_region_conf2 14 [Fact.eq (.pointer (some ⟨w.heap.size, 1, none⟩)), Fact.eq (.pointer (some ⟨w.heap.size, 1, none⟩)), Fact.eq (.int .i64 p1), Fact.eq (.pointer (some ⟨w.heap.size + 1, 1, none⟩)), Fact.eq (.pointer (some ⟨w.heap.size + 1, 1, none⟩)), Fact.eq (.int .i64 q1), Fact.eq (.int .i64 x), Fact.eq (.pointer (some ⟨w.heap.size + 1, 0, none⟩)), Fact.eq (.int .i64 q0), Fact.eq (.pointer (some ⟨w.heap.size, 0, none⟩)), Fact.eq (.int .i64 p0), Fact.eq (.int .i64 y), Fact.rowI W0.heap.size #[.int .i64 x, .int .i64 y] 2 3, Fact.eq (.int .i64 r)] ?raA (by kernel_rfl) (by kernel_rfl) ?rahA ?raho ?rahend
  case rahA =>
    intro vv
    simp only [putRules, Nat.reduceAdd]
    rfl
  case raho =>
    refine ⟨?_, ?_, ?_, ?_, ?_, ?_, ?_, ?_, ?_, ?_, ?_, ?_, ?_, ?_, trivial⟩
    · intro vv W K hB hd HK
      simp only [confRules] at HK
      clear hd
      go_wp2
      refine HK.out _ _ (Below.refl _ _) ?_
      rfl
    · intro vv W K hB hd HK
      simp only [confRules] at hd HK
      have h0 := hd
      clear hd
      simp only [h0] at HK ⊢
      clear h0
      go_wp2
      refine HK.out _ _ (Below.refl _ _) ?_
      rfl
    · intro vv W K hB hd HK
      simp only [confRules] at hd HK
      have h1 := hd
      clear hd
      simp only [h1] at HK ⊢
      clear h1
      obtain ⟨c0, c1⟩ := HA.out W ((hB.block w.heap.size (by omega)).trans HA0.out)
      go_wp2
      refine HK.out _ _ (Below.refl _ _) ?_
      rfl
    · intro vv W K hB hd HK
      simp only [confRules] at HK
      clear hd
      go_wp2
      refine HK.out _ _ (Below.refl _ _) ?_
      rfl
    · intro vv W K hB hd HK
      simp only [confRules] at hd HK
      have h3 := hd
      clear hd
      simp only [h3] at HK ⊢
      clear h3
      go_wp2
      refine HK.out _ _ (Below.refl _ _) ?_
      rfl
    · intro vv W K hB hd HK
      simp only [confRules] at hd HK
      have h4 := hd
      clear hd
      simp only [h4] at HK ⊢
      clear h4
      obtain ⟨c0, c1⟩ := HB.out W ((hB.block (w.heap.size + 1) (by omega)).trans HB0.out)
      go_wp2
      refine HK.out _ _ (Below.refl _ _) ?_
      rfl
    · intro vv W K hB hd HK
      simp only [confRules] at hd HK
      obtain ⟨h2, h5⟩ := hd
      simp only [h2, h5] at HK ⊢
      clear h2 h5
      go_wp2_with (refine (H1.out _).mono ?_; rintro e w9 ⟨rfl, rfl⟩)
      refine HK.out _ _ (Below.refl _ _) ?_
      rfl
    · intro vv W K hB hd HK
      simp only [confRules] at HK
      clear hd
      go_wp2
      refine HK.out _ _ (Below.refl _ _) ?_
      rfl
    · intro vv W K hB hd HK
      simp only [confRules] at hd HK
      have h7 := hd
      clear hd
      simp only [h7] at HK ⊢
      clear h7
      obtain ⟨c0, c1⟩ := HB.out W ((hB.block (w.heap.size + 1) (by omega)).trans HB0.out)
      go_wp2
      refine HK.out _ _ (Below.refl _ _) ?_
      rfl
    · intro vv W K hB hd HK
      simp only [confRules] at HK
      clear hd
      go_wp2
      refine HK.out _ _ (Below.refl _ _) ?_
      rfl
    · intro vv W K hB hd HK
      simp only [confRules] at hd HK
      have h9 := hd
      clear hd
      simp only [h9] at HK ⊢
      clear h9
      obtain ⟨c0, c1⟩ := HA.out W ((hB.block w.heap.size (by omega)).trans HA0.out)
      go_wp2
      refine HK.out _ _ (Below.refl _ _) ?_
      rfl
    · intro vv W K hB hd HK
      simp only [confRules] at hd HK
      obtain ⟨h8, h10, h6⟩ := hd
      simp only [h8, h10, h6] at HK ⊢
      clear h8 h10 h6
      go_wp2_with (refine (H2.out _).mono ?_; rintro e w9 ⟨rfl, rfl⟩)
      refine HK.out _ _ (Below.refl _ _) ?_
      rfl
    · intro vv W K hB hd HK
      simp only [confRules] at hd HK
      obtain ⟨h6, h11⟩ := hd
      simp only [h6, h11] at HK ⊢
      clear h6 h11
      go_wp2
      refine HK.out _ _ ((Below.refl _ _).alloc (Nat.le_refl _) _) ?_
      exact ⟨_, rfl, hB.size, heap_alloc_new _ _⟩
    · intro vv W K hB hd HK
      simp only [confRules] at hd HK
      obtain ⟨⟨g12, h12, b12, r12⟩, h11⟩ := hd
      simp only [h12, h11] at HK ⊢
      clear h12 h11
      go_wp2_with (refine (H3.out _ _ r12).mono ?_; rintro e w9 ⟨rfl, rfl⟩)
      refine HK.out _ _ (Below.refl _ _) ?_
      rfl
  case rahend =>
    intro vv W hB hf
    have e13 := hf 13 (by decide)
    simp only [endRules] at e13
    simp only [e13, dropRules]
    clear hf e13
    go_wp2
    go_ret
    exact ⟨rfl, HBB.out.trans (hB.mono HBB.out.size)⟩
theorem cc_size (c : Int × Int) : (CC c).size = 5 := rfl
theorem kinC : Kin 5 CC (fun _ => True) := ⟨fun c _ => rfl, fun c _ => by simp [CC, Value.oneCell']⟩
theorem Try.infoCo : (Try.prog.info? 81).map (fun i => (i.zero, i.size)) = some (some (.agg (CC (0, 0))), 5) := by kernel_rfl
set_option maxRecDepth 100000 in
set_option maxHeartbeats 8000000 in
theorem kmax_any (a : Option Addr) (c : Int × Int) (r : List (Int × Int)) (cap : Nat) (w : World) (hI : RowOf w 5 CC (fun _ => True) a (c :: r)) (hl : r.length ≤ 100000) :
    Calls Try.prog 64 #[.slice a (r.length + 1 : Nat) cap, .func (.func 65) #[] #[]] w fun e w' => e = .returned (.agg (CC (r.foldl Ck.better c))) ∧ Below w.heap.size w w' := by
  have HORD := Lib.hid (fun (p q : Int × Int) (W : World) => korder_any p q W)
  have hz := (zero_of_info Try.infoCo).1
  have HI := Lib.hid (fun (c : Int × Int) => show (Try.prog.info? 81).map (·.size) = some (CC c).size from (zero_of_info Try.infoCo).2)
  have HONE := Lib.hid (fun (c : Int × Int) => kinC.one c trivial)
  have HZS : Hid (∀ c c', (CC c).size = (CC c').size) := Lib.hid (fun _ _ => rfl)
  have HRES := Lib.hid (fun (C : Array Value) (W : World) (g : Nat) (h : W.heap[g]? = some (.cells C 81 (0, 0))) => h)
  obtain ⟨b, o, rfl, hb, -, -⟩ := hI.at (k := 0) (x := c) rfl
  have HROW : Hid (∀ W, Below w.heap.size w W → ∀ k x, (c :: r)[k]? = some x → W.rangeAt b (o + k * 5) (CC x).toList) := Lib.hid (fun W hW k x hk => (hI.below hW).range hk rfl)
  obtain ⟨n, hn⟩ : ∃ n, n = r.length + 1 := ⟨_, rfl⟩
  rw [← hn]
  obtain ⟨Z, hZ⟩ : ∃ Z, CC (0, 0) = Z := ⟨_, rfl⟩
  have HZZ : Hid (∀ c, Z.size = (CC c).size) := Lib.hid (fun c => by rw [← hZ]; rfl)
  rw [hZ] at hz
  obtain ⟨X0, hX0⟩ : ∃ X, CC c = X := ⟨_, rfl⟩
  have hr0 := HROW.out w (Below.refl _ _) 0 c rfl
  have hi0 := HI.out c
  have ho0 := HONE.out c
  have hs0 := HZZ.out c
  rw [hX0] at hr0 hi0 ho0 hs0
  have hr0' : ∀ W, Below w.heap.size w W → W.rangeAt b (o + 0 * 5) X0.toList := fun W hW => by rw [← hX0]; exact HROW.out W hW 0 c rfl
  have HR0 := Lib.hid hr0'
  have HI0 : Hid ((Try.prog.info? 81).map (·.size) = some X0.toList.length) := Lib.hid (by rw [Array.length_toList]; exact hi0)
  have HI0' := Lib.hid hi0
  have HO0 := Lib.hid ho0
  have HS0 := Lib.hid hs0
  obtain ⟨V1, hV1⟩ : ∃ V, (w.alloc (.cells Z 81)).alloc (.cells Z 81) = V := ⟨_, rfl⟩
  have hv0 : V1.heap[w.heap.size]? = some (.cells Z 81 (0, 0)) := by rw [← hV1]; exact heap_alloc2_old w _ _
  have hv1 : V1.heap[w.heap.size + 1]? = some (.cells Z 81 (0, 0)) := by rw [← hV1]; exact heap_alloc2_new w _ _
  have hbV : Below w.heap.size w V1 := by rw [← hV1]; exact ((Below.refl _ _).alloc (Nat.le_refl _) _).alloc (by simp) _
  obtain ⟨W1, hW1⟩ : ∃ W, V1.setRow (w.heap.size + 1) X0 = W := ⟨_, rfl⟩
  have hs1 : Only [w.heap.size + 1] V1 W1 := by rw [← hW1]; exact only_setRow _ _ _
  have hq0 : W1.heap[w.heap.size]? = some (.cells Z 81 (0, 0)) := hs1.get hv0 (by simp)
  have hq1 : W1.heap[w.heap.size + 1]? = some (.cells X0 81 (0, 0)) := by rw [← hW1]; exact setRow_heap _ _ _ _ _ _ hv1
  have hB1 : Below w.heap.size w W1 := hbV.trans (hs1.below (B := w.heap.size) (by simp) hbV.size)
  have hBz : Below w.heap.size w (w.alloc (.cells Z 81)) := (Below.refl _ _).alloc (Nat.le_refl _) _
  have HBZ := Lib.hid hBz
  have HQ0 := Lib.hid hq0
  have HQ1 := Lib.hid hq1
  have HB1 := Lib.hid hB1
  have HW1 := Lib.hid hW1
  have HX0 := Lib.hid hX0
  have hn1 : 1 ≤ n := by omega
  have hn2 : n ≤ 100001 := by omega
  have HN := Lib.hid hn
  have hsz : (w.alloc (.cells Z 81)).heap.size = w.heap.size + 1 := by simp
  have HSZ := Lib.hid hsz
  have HV1 := Lib.hid hV1
  have HVV := Lib.hid hv1
  clear hI hl hZ hX0 hr0 hr0' hi0 ho0 hs0 hW1 hq0 hq1 hB1 hn hsz hBz hV1 hv0 hv1 hbV hs1
  go_enter Try.func64, Try.ntmps64
  go_upto_region 4 with (first | (refine wpList_load_mid rfl 81 _ rfl b (o + 0 * 5) rfl X0.toList _ (HR0.out _ HBZ.out) Try.underlying81 rfl HI0.out ?_) | (rw [HV1.out]; refine wpList_store_row rfl 81 _ _ rfl (w.heap.size + 1) X0 rfl rfl 81 Z HVV.out HI0'.out HS0.out HO0.out ?_; rw [HW1.out]))
  rw [put_none]
  go_wp2
  go_loopw [6] (fun u wr => ∃ j : Nat, j + 1 ≤ n ∧ u = .int .i64 ((j + 1 : Nat) : Int) ∧ wr.heap[w.heap.size + 1]? = some (.cells (CC ((r.take j).foldl Ck.better c)) 81 (0, 0)) ∧ wr.heap[w.heap.size]? = some (.cells Z 81 (0, 0)) ∧ Below w.heap.size w wr) (fun u _ => n - (intOf u).toNat)
  case atStart => exact ⟨0, by omega, rfl, by rw [List.take_zero, List.foldl_nil, HX0.out]; exact HQ1.out, HQ0.out, HB1.out⟩
  case round =>
    obtain ⟨j, hj, rfl, hM, hR, hBr⟩ := hrel
    obtain ⟨k, hk⟩ : ∃ k, k = j + 1 := ⟨_, rfl⟩
    rw [← hk] at hj ⊢
    have hk1 : 1 ≤ k := by omega
    have HKJ := Lib.hid hk
    clear hk
    have zr : w.heap.size + 1 < wr.heap.size := (Array.getElem?_eq_some_iff.1 hM).1
    have HBR := Lib.hid hBr
    have HRR := Lib.hid hR
    obtain ⟨m, hm⟩ : ∃ m, (r.take j).foldl Ck.better c = m := ⟨_, rfl⟩
    rw [hm] at hM
    have him := HI.out m
    have hom := HONE.out m
    have hzm := HZS.out m
    have HMZ : Hid (∀ x, (CC m).size = (CC x).size) := Lib.hid (fun x => rfl)
    have hzm2 := HZZ.out m
    obtain ⟨M, hMM⟩ : ∃ M, CC m = M := ⟨_, rfl⟩
    rw [hMM] at hM him hom hzm2
    have HM := Lib.hid hM
    have HIM := Lib.hid him
    have HOM := Lib.hid hom
    have HZM := Lib.hid hzm2
    clear hBr hR him hom hzm hzm2
    by_cases hlt : k < n
    · obtain ⟨x, hx⟩ : ∃ x, r[j]? = some x := ⟨_, List.getElem?_eq_getElem (by have := HN.out; have := HKJ.out; omega)⟩
      have hx1 : (c :: r)[k]? = some x := by rw [HKJ.out]; simpa using hx
      have hg : ∀ W, Below wr.heap.size wr W → W.rangeAt b (o + k * 5) (CC x).toList := fun W hW => HROW.out W (HBR.out.trans (hW.mono HBR.out.size)) k x hx1
      have hstep : (r.take k).foldl Ck.better c = Ck.better m x := by
        rw [HKJ.out, List.take_add_one, hx, List.foldl_append, hm]
        rfl
      have hord := HORD.out x m
      have hix := HI.out x
      have hox := HONE.out x
      have hzx : M.size = (CC x).size := by rw [← hMM]; rfl
      obtain ⟨v, hv⟩ : ∃ v, Ck.ordC x m = v := ⟨_, rfl⟩
      have hbet : Ck.better m x = if 0 < v then x else m := by rw [← hv]; rfl
      rw [hv, hMM] at hord
      obtain ⟨X, hX⟩ : ∃ X, CC x = X := ⟨_, rfl⟩
      rw [hX] at hg hord hix hox hzx
      have HG := Lib.hid hg
      have HO := Lib.hid hord
      have HIX : Hid ((Try.prog.info? 81).map (·.size) = some X.toList.length) := Lib.hid (by rw [Array.length_toList]; exact hix)
      have HIX' := Lib.hid hix
      have HOX := Lib.hid hox
      have HZX := Lib.hid hzx
      have HST := Lib.hid hstep
      have HBT := Lib.hid hbet
      have HXX := Lib.hid hX
      have HMX := Lib.hid hMM
      clear hM hx hx1 hg hstep hord hix hox hzx hv hbet hX hMM hm
      go_upto_region 7 with (fail)
      refine wp_region_conf2 7 [Fact.eq (.func (.func 65) #[] #[]), Fact.eq (.slice (some ⟨b, o, none⟩) n cap), Fact.eq (.int .i64 (k : Nat)), Fact.eq (.pointer (some ⟨b, o + k * 5, none⟩)), Fact.eq (.agg X), Fact.eq (.agg M), Fact.eq (.int .i64 v)] ?rbA (by kernel_rfl) (by kernel_rfl) ?rbhA ?rbho ?rbhend
      case rbhA =>
        intro vv
        simp only [putRules, Nat.reduceAdd]
        rfl
      case rbho =>
        refine ⟨?_, ?_, ?_, ?_, ?_, ?_, ?_, trivial⟩
        · intro vv W K hB hd HK
          simp only [confRules] at HK
          clear hd
          go_wp2
          refine HK.out _ _ (Below.refl _ _) ?_
          rfl
        · intro vv W K hB hd HK
          simp only [confRules] at HK
          clear hd
          go_wp2
          refine HK.out _ _ (Below.refl _ _) ?_
          rfl
        · intro vv W K hB hd HK
          simp only [confRules] at HK
          clear hd
          go_wp2
          refine HK.out _ _ (Below.refl _ _) ?_
          rfl
        · intro vv W K hB hd HK
          simp only [confRules] at hd HK
          obtain ⟨h1, h2⟩ := hd
          simp only [h1, h2] at HK ⊢
          clear h1 h2
          go_wp2
          refine HK.out _ _ (Below.refl _ _) ?_
          rfl
        · intro vv W K hB hd HK
          simp only [confRules] at hd HK
          have h3 := hd
          clear hd
          simp only [h3] at HK ⊢
          clear h3
          have hT := HG.out W hB
          go_wp2_with (refine wpList_load_mid rfl 81 _ rfl b (o + k * 5) rfl X.toList _ hT Try.underlying81 rfl HIX.out ?_)
          refine HK.out _ _ (Below.refl _ _) ?_
          rfl
        · intro vv W K hB hd HK
          simp only [confRules] at HK
          clear hd
          have hT := (hB.block (w.heap.size + 1) zr).trans HM.out
          go_wp2_with (refine wpList_row_on (by rfl) 81 _ rfl (w.heap.size + 1) rfl 81 _ _ _ hT Try.underlying81 rfl HIM.out ?_)
          refine HK.out _ _ (Below.refl _ _) ?_
          rfl
        · intro vv W K hB hd HK
          simp only [confRules] at hd HK
          obtain ⟨h0, h4, h5⟩ := hd
          simp only [h0, h4, h5] at HK ⊢
          clear h0 h4 h5
          go_wp2_with (refine (HO.out _).mono ?_; rintro e w9 ⟨rfl, hB9⟩)
          refine HK.out _ _ hB9 ?_
          rfl
      case rbhend =>
        intro vv W hB hf
        have e6 := hf 6 (by decide)
        simp only [endRules] at e6
        simp only [e6, dropRules]
        clear hf e6
        have HBW := Lib.hid (HBR.out.trans (hB.mono HBR.out.size))
        have hMW := (hB.block (w.heap.size + 1) zr).trans HM.out
        have hRW := (hB.block w.heap.size (by omega)).trans HRR.out
        have HMW := Lib.hid hMW
        have HRW := Lib.hid hRW
        have HGW := Lib.hid (HG.out W hB)
        clear hB hMW hRW
        by_cases hv : 0 < v
        · have t1 : decide (0 < v) = true := decide_eq_true hv
          have hst := HST.out
          rw [HBT.out, if_pos hv] at hst
          have HST' := Lib.hid hst
          have hsR := only_setRow W (w.heap.size + 1) X
          have hMS : (W.setRow (w.heap.size + 1) X).heap[w.heap.size + 1]? = some (.cells X 81 (0, 0)) := setRow_heap _ _ _ _ _ _ HMW.out
          have hRS := hsR.get HRW.out (by simp)
          have hBS := HBW.out.trans (hsR.below (B := w.heap.size) (by simp) HBW.out.size)
          have hMS2 : (W.setRow (w.heap.size + 1) X).heap[w.heap.size + 1]? = some (.cells (CC ((r.take k).foldl Ck.better c)) 81 (0, 0)) := by rw [HST'.out, HXX.out]; exact hMS
          have HMS := Lib.hid hMS2
          have HRS := Lib.hid hRS
          have HBS := Lib.hid hBS
          clear hst hsR hMS hMS2 hRS hBS hv
          go_wp2_with (first | (refine wpList_load_mid rfl 81 _ rfl b (o + k * 5) rfl X.toList _ HGW.out Try.underlying81 rfl HIX.out ?_) | (refine wpList_store_row rfl 81 _ _ rfl (w.heap.size + 1) X rfl rfl 81 M HMW.out HIX'.out HZX.out HOX.out ?_))
          exact ⟨⟨k, by omega, by go_num, HMS.out, HRS.out, HBS.out⟩, by simp [intOf]; omega⟩
        · have t1 : decide (0 < v) = false := decide_eq_false hv
          have hst := HST.out
          rw [HBT.out, if_neg hv] at hst
          have HST' := Lib.hid hst
          clear hst hv
          go_wp2
          exact ⟨⟨k, by omega, by go_num, by rw [HST'.out, HMX.out]; exact HMW.out, HRW.out, HBW.out⟩, by simp [intOf]; omega⟩
    · have hjn : j = r.length := by have := HN.out; have := HKJ.out; omega
      have hm2 : (r.take j).foldl Ck.better c = r.foldl Ck.better c := by rw [hjn, List.take_length]
      have HMX := Lib.hid hMM
      have HFIN : Hid (r.foldl Ck.better c = m) := Lib.hid (by rw [← hm2, hm])
      clear hm hm2 hjn hM hMM
      have HS2 := Lib.hid (only_setRow wr w.heap.size M)
      have HR2 : Hid ((wr.setRow w.heap.size M).heap[w.heap.size]? = some (.cells M 81 (0, 0))) := Lib.hid (setRow_heap _ _ _ _ _ _ HRR.out)
      have HB2 := Lib.hid (HBR.out.trans (HS2.out.below (B := w.heap.size) (by simp) HBR.out.size))
      go_wp2_with (first | (refine wpList_row_on (by rfl) 81 _ rfl (w.heap.size + 1) rfl 81 _ _ _ HM.out Try.underlying81 rfl HIM.out ?_) | (refine wpList_store_row rfl 81 _ _ rfl w.heap.size M rfl rfl 81 Z HRR.out HIM.out HZM.out HOM.out ?_))
      refine bodyPost_ret (res_row rfl _ _ w.heap.size 81 M _ _ rfl HR2.out Try.underlying81 rfl HIM.out) rfl ?_
      refine ⟨?_, HB2.out⟩
      rw [HFIN.out, HMX.out]
end Go.Proofs.Ytjnneoejnpephaa
namespace Ck
/-- the copy that counts -/
def vote : List (Int × Int) → Int × Int
  | [] => (0, 0)
  | c :: r => r.foldl better c
end Ck
namespace Go.Proofs.Ytjnneoejnpephaa
open Go.RowKit Go.Rv
set_option linter.unusedVariables false
attribute [local go_sem] Oper.semAt_some
theorem built_coz : Try.prog.built 81 [] = some (CC (0, 0)) := by kernel_rfl
theorem coSize (c : Int × Int) : (Try.prog.info? 81).map (·.size) = some (CC c).size := (zero_of_info Try.infoCo).2
set_option maxRecDepth 100000 in
theorem kvote_nil (w : World) (a : Option Addr) (cap : Nat) : Calls Try.prog 36 #[.slice a 0 cap] w fun e w' => e = .returned (.tuple #[.agg (CC (0, 0)), .int .i64 15]) ∧ Below w.heap.size w w' := by
  have hzs := (zero_of_info Try.infoCo).1
  have HSI := Lib.hid (coSize (0, 0))
  have HS1 := Lib.hid (kinC.one (0, 0) trivial)
  have HBZ := Lib.hid built_coz
  have hB0 : Below w.heap.size w (w.alloc (.cells (CC (0, 0)) 81)) := (Below.refl _ _).alloc (Nat.le_refl _) _
  obtain ⟨Z, hZ⟩ : ∃ Z, CC (0, 0) = Z := ⟨_, rfl⟩
  rw [hZ] at hzs HSI HS1 HBZ hB0 ⊢
  clear hZ
  obtain ⟨W0, hW0⟩ : ∃ W0, w.alloc (.cells Z 81) = W0 := ⟨_, rfl⟩
  have hZ0 : W0.heap[w.heap.size]? = some (.cells Z 81 (0, 0)) := by rw [← hW0]; exact heap_alloc_new w _
  rw [hW0] at hB0
  have HB0 := Lib.hid hB0
  have HW0 := Lib.hid hW0
  clear hW0 hB0
  go_enter Try.func36, Try.ntmps36
  go_upto_region 1 with (fail)
  rw [HW0.out]
  go_upto_region 2 with (fail)
  go_wp2_with (first | (refine wpList_build_on (by rfl) 81 _ rfl #[] (by simp) Z HBZ.out ?_) | (refine wpList_store_row rfl 81 _ _ rfl w.heap.size Z rfl rfl 81 Z hZ0 HSI.out rfl HS1.out ?_))
  refine bodyPost_ret (res_row_tmp rfl _ _ w.heap.size 81 Z _ _ rfl (setRow_heap _ _ _ _ _ _ hZ0) Try.underlying81 rfl HSI.out) rfl ?_
  exact ⟨rfl, below_setRow HB0.out (Nat.le_refl _) _⟩
set_option maxRecDepth 100000 in
theorem kvote_cons (w : World) (a : Option Addr) (c : Int × Int) (r : List (Int × Int)) (cap : Nat) (hI : RowOf w 5 CC (fun _ => True) a (c :: r)) (hl : r.length ≤ 100000) : Calls Try.prog 36 #[.slice a (r.length + 1 : Nat) cap] w fun e w' => e = .returned (.tuple #[.agg (CC (r.foldl Ck.better c)), .int .i64 0]) ∧ Below w.heap.size w w' := by
  have hzs := (zero_of_info Try.infoCo).1
  have hB0 : Below w.heap.size w (w.alloc (.cells (CC (0, 0)) 81)) := (Below.refl _ _).alloc (Nat.le_refl _) _
  have hmax := kmax_any a c r cap (w.alloc (.cells (CC (0, 0)) 81)) (hI.below hB0) hl
  obtain ⟨n, hn⟩ : ∃ n, r.length + 1 = n := ⟨_, rfl⟩
  have hn1 : 1 ≤ n := by omega
  have HZX : Hid ((CC (0, 0)).size = (CC (r.foldl Ck.better c)).size) := Lib.hid rfl
  obtain ⟨X, hX⟩ : ∃ X, CC (r.foldl Ck.better c) = X := ⟨_, rfl⟩
  have HIX : Hid ((Try.prog.info? 81).map (·.size) = some X.size) := Lib.hid (by rw [← hX]; exact coSize _)
  have HOX : Hid (X.all (·.oneCell') = true) := Lib.hid (by rw [← hX]; exact kinC.one _ trivial)
  rw [hX] at hmax HZX ⊢
  rw [hn] at hmax ⊢
  obtain ⟨Z, hZ⟩ : ∃ Z, CC (0, 0) = Z := ⟨_, rfl⟩
  rw [hZ] at hzs hB0 hmax HZX
  clear hZ hX hn hI hl
  obtain ⟨W0, hW0⟩ : ∃ W0, w.alloc (.cells Z 81) = W0 := ⟨_, rfl⟩
  have hZ0 : W0.heap[w.heap.size]? = some (.cells Z 81 (0, 0)) := by rw [← hW0]; exact heap_alloc_new w _
  rw [hW0] at hB0 hmax
  have HB0 := Lib.hid hB0
  have HW0 := Lib.hid hW0
  have HMX := Lib.hid hmax
  have HZ0 := Lib.hid hZ0
  have zZ0 : w.heap.size < W0.heap.size := (Array.getElem?_eq_some_iff.1 hZ0).1
  clear hW0 hB0 hmax hZ0
  go_enter Try.func36, Try.ntmps36
  go_upto_region 1 with (fail)
  rw [HW0.out]
  go_wp2_with fail
  refine HMX.out.mono ?_
  rintro e1 w1 ⟨rfl, hB1⟩
  have hZ1 := (hB1.block w.heap.size zZ0).trans HZ0.out
  have HB1 := Lib.hid (HB0.out.trans (hB1.mono HB0.out.size))
  clear hB1
  go_wp2_with (refine wpList_store_row rfl 81 _ _ rfl w.heap.size X rfl rfl 81 Z hZ1 HIX.out HZX.out HOX.out ?_)
  refine bodyPost_ret (res_row_tmp rfl _ _ w.heap.size 81 X _ _ rfl (setRow_heap _ _ _ _ _ _ hZ1) Try.underlying81 rfl HIX.out) rfl ?_
  exact ⟨rfl, below_setRow HB1.out (Nat.le_refl _) _⟩
theorem built_sng (g : Int) : Try.prog.built 28 [(0, .int .i64 g)] = some #[.int .i64 g, .int .i64 0, .int .i64 0, .pointer none] := by kernel_rfl
theorem built_cog (z g : Int) : Try.prog.built 81 [(0, .int .i64 z), (1, .agg #[.int .i64 g, .int .i64 0, .int .i64 0, .pointer none])] = some (CC (z, g)) := by kernel_rfl
/-- a slice of two copies is made -/
theorem filled_co2 (x y : Int × Int) (ie : Array Value) (h0 : ie = CC (0, 0)) : Instr.fill (fun i => some (i * 5, 5)) ((Array.range (2 * 5)).map (ie[· % 5]!)) [(0, .agg (CC x)), (1, .agg (CC y))] = some (CC x ++ CC y) := by
  subst h0
  kernel_rfl
theorem wpList_slice2c {w : World} {ops : Array Oper} {rest : List Oper} {o : Oper} {a : Act} {Q : Exit → Act → World → Prop} (hg : o.guard = none) (x y : Operand) (ho : o.op = .buildSlice 79 2 #[(0, x), (1, y)]) (c d : Int × Int) (hx : a.eval x = .agg (CC c)) (hy : a.eval y = .agg (CC d))
    (h : wpList Try.prog ops Q rest (a.put o.dst (.slice (some ⟨w.heap.size, 0, none⟩) 2 2)) (w.alloc (.cells (CC c ++ CC d) 81))) : wpList Try.prog ops Q (o :: rest) a w := by
  have hi := Try.infoCo
  cases hie : Try.prog.info? 81 with
  | none => rw [hie] at hi; cases hi
  | some ie =>
    rw [hie, Option.map_some, Option.some.injEq, Prod.mk.injEq] at hi
    obtain ⟨hz, hs⟩ := hi
    refine wpList_buildSlice hg 79 81 2 #[(0, x), (1, y)] ho (CC c ++ CC d) ie (.agg (CC (0, 0))) Try.underlying79 hie hz (by rw [hs]; decide) (by rw [hs]; decide) ?_ h
    rw [hs]
    have h1 := filled_co2 c d _ rfl
    simp only [List.map_toArray, List.map_cons, List.map_nil, hx, hy]
    exact h1
theorem two_rowOf {w : World} {g : Nat} {c d : Int × Int} (h : w.heap[g]? = some (.cells (CC c ++ CC d) 81 (0, 0))) : RowOf w 5 CC (fun _ => True) (some ⟨g, 0, none⟩) [c, d] := by
  refine .inr ⟨g, 0, rfl, (Array.getElem?_eq_some_iff.1 h).1, fun k x hk => ⟨fun j hj => ?_, trivial⟩⟩
  rw [cell_of_row _ _ _ _ _ _ h]
  match k, hk with
  | 0, hk =>
    simp at hk
    subst hk
    rw [Nat.zero_mul, Nat.zero_add, Array.getElem?_append_left (by rw [cc_size]; exact hj)]
  | 1, hk =>
    simp at hk
    subst hk
    rw [Array.getElem?_append_right (by rw [cc_size]; omega), cc_size, show 0 + 1 * 5 + j - 5 = j by omega]
set_option maxRecDepth 100000 in
theorem ck_anchor (w : World) : Calls Try.prog 32 #[] w fun e w' => e = .returned (.bool true) ∧ Below w.heap.size w w' := by
  have B1 := Lib.hid (built_sng 3)
  have B2 := Lib.hid (built_sng 4)
  have B3 := Lib.hid (built_cog 1 3)
  have B4 := Lib.hid (built_cog 9 4)
  have hzs := (zero_of_info Try.infoCo).1
  obtain ⟨W0, hW0⟩ : ∃ W, w.alloc (.cells (CC (1, 3) ++ CC (9, 4)) 81) = W := ⟨_, rfl⟩
  have hB0 : Below w.heap.size w W0 := by rw [← hW0]; exact (Below.refl _ _).alloc (Nat.le_refl _) _
  have hr : RowOf W0 5 CC (fun _ => True) (some ⟨w.heap.size, 0, none⟩) [(1, 3), (9, 4)] := two_rowOf (by rw [← hW0]; exact heap_alloc_new w _)
  have hv := kvote_cons W0 (some ⟨w.heap.size, 0, none⟩) (1, 3) [(9, 4)] 2 hr (by simp)
  have hbest : List.foldl Ck.better (1, 3) [(9, 4)] = (9, 4) := by decide
  rw [hbest] at hv
  have HV := Lib.hid hv
  have HB0 := Lib.hid hB0
  have HW0 := Lib.hid hW0
  have HI := Lib.hid (coSize (9, 4))
  have HO := Lib.hid (kinC.one (9, 4) trivial)
  have HZ : Hid ((CC (0, 0)).size = (CC (9, 4)).size) := Lib.hid rfl
  have HC : Hid (∀ (W : World) (g : Nat), W.heap[g]? = some (.cells (CC (9, 4)) 81 (0, 0)) → W.cell? ⟨g, 0, none⟩ = some (.int .i64 9)) := Lib.hid (fun W g h => (cell_of_row _ _ _ _ _ _ h).trans rfl)
  clear hB0 hr hv hbest hW0
  go_enter Try.func32, Try.ntmps32
  go_wp2_with (first | (refine wpList_build_on (by rfl) 28 #[(0, .const (.int .i64 3))] rfl #[(0, .int .i64 3)] (by simp [Act.eval, Act.put]) _ B1.out ?_) | (refine wpList_build_on (by rfl) 28 #[(0, .const (.int .i64 4))] rfl #[(0, .int .i64 4)] (by simp [Act.eval, Act.put]) _ B2.out ?_) | (refine wpList_build_on (by rfl) 81 #[(0, .const (.int .i64 1)), (1, .tmp 4)] rfl #[(0, .int .i64 1), (1, .agg #[.int .i64 3, .int .i64 0, .int .i64 0, .pointer none])] (by simp [Act.eval, Act.put]) _ B3.out ?_) | (refine wpList_build_on (by rfl) 81 #[(0, .const (.int .i64 9)), (1, .tmp 6)] rfl #[(0, .int .i64 9), (1, .agg #[.int .i64 4, .int .i64 0, .int .i64 0, .pointer none])] (by simp [Act.eval, Act.put]) _ B4.out ?_) | (refine wpList_slice2c rfl (.tmp 5) (.tmp 7) rfl (1, 3) (9, 4) rfl rfl ?_; rw [HW0.out]))
  refine HV.out.mono ?_
  rintro e1 w1 ⟨rfl, hB1⟩
  have HB1 := Lib.hid (HB0.out.trans (hB1.mono HB0.out.size))
  obtain ⟨W2, hW2⟩ : ∃ W, w1.alloc (.cells (CC (9, 4)) 81) = W := ⟨_, rfl⟩
  have c0 := HC.out W2 w1.heap.size (by rw [← hW2]; exact heap_alloc_new w1 _)
  have HB2 : Hid (Below w.heap.size w W2) := Lib.hid (by rw [← hW2]; exact HB1.out.alloc HB1.out.size _)
  have HW2 := Lib.hid hW2
  clear hB1 hW2
  go_upto_region 2 with (refine wpList_store_row rfl 81 _ _ rfl w1.heap.size (CC (9, 4)) rfl rfl 81 (CC (0, 0)) (heap_alloc_new w1 _) HI.out HZ.out HO.out ?_; rw [World.setRow_alloc_new])
  rw [HW2.out]
  go_wp2
  go_ret
  exact ⟨rfl, HB2.out⟩
end Go.Proofs.Ytjnneoejnpephaa

namespace Go.Rv
open Go.RowKit
set_option linter.unusedVariables false
def fp8 (F : List Fact) (j : Nat) (u : Value) (w : World) : Prop := (F.getD j Fact.any).p u w
def Deps8 (ia : Nat) (F : List Fact) (v : Nat → Value) (w : World) : List Edge → Prop
  | [] => True
  | e :: r => (Region.binds .any e = true → cond (e.on == ia) True (fp8 F e.on (v e.on) w)) ∧ Deps8 ia F v w r
def Obl8 (P : Program) (ops : Array Oper) (Q : Exit → Act → World → Prop) (A : (Nat → Value) → Act) (w0 : World) (F : List Fact) (ia is : Nat) (Z X : Array Value) (t : TypeId) (i : Nat) (o : Oper) : Prop :=
  cond (i == ia) (∀ (v : Nat → Value) (w : World) (K : Act → World → Prop), Below w0.heap.size w0 w → Deps8 ia F v w o.after.toList →
      Hid (∀ g w', w0.heap.size ≤ g → Below w.heap.size w w' → w'.heap[g]? = some (.cells Z t (0, 0)) → K ((A v).put o.dst (.pointer (some ⟨g, 0, none⟩))) w') → wpList P ops (Exit.then K Q) [o] (A v) w)
    (cond (i == is) (∀ (v : Nat → Value) (w : World) (K : Act → World → Prop) (g : Nat), Below w0.heap.size w0 w → w0.heap.size ≤ g → w.heap[g]? = some (.cells Z t (0, 0)) → v ia = .pointer (some ⟨g, 0, none⟩) → Deps8 ia F v w o.after.toList →
      Hid (∀ u w', w' = w.setRow g X → fp8 F i u w' → K ((A v).put o.dst u) w') → wpList P ops (Exit.then K Q) [o] (A v) w)
    (∀ (v : Nat → Value) (w : World) (K : Act → World → Prop), Below w0.heap.size w0 w → Deps8 ia F v w o.after.toList →
        Hid (∀ u w', Below w.heap.size w w' → fp8 F i u w' → K ((A v).put o.dst u) w') → wpList P ops (Exit.then K Q) [o] (A v) w))
def Obls8 (P : Program) (ops : Array Oper) (Q : Exit → Act → World → Prop) (A : (Nat → Value) → Act) (w0 : World) (F : List Fact) (ia is : Nat) (Z X : Array Value) (t : TypeId) : Nat → List Oper → Prop
  | _, [] => True
  | i, o :: r => Obl8 P ops Q A w0 F ia is Z X t i o ∧ Obls8 P ops Q A w0 F ia is Z X t (i + 1) r
theorem Obls8.at {P : Program} {ops : Array Oper} {Q : Exit → Act → World → Prop} {A : (Nat → Value) → Act} {w0 : World} {F : List Fact} {ia is : Nat} {Z X : Array Value} {t : TypeId} : ∀ {k : Nat} {l : List Oper}, Obls8 P ops Q A w0 F ia is Z X t k l → ∀ {i : Nat} {o : Oper}, l[i]? = some o → Obl8 P ops Q A w0 F ia is Z X t (k + i) o
  | _, [], _, _, _, h => by simp at h
  | k, _ :: r, h, 0, _, ho => by simp at ho; subst ho; exact h.1
  | k, _ :: r, h, i + 1, _, ho => by
    have := Obls8.at h.2 (i := i) (by simpa using ho)
    rwa [show k + 1 + i = k + (i + 1) by omega] at this
theorem wp_region_conf8 {P : Program} {ops : Array Oper} {Q : Exit → Act → World → Prop} {a0 : Act} {w0 : World} {id : Nat} (n : Nat) (F : List Fact) (ia is : Nat) (Z X : Array Value) (t : TypeId) (A : (Nat → Value) → Act) (hm : P.follows .mixedOrders = true) (hok : confOk ops n = true) (hso : storeOk ops [] n ia is = true)
    (hA : ∀ v, putAll v 0 (ops.toList.take n) a0 = A v) (hFs : ∀ j u w g, j < n → w0.heap.size ≤ g → w.heap[g]? = some (.cells Z t (0, 0)) → fp8 F j u w → fp8 F j u (w.setRow g X)) (ho : Obls8 P ops Q A w0 F ia is Z X t 0 (ops.toList.take n))
    (hend : ∀ v w g, Below w0.heap.size w0 w → (∀ j, j < n → (j == ia) = false → fp8 F j (v j) w) → v ia = .pointer (some ⟨g, 0, none⟩) → w0.heap.size ≤ g → w.heap[g]? = some (.cells X t (0, 0)) → wpList P ops Q (ops.toList.drop n) (A v) w) : (Code.region id ops true).wp P Q a0 w0 := by
  simp only [storeOk, Bool.and_eq_true, decide_eq_true_eq, Bool.not_eq_true', beq_eq_false_iff_ne] at hso
  obtain ⟨⟨⟨⟨⟨hia, his⟩, hne⟩, -⟩, -⟩, hsd⟩ := hso
  refine wp_region_conf3 n (fun L v w => (∀ j, j < n → j ≠ ia → L.getD j false = true → fp8 F j (v j) w) ∧ Below w0.heap.size w0 w ∧ (L.getD is false = true → L.getD ia false = true) ∧ (L.getD ia false = true → ∃ g, v ia = .pointer (some ⟨g, 0, none⟩) ∧ w0.heap.size ≤ g ∧ w.heap[g]? = some (.cells (cond (L.getD is false) X Z) t (0, 0)))) A hm hok hA ?_ ?_ ?_
  · intro i o hin hoi L v w K hui hdep ⟨hv, hBw, hsa, hrow⟩ HK
    have hilt : i < L.size := by
      rcases Nat.lt_or_ge i L.size with h | h
      · exact h
      · simp [Array.getElem?_eq_none h] at hui
    have hif : L.getD i false = false := by simp [hilt] at hui ⊢; exact hui
    have hit : (L.setIfInBounds i true).getD i false = true := by simp [hilt]
    have hbk : edgesBack 0 ops.toList = true := by
      simp only [confOk, Bool.and_eq_true] at hok
      exact hok.1.1.1.1.2
    have hdv : ∀ l : List Edge, (∀ e ∈ l, e ∈ o.after) → Deps8 ia F v w l := by
      intro l
      induction l with
      | nil => intro _; exact trivial
      | cons e r ihl =>
        intro hl
        refine ⟨fun hb => ?_, ihl fun x hx => hl x (by simp [hx])⟩
        cases hea : e.on == ia
        · have := edgesBack_spec hbk (i := i) (o := o) (by simpa using hoi) e (hl e (by simp)) hb
          exact hv e.on (by omega) (by simpa using hea) (hdep e (hl e (by simp)) hb)
        · trivial
    have hdv := hdv o.after.toList (fun e he => by simpa using he)
    have ob := ho.at (i := i) (o := o) (by simp [hin, hoi])
    rw [Nat.zero_add] at ob
    have hv' : ∀ u w', (∀ j, j < n → fp8 F j (v j) w → fp8 F j (v j) w') → (i ≠ ia → fp8 F i u w') → ∀ j, j < n → j ≠ ia → (L.setIfInBounds i true).getD j false = true → fp8 F j (upd v i u j) w' := fun u w' hkeep hu j hj hja hl => by
      by_cases hji : j = i
      · subst hji
        rw [show upd v j u j = u by simp [upd]]
        exact hu hja
      · rw [show upd v i u j = v j by simp [upd, hji]]
        rw [getD_set_ne false (Ne.symm hji)] at hl
        exact hkeep j hj (hv j hj hja hl)
    have hbel : ∀ w', Below w.heap.size w w' → ∀ j, j < n → fp8 F j (v j) w → fp8 F j (v j) w' := fun w' hB j _ h => (F.getD j Fact.any).st _ _ _ h hB
    unfold Obl8 at ob
    cases hia' : i == ia
    · rw [hia'] at ob
      have hia2 : i ≠ ia := by simpa using hia'
      cases his' : i == is
      · rw [his'] at ob
        have his2 : i ≠ is := by simpa using his'
        simp only [cond_false] at ob
        refine ob v w K hBw hdv (Lib.hid fun u w' hB hu => HK.out u w' ⟨hv' u w' (hbel w' hB) (fun _ => hu), hBw.trans (hB.mono hBw.size), ?_, ?_⟩)
        · rw [getD_set_ne false his2, getD_set_ne false hia2]
          exact hsa
        · rw [getD_set_ne false his2, getD_set_ne false hia2]
          intro h
          obtain ⟨g, h1, h2, h3⟩ := hrow h
          exact ⟨g, by rw [show upd v i u ia = v ia by simp [upd, Ne.symm hia2]]; exact h1, h2, (hB.block g (Array.getElem?_eq_some_iff.1 h3).1).trans h3⟩
      · rw [his'] at ob
        have his2 : i = is := by simpa using his'
        subst his2
        simp only [cond_false, cond_true] at ob
        have hLa : L.getD ia false = true := by
          rw [hoi] at hsd
          obtain ⟨e, he, h3⟩ := Array.any_eq_true.1 hsd
          rw [Bool.and_eq_true, beq_iff_eq] at h3
          have := hdep _ (Array.getElem_mem he) h3.1
          rwa [h3.2] at this
        obtain ⟨g, h1, h2, h3⟩ := hrow hLa
        rw [hif] at h3
        refine ob v w K g hBw h2 h3 h1 hdv (Lib.hid fun u w' hw hu => ?_)
        subst hw
        refine HK.out u _ ⟨hv' u _ (fun j hj h => hFs j _ w g hj h2 h3 h) (fun _ => hu), below_setRow hBw h2 _, ?_, ?_⟩
        · intro _
          rw [getD_set_ne false hia2]
          exact hLa
        · intro _
          rw [hit]
          exact ⟨g, by rw [show upd v i u ia = v ia by simp [upd, Ne.symm hia2]]; exact h1, h2, setRow_heap w g Z X t _ h3⟩
    · rw [hia'] at ob
      have hia2 : i = ia := by simpa using hia'
      subst hia2
      simp only [cond_true] at ob
      have hLs : L.getD is false = false := by
        cases h : L.getD is false
        · rfl
        · have := hsa h
          rw [hif] at this
          cases this
      refine ob v w K hBw hdv (Lib.hid fun g w' hg hB hr => ?_)
      refine HK.out _ w' ⟨hv' _ w' (hbel w' hB) (fun h => absurd rfl h), hBw.trans (hB.mono hBw.size), ?_, ?_⟩
      · rw [getD_set_ne false hne, hLs]
        intro h
        cases h
      · intro _
        rw [getD_set_ne false hne, hLs]
        exact ⟨g, by simp [upd], hg, hr⟩
  · intro v
    exact ⟨fun j hj _ hl => (by rw [getD_replicate_false] at hl; cases hl), (Below.refl _ _).drew, fun hl => (by rw [getD_replicate_false] at hl; cases hl), fun hl => (by rw [getD_replicate_false] at hl; cases hl)⟩
  · intro v w ⟨hv, hBw, hsa, hrow⟩
    have hall : ∀ j, j < n → (headListed n (ops.size - n)).getD j false = true := fun j hj => by
      simp only [headListed]
      rw [Array.getD_eq_getD_getElem?, List.getElem?_toArray, List.getElem?_append_left (by simpa using hj)]
      simp [hj]
    obtain ⟨g, h1, h2, h3⟩ := hrow (hall ia hia)
    rw [hall is his] at h3
    exact hend v w g hBw (fun j hj hja => hv j hj (by simpa using hja) (hall j hj)) h1 h2 h3
theorem conf8Rules : (∀ (ia : Nat) (F : List Fact) (v : Nat → Value) (w : World), Deps8 ia F v w [] = True) ∧ (∀ (ia : Nat) (F : List Fact) (v : Nat → Value) (w : World) (e : Edge) (r : List Edge), Deps8 ia F v w (e :: r) = ((Region.binds .any e = true → cond (e.on == ia) True (fp8 F e.on (v e.on) w)) ∧ Deps8 ia F v w r)) ∧ (∀ (x : Fact) l u w, fp8 (x :: l) 0 u w = x.p u w) ∧ (∀ (x : Fact) l n u w, fp8 (x :: l) (n + 1) u w = fp8 l n u w) ∧ (∀ x u w, (Fact.eq x).p u w = (u = x)) :=
  ⟨fun _ _ _ _ => rfl, fun _ _ _ _ _ _ => rfl, fun _ _ _ _ => rfl, fun _ _ _ _ _ => rfl, fun _ _ _ => rfl⟩
end Go.Rv
namespace Go.Proofs.Ytjnneoejnpephaa
open Go.RowKit Go.Rv
set_option linter.unusedVariables false
set_option maxRecDepth 100000 in
theorem item13_of_fits {d : Nat} {w : World} {cs : List Value} (h : Fits Try.prog w (d + 3) 120 cs) : ∃ x : Int × BE, cs = (opC x).toList ∧ Op64 x := by
  obtain ⟨hl, hx⟩ := fits_struct (d := d + 2) Try.underlying120 h
  have k1 : Try.prog.cellsOf 3 = 1 := by kernel_rfl
  have k6 : Try.prog.cellsOf 46 = 6 := by kernel_rfl
  have k7 : Try.prog.cellsOf 120 = 7 := by kernel_rfl
  rw [k7] at hl
  simp only [List.forall_mem_cons, k1, k6] at hx
  obtain ⟨f0, f1, -⟩ := hx
  obtain ⟨n0, c0, w0⟩ := fits_int Try.underlying3 f0
  obtain ⟨e, c1, w1⟩ := ent_of_fits6 f1
  refine ⟨(n0, e), ?_, w0, w1⟩
  match cs, hl with
  | v :: r, hl =>
    simp at c0 c1 hl
    rw [List.take_of_length_le (by omega)] at c1
    rw [c0, c1]
    rfl
set_option maxRecDepth 100000 in
theorem items13_of_fits {w : World} {a : Option Addr} {len cap : Nat} (h : Fits Try.prog w 6 67 [.slice a len cap]) : ∃ xs : List (Int × BE), xs.length = len ∧ RowOf w 7 opC Op64 a xs ∧ len ≤ cap ∧ cap ≤ 9223372036854775807 ∧ (a = none → cap = 0) :=
  rowOf_of_fits (d := 5) 7 opC Op64 Try.underlying67 (by kernel_rfl) (by omega) (fun cs _ hf => item13_of_fits (d := 2) hf) h
end Go.Proofs.Ytjnneoejnpephaa
