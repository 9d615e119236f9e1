/- Proved here, one behind the other: Proved here: the contract of Bit: which bit of the bytes it answers, and that it writes nothing; Small laws, over any program: a row of numbers that are bits, and how long division turns it; Proved here: the contract of Divides: it tells whether the generator divides the bytes; Proved here: the contract of a sector's Xor; Proved here: the walk of the law on a copy of which a sector is spoilt, or some are missing. -/
import Derived.StillTailTactics
import Derived.Test.YtjnneoejnpephaaBa
import Derived.Test.YtjnneoejnpephaaBc
import Derived.Test.YtjnneoejnpephaaBn
import Derived.Test.YtjnneoejnpephaaBs
import Derived.Test.YtjnneoejnpephaaBt
import Derived.Test.YtjnneoejnpephaaBk
namespace Go.Proofs.Ytjnneoejnpephaa
open Go.RowKit Go.Rv
set_option linter.unusedVariables false
theorem half_pow (c n : Nat) : c / 2 ^ n / 2 = c / 2 ^ (n + 1) := by rw [Nat.div_div_eq_div_mul, Nat.pow_succ]
theorem half_lt {c : Nat} (n : Nat) (hc : c < 256) : c / 2 ^ n < 256 := Nat.lt_of_le_of_lt (Nat.div_le_self _ _) hc
set_option maxRecDepth 100000 in
set_option maxHeartbeats 400000 in
theorem bit_any (a : Option Addr) (l : List Nat) (cap i : Nat) (w : World) (hb : Bytes w a l) (hi : i < 8 * l.length) (hlen : l.length ≤ 1000) :
    Calls Try.prog 71 #[.slice a l.length cap, .int .i64 i] w fun e w' => e = .returned (.int .i64 ((Crc.bitOf l i).toNat : Nat)) ∧ w = w' := by
  obtain ⟨b, o, c, rfl, hbl, hc, hc8, hlk⟩ := hb.at (k := i / 8) (by omega)
  have hbit : (Crc.bitOf l i).toNat = c / 2 ^ (i % 8) % 2 := by
    unfold Crc.bitOf
    rw [List.getD_eq_getElem?_getD, hlk, Nat.toNat_testBit]
    rfl
  rw [hbit]
  clear hbit hlk hb
  go_enter Try.func71, Try.ntmps71
  go_wp2
  go_loopw [5, 6] (fun x k wr => ∃ n : Nat, n ≤ i % 8 ∧ k = .int .i64 n ∧ x = .int .i64 (c / 2 ^ n : Nat) ∧ wr = w) (fun _ k _ => 8 - (intOf k).toNat)
  case atStart => exact ⟨0, by omega, rfl, by simp, rfl⟩
  case round =>
    obtain ⟨n, hn, rfl, rfl, rfl⟩ := hrel
    have hx := half_lt n hc8
    have hp := Lib.hid (half_pow c n)
    generalize hq : c / 2 ^ n = x at *
    replace hq := Lib.hid hq
    by_cases hlt : n < i % 8
    · go_wp2
      go_roundw
      case rel =>
        refine ⟨n + 1, by omega, by go_num, ?_, by trivial⟩
        rw [← hp.out]
        simp
      case measure => simp [intOf]; omega
    · obtain rfl : n = i % 8 := by omega
      go_wp2
      go_ret
      refine ⟨?_, rfl⟩
      rw [hq.out]
      simp [Array.getD]
end Go.Proofs.Ytjnneoejnpephaa
namespace Crc
theorem flips_snoc (f : Nat → Bool) (i : Nat) (l : List Nat) (p : Nat) : flips f i (l ++ [p]) = flip1 (flips f i l) (i + 32 - p) := by
  induction l generalizing f with
  | nil => rfl
  | cons q l ih => exact ih _
theorem flips_take (f : Nat → Bool) (i k p : Nat) (h : powers[k]? = some p) : flips f i (powers.take (k + 1)) = flip1 (flips f i (powers.take k)) (i + 32 - p) := by
  obtain ⟨hk, rfl⟩ := List.getElem?_eq_some_iff.1 h
  rw [List.take_succ_eq_append_getElem hk, flips_snoc]
end Crc
namespace Go.Rv
/-- bits, as whole numbers -/
def pv (f : Nat → Bool) (n : Nat) : List Value := (List.range n).map fun i => .int .i64 ((f i).toNat : Nat)
theorem pv_len (f : Nat → Bool) (n : Nat) : (pv f n).length = n := by simp [pv]
theorem pv_at (f : Nat → Bool) {n i : Nat} (h : i < n) : (pv f n)[i]? = some (.int .i64 ((f i).toNat : Nat)) := by simp [pv, h]
theorem pv_succ (f : Nat → Bool) (n : Nat) : pv f n ++ [.int .i64 ((f n).toNat : Nat)] = pv f (n + 1) := by simp [pv, List.range_succ]
theorem pv_flip (f : Nat → Bool) (n p : Nat) : (pv f n).set p (.int .i64 ((!f p).toNat : Nat)) = pv (Crc.flip1 f p) n := by
  apply List.ext_getElem?
  intro i
  rw [List.getElem?_set]
  by_cases hi : i < n
  · rw [pv_at _ hi, pv_at _ hi, pv_len]
    by_cases hp : p = i
    · subst hp
      simp [hi, Crc.flip1]
    · have : ¬ i = p := fun e => hp e.symm
      simp [hp, this, Crc.flip1]
  · have h1 : ∀ g : Nat → Bool, (pv g n)[i]? = none := fun g => List.getElem?_eq_none (by rw [pv_len]; omega)
    rw [h1, h1, pv_len]
    by_cases hp : p = i
    · subst hp
      simp [hi]
    · simp [hp]
theorem pv_one (f : Nat → Bool) (n : Nat) : ∀ x ∈ pv f n, x.oneCell' = true := by
  intro x hx
  simp only [pv, List.mem_map] at hx
  obtain ⟨i, _, rfl⟩ := hx
  rfl
end Go.Rv
namespace Go.Proofs.Ytjnneoejnpephaa
open Go.RowKit Go.Rv
set_option linter.unusedVariables false
/-- the generator's powers, as the code lays them -/
def pws : Array Value := #[.int .i64 32, .int .i64 28, .int .i64 27, .int .i64 26, .int .i64 25, .int .i64 23, .int .i64 22, .int .i64 20, .int .i64 19, .int .i64 18, .int .i64 14, .int .i64 13, .int .i64 11, .int .i64 10, .int .i64 9, .int .i64 8, .int .i64 6, .int .i64 0]
theorem own_set {w : World} {e : TypeId} {base g cap n : Nat} {xs : List Value} (h : OwnV w e base (.slice (some ⟨g, 0, none⟩) n cap) xs) (hn : xs.length = n) (i : Nat) (x : Value) (hx : x.oneCell' = true) :
    OwnV (w.setCell ⟨g, i, none⟩ x) e base (.slice (some ⟨g, 0, none⟩) n cap) (xs.set i x) := by
  subst hn
  exact h.set i x hx
theorem divF_succ (f : Nat → Bool) (i : Nat) : Crc.divF f (i + 1) = if Crc.divF f i i then Crc.flips (Crc.divF f i) i Crc.powers else Crc.divF f i := rfl
theorem pws_at (k p : Nat) (h : Crc.powers[k]? = some p) : pws[k]? = some (.int .i64 (p : Nat)) := by
  have e : pws = (Crc.powers.map fun p => Value.int .i64 (p : Nat)).toArray := rfl
  rw [e]
  simp [h]
set_option maxRecDepth 100000 in
set_option maxHeartbeats 400000 in
theorem divides_any (a : Option Addr) (l : List Nat) (cap : Nat) (w : World) (hb : Bytes w a l) (hlen : l.length ≤ 1000) :
    Calls Try.prog 41 #[.slice a l.length cap] w fun e w' => e = .returned (.bool (decide (Crc.over 0 l = 0))) ∧ Below w.heap.size w w' := by
  go_enter Try.func41, Try.ntmps41
  go_wp2
  go_loopw [3, 4] (fun p i wr => ∃ k : Nat, k ≤ 8 * l.length ∧ i = .int .i64 k ∧ OwnV wr 3 w.heap.size p (pv (Crc.bitOf l) k) ∧ Below w.heap.size w wr) (fun _ i _ => 8 * l.length - (intOf i).toNat)
  case atStart => exact ⟨0, by omega, rfl, OwnV.nil _ _ _, Below.refl _ _⟩
  case round =>
    obtain ⟨k, hk, rfl, hp, hB⟩ := hrel
    have hb1 := hb.below hB
    by_cases hlt : k < 8 * l.length
    · have hpl := pv_len (Crc.bitOf l) k
      go_wp2_with (first | (go_at_call 71; refine (bit_any a l cap k _ hb1 hlt hlen).mono ?_; rintro e w1 ⟨rfl, rfl⟩) | (at_builtin; refine wpList_append_one rfl (.tmp 17) (.tmp 21) 59 rfl 3 (.int .i64 0) 8 (by rfl) (by rfl) rfl w.heap.size _ _ rfl (hp.below (Below.refl _ _ |>.alloc (Nat.le_refl _) _)) _ _ _ _ rfl (heap_alloc_new _ _) rfl (by rw [hpl]; simp [maxLen]; omega) (by rw [hpl]; omega) (by simp; exact Nat.le_trans hB.size (Nat.le_succ _)) ?_; intro v' w' hv hg))
      go_roundw
      case rel => exact ⟨k + 1, by omega, by go_num, by rw [← pv_succ]; exact hv, (hB.alloc hB.size _).trans ((hp.below ((Below.refl _ _).alloc (Nat.le_refl _) _)).grown hg (by simp; exact Nat.le_trans hB.size (Nat.le_succ _)))⟩
      case measure => simp [intOf]; omega
    · obtain rfl : k = 8 * l.length := by omega
      clear hlt hk
      obtain ⟨ap, cp, rfl, hnil, hpb⟩ := hp.shape
      have hg0 : ∀ x, ap = some x → x.block < wr.heap.size := fun x e => (hpb x e).2.1
      clear hpb hnil
      rw [pv_len] at hp
      rw [pv_len]
      have hN1 : 8 * l.length ≤ 8000 := by omega
      generalize hN : 8 * l.length = N at *
      go_wp2
      obtain ⟨wo, rfl⟩ : ∃ wo : World, wo = wr := ⟨_, rfl⟩
      go_loopw [6] (fun i ws => ∃ n : Nat, n ≤ N - 32 ∧ i = .int .i64 n ∧ OwnV ws 3 w.heap.size (.slice ap N cp) (pv (Crc.divF (Crc.bitOf l) n) N) ∧ Below w.heap.size w ws ∧ ws.heap[wo.heap.size]? = some (.cells pws 3 (0, 0))) (fun i _ => N - (intOf i).toNat)
      case atStart => exact ⟨0, by omega, rfl, hp.below ((Below.refl _ _).alloc (Nat.le_refl _) _), hB.alloc hB.size _, heap_alloc_new _ _⟩
      case round =>
        obtain ⟨n, hn, rfl, hq, hB2, hP⟩ := hrel
        by_cases hlt : n + 32 < N
        · obtain ⟨g, cap', hv, hbg, hgl, -, -, hcell, hfr⟩ := hq.open (by rw [pv_len]; omega)
          rw [pv_len] at hv
          cases hv
          have hgP : g < wo.heap.size := hg0 _ rfl
          have hc := hcell n _ (pv_at _ (by omega))
          have hds := Lib.hid (divF_succ (Crc.bitOf l) n)
          generalize Crc.divF (Crc.bitOf l) n = f at *
          cases hf : f n
          · rw [hf] at hc hds
            have hc : wr.cell? ⟨g, n, none⟩ = some (.int .i64 0) := hc
            have HF := Lib.hid hf
            clear hf
            go_wp2
            go_roundw
            case rel => exact ⟨n + 1, by omega, by go_num, by rw [hds.out]; exact hq, hB2, hP⟩
            case measure => simp [intOf]; omega
          · rw [hf] at hc hds
            have hc : wr.cell? ⟨g, n, none⟩ = some (.int .i64 1) := hc
            have HF := Lib.hid hf
            clear hf hcell hfr
            go_wp2
            obtain ⟨w2, rfl⟩ : ∃ w2 : World, w2 = wr := ⟨_, rfl⟩
            go_loopw [7] (fun k ws => ∃ j : Nat, j ≤ 18 ∧ k = .int .i64 j ∧ OwnV ws 3 w.heap.size (.slice (some ⟨g, 0, none⟩) N cp) (pv (Crc.flips f n (Crc.powers.take j)) N) ∧ Below w.heap.size w ws ∧ ws.heap[wo.heap.size]? = some (.cells pws 3 (0, 0))) (fun k _ => 18 - (intOf k).toNat)
            case atStart => exact ⟨0, by omega, rfl, hq, hB2, hP⟩
            case round =>
              obtain ⟨j, hj, rfl, hq3, hB3, hP3⟩ := hrel
              by_cases hlt3 : j < 18
              · have hpj : Crc.powers[j]? = some (Crc.powers[j]'hlt3) := List.getElem?_eq_getElem _
                have hp32 := Crc.powers_le _ (List.getElem_mem (l := Crc.powers) (n := j) hlt3)
                have hcp : wr.cell? ⟨wo.heap.size, j, none⟩ = some (.int .i64 ((Crc.powers[j]'hlt3 : Nat) : Int)) := by rw [cell_of_row _ _ _ _ _ _ hP3]; exact pws_at _ _ hpj
                have hft := Lib.hid (Crc.flips_take f n j _ hpj)
                generalize Crc.powers[j]'hlt3 = p at *
                obtain ⟨g', cap', hv, -, hgl3, -, -, hcell, hfr⟩ := hq3.open (by rw [pv_len]; omega)
                rw [pv_len] at hv
                cases hv
                have hc3 := hcell (n + 32 - p) _ (pv_at _ (by omega))
                have hfz := hfr (n + 32 - p)
                generalize Crc.flips f n (Crc.powers.take j) = fk at *
                have hset := fun x hx => Lib.hid (own_set hq3 (pv_len _ _) (n + 32 - p) x hx)
                have hHP := fun x => Lib.hid ((Below.heap_setCell wr ⟨g, n + 32 - p, none⟩ x wo.heap.size (by simp; omega)).trans hP3)
                have hpf := Lib.hid (pv_flip fk N (n + 32 - p))
                clear hcell hfr hpj
                cases hb3 : fk (n + 32 - p)
                · rw [hb3] at hc3 hpf
                  have hc3 : wr.cell? ⟨g, n + 32 - p, none⟩ = some (.int .i64 0) := hc3
                  clear hb3
                  go_wp2
                  go_roundw
                  case rel => exact ⟨j + 1, by omega, by go_num, by rw [hft.out, ← hpf.out]; exact (hset _ rfl).out, hB3.setCell (by exact hbg) _, (hHP _).out⟩
                  case measure => simp [intOf]; omega
                · rw [hb3] at hc3 hpf
                  have hc3 : wr.cell? ⟨g, n + 32 - p, none⟩ = some (.int .i64 1) := hc3
                  clear hb3
                  go_wp2
                  go_roundw
                  case rel => exact ⟨j + 1, by omega, by go_num, by rw [hft.out, ← hpf.out]; exact (hset _ rfl).out, hB3.setCell (by exact hbg) _, (hHP _).out⟩
                  case measure => simp [intOf]; omega
              · obtain rfl : j = 18 := by omega
                go_wp2
                go_roundw
                case rel => exact ⟨n + 1, by omega, by go_num, by rw [hds.out]; exact hq3, hB3, hP3⟩
                case measure => simp [intOf]; omega
        · obtain rfl : n = N - 32 := by omega
          have hiff := Crc.divides_iff (Crc.bitOf l) N
          have hov := Crc.over_runB l 0 hb.1
          rw [hN, ] at hov
          rw [← hov] at hiff
          have HI := Lib.hid hiff
          clear hiff hov
          generalize Crc.divF (Crc.bitOf l) (N - 32) = f at *
          obtain ⟨w2, rfl⟩ : ∃ w2 : World, w2 = wr := ⟨_, rfl⟩
          go_wp2
          go_loopw [9] (fun i ws => ∃ m : Nat, m ≤ N ∧ i = .int .i64 m ∧ (∀ j, j < m → f j = false) ∧ ws = w2) (fun i _ => N - (intOf i).toNat)
          case atStart => exact ⟨0, by omega, rfl, fun j hj => by omega, rfl⟩
          case round =>
            obtain ⟨m, hm, rfl, hz, rfl⟩ := hrel
            have HZ := Lib.hid hz
            clear hz
            by_cases hltm : m < N
            · obtain ⟨g', cap', hv, -, -, -, -, hcell, -⟩ := hq.open (by rw [pv_len]; omega)
              rw [pv_len] at hv
              cases hv
              have hc := hcell m _ (pv_at _ (by omega))
              clear hcell
              cases hf : f m
              · rw [hf] at hc
                have hc : wr.cell? ⟨g', m, none⟩ = some (.int .i64 0) := hc
                have HF := Lib.hid hf
                clear hf
                go_wp2
                go_roundw
                case rel => exact ⟨m + 1, by omega, by go_num, fun j hj => (by rcases Nat.lt_succ_iff_lt_or_eq.1 hj with h | rfl; exact HZ.out j h; exact HF.out), by trivial⟩
                case measure => simp [intOf]; omega
              · rw [hf] at hc
                have hc : wr.cell? ⟨g', m, none⟩ = some (.int .i64 1) := hc
                have HF := Lib.hid hf
                clear hf
                go_wp2
                go_ret
                refine ⟨?_, hB2⟩
                have e : decide (Crc.over 0 l = 0) = false := by
                  rw [decide_eq_false_iff_not, ← HI.out]
                  intro h
                  have := h m hltm
                  rw [HF.out] at this
                  cases this
                rw [e]
                rfl
            · obtain rfl : m = N := by omega
              go_wp2
              go_ret
              refine ⟨?_, hB2⟩
              have e : decide (Crc.over 0 l = 0) = true := by
                rw [decide_eq_true_eq, ← HI.out]
                exact HZ.out
              rw [e]
              rfl
end Go.Proofs.Ytjnneoejnpephaa
namespace Go.Proofs.Ytjnneoejnpephaa
open Go.RowKit Go.Rv Frm
set_option linter.unusedVariables false
set_option maxRecDepth 100000 in
set_option maxHeartbeats 1000000 in
theorem xor_any (l m : List Nat) (w : World) (hl : l.length = 64) (hm : m.length = 64) (bl : ∀ c ∈ l, c < 256) (bm : ∀ c ∈ m, c < 256) :
    Calls Try.prog 42 #[.agg (byteCells l), .agg (byteCells m)] w fun e w' => e = .returned (.agg (byteCells (Crc.xorTo l m 64))) ∧ Below w.heap.size w w' := by
  have hz := (zero_of_info Try.infoSector).1
  obtain ⟨hA0, hM0, hZ0⟩ := alloc3_at w (.cells (byteCells l) 77) (.cells (byteCells m) 77) (.cells (byteCells (List.replicate 64 0)) 77)
  have hB0 := below3 w (.cells (byteCells l) 77) (.cells (byteCells m) 77) (.cells (byteCells (List.replicate 64 0)) 77)
  obtain ⟨X, hX⟩ : ∃ X, Crc.xorTo l m 64 = X := ⟨_, rfl⟩
  have hXl : X.length = 64 := by rw [← hX, Crc.xorTo_length, hl]
  have HX := Lib.hid hX
  rw [hX]
  have HIX := Lib.hid (size_sec hXl)
  have H1X := Lib.hid (one_byteCells X)
  have HSZ := Lib.hid (show (byteCells (List.replicate 64 0)).size = (byteCells X).size by rw [size_byteCells, size_byteCells, hXl]; simp)
  obtain ⟨XA, hXA⟩ : ∃ XA, byteCells X = XA := ⟨_, rfl⟩
  have HXA := Lib.hid hXA
  rw [hXA] at HIX H1X HSZ
  rw [hXA]
  clear hX hXl hXA
  have HL := Lib.hid hl
  have HM := Lib.hid hm
  have BL := Lib.hid bl
  have BM := Lib.hid bm
  clear hl hm bl bm
  generalize byteCells (List.replicate 64 0) = ZS at *
  go_enter Try.func42, Try.ntmps42
  go_wp2_with fail
  go_loopw [6] (fun i wr => ∃ k : Nat, k ≤ 64 ∧ i = .int .i64 k ∧ wr.heap[w.heap.size]? = some (.cells (byteCells (Crc.xorTo l m k)) 77 (0, 0)) ∧ wr.heap[w.heap.size + 1]? = some (.cells (byteCells m) 77 (0, 0)) ∧ wr.heap[w.heap.size + 1 + 1]? = some (.cells ZS 77 (0, 0)) ∧ Below w.heap.size w wr) (fun i _ => 64 - (intOf i).toNat)
  case atStart => exact ⟨0, by omega, rfl, hA0, hM0, hZ0, hB0⟩
  case round =>
    obtain ⟨k, hk, rfl, hA, hM, hZ, hB⟩ := hrel
    clear hA0 hM0 hZ0 hB0
    by_cases hlt : k < 64
    · have hxl := Crc.xorTo_length l m k
      rw [HL.out] at hxl
      have hxb := Crc.xorTo_lt BL.out BM.out k
      have hx : wr.cell? ⟨w.heap.size, k, none⟩ = some (.int .u8 ((Crc.xorTo l m k).getD k 0 : Nat)) := (cell_of_row _ _ _ _ _ _ hA).trans (byteCells_at _ _ (by rw [hxl]; exact hlt))
      have hy : wr.cell? ⟨w.heap.size + 1, k, none⟩ = some (.int .u8 (m.getD k 0 : Nat)) := (cell_of_row _ _ _ _ _ _ hM).trans (byteCells_at _ _ (by rw [HM.out]; exact hlt))
      have hfz : wr.frozen? ⟨w.heap.size, k, none⟩ = false := frozen_of_row _ _ _ _ _ hA
      have hx8 := Crc.getD_lt hxb k
      have hy8 := Crc.getD_lt BM.out k
      have hst : (byteCells (Crc.xorTo l m k)).setIfInBounds k (.int .u8 (((Crc.xorTo l m k).getD k 0 ^^^ m.getD k 0 : Nat) : Int)) = byteCells (Crc.xorTo l m (k + 1)) := byteCells_set _ _ _
      have HST := Lib.hid hst
      clear hst
      generalize (Crc.xorTo l m k).getD k 0 = x at *
      generalize m.getD k 0 = y at *
      have hxy : bits .xor .u8 (x : Int) (y : Int) = ((x ^^^ y : Nat) : Int) := u8_xor_nat x y hx8 hy8
      generalize x ^^^ y = z at *
      have i0 : (0 : Int) ≤ (k : Int) := by omega
      have i1 : (k : Int) < 64 := by omega
      clear hxl hxb
      go_wp2
      go_still_tail 8, (by kernel_rfl)
      change wpList _ _ _ _ _ wr.drew
      have hA2 : wr.drew.heap[w.heap.size]? = some (.cells (byteCells (Crc.xorTo l m k)) 77 (0, 0)) := hA
      have hM2 : wr.drew.heap[w.heap.size + 1]? = some (.cells (byteCells m) 77 (0, 0)) := hM
      have hZ2 : wr.drew.heap[w.heap.size + 1 + 1]? = some (.cells ZS 77 (0, 0)) := hZ
      have hx2 : wr.drew.cell? ⟨w.heap.size, k, none⟩ = some (.int .u8 x) := hx
      have hf2 : wr.drew.frozen? ⟨w.heap.size, k, none⟩ = false := hfz
      have hB2 : Below w.heap.size w wr.drew := hB.drew
      clear hA hM hZ hx hy hfz hB
      generalize wr.drew = wd at *
      have HN := Lib.hid (show ((wd.setCell ⟨w.heap.size, k, none⟩ (.int .u8 (z : Nat))).heap[w.heap.size]? = some (.cells (byteCells (Crc.xorTo l m (k + 1))) 77 (0, 0)) ∧ (wd.setCell ⟨w.heap.size, k, none⟩ (.int .u8 (z : Nat))).heap[w.heap.size + 1]? = some (.cells (byteCells m) 77 (0, 0)) ∧ (wd.setCell ⟨w.heap.size, k, none⟩ (.int .u8 (z : Nat))).heap[w.heap.size + 1 + 1]? = some (.cells ZS 77 (0, 0)) ∧ Below w.heap.size w (wd.setCell ⟨w.heap.size, k, none⟩ (.int .u8 (z : Nat)))) from ⟨by rw [heap_setCell_same _ _ _ _ _ _ hA2, HST.out], (Below.heap_setCell wd _ _ (w.heap.size + 1) (by simp)).trans hM2, (Below.heap_setCell wd _ _ (w.heap.size + 1 + 1) (by simp; omega)).trans hZ2, hB2.setCell (p := ⟨w.heap.size, k, none⟩) (Nat.le_refl _) _⟩)
      clear hA2 hM2 hZ2 hB2
      go_wp2
      go_roundw
      case rel => exact ⟨k + 1, by omega, by go_num, HN.out.1, HN.out.2.1, HN.out.2.2.1, HN.out.2.2.2⟩
      case measure => simp [intOf]; omega
    · obtain rfl : k = 64 := by omega
      clear hlt
      rw [HX.out, HXA.out] at hA
      go_wp2_with (first | (refine wpList_load_row rfl 77 _ rfl w.heap.size rfl 77 _ _ _ hA Try.underlying77 rfl HIX.out ?_) | (refine wpList_store_row rfl 77 _ _ rfl (w.heap.size + 1 + 1) XA rfl rfl 77 ZS hZ HIX.out HSZ.out H1X.out ?_))
      refine bodyPost_ret (results_cell_row rfl _ _ (w.heap.size + 1 + 1) 77 XA _ _ rfl (setRow_heap _ _ _ _ _ _ hZ) Try.underlying77 rfl HIX.out) rfl ?_
      exact ⟨rfl, below_setRow hB (by omega) _⟩
end Go.Proofs.Ytjnneoejnpephaa
namespace Go.Proofs.Ytjnneoejnpephaa
open Go.RowKit Go.Rv Frm
set_option linter.unusedVariables false
attribute [local go_sem] Oper.semAt_some
theorem secs_take' (fs : List Fr) (k : Nat) : (Ck.secs fs).take k = Ck.secs (fs.take k) := by simp [Ck.secs, List.map_take]
theorem _root_.Go.Rv.RowOf.take' {α : Type} {w : World} {n : Nat} {X : α → Array Value} {Q : α → Prop} {a : Option Addr} {xs : List α} (h : RowOf w n X Q a xs) (q : Nat) : RowOf w n X Q a (xs.take q) := by
  rcases h with h | ⟨b, o, e, hb, hc⟩
  · exact .inl (by simp [h])
  · refine .inr ⟨b, o, e, hb, fun k x hk => hc k x ?_⟩
    rw [List.getElem?_take] at hk
    split at hk
    · exact hk
    · cases hk
set_option maxRecDepth 100000 in
set_option maxHeartbeats 32000000 in
theorem ck_spoilt_walk (w : World) (g : Geo.G) (a1 : Option Addr) (l1 : List (Int × BE)) (c1 : Nat) (gen epoch next at' cut : Int) (p : List Nat) (hah : Sec p) (hI1 : RowOf w 7 opC Op64 a1 l1) :
    Calls Try.prog 13 #[.agg (GC g), .slice a1 l1.length c1, .int .i64 gen, .int .i64 epoch, .int .i64 next, .int .i64 at', .agg (byteCells p), .int .i64 cut] w fun e w' => e = .returned (.bool true) ∧ Below w.heap.size w w' := by
  have HA := Lib.hid (fun W => ck_anchor W)
  have HGI := Lib.hid (gsize (g := g))
  have HMA : Hid (∀ W, Below w.heap.size w W → Calls Try.prog 33 #[.agg (GC g), .slice a1 l1.length c1, .int .i64 gen, .int .i64 epoch, .int .i64 next] W (MadePost13 W g l1 gen epoch next)) := Lib.hid (fun W hW => made13_any g a1 l1 c1 gen epoch next W (hI1.below hW))
  have HNW := Lib.hid (fun (W : World) => new_any W)
  have hzs := (zero_of_info Try.infoSnz).1
  have hzr := (zero_of_info Try.infoRS).1
  have hzt := (zero_of_info Try.infoTab).1
  have HIT := Lib.hid size_tab
  have HST := Lib.hid (show Tb.zero.size = Tb.tabV.size by rw [Tb.size_zero, Tb.size_tabV])
  have H1T := Lib.hid Tb.one_tabV
  have HKS := Lib.hid (fun (W : World) p le ll ce cl s h z => ksectors_any W p le ll ce cl s h z)
  have HKP := Lib.hid (fun (W : World) z a l cap h hl => kparse_any W z a l cap h hl)
  have HAH := Lib.hid hah
  have HIAH := Lib.hid (size_sec hah.1)
  have hSZI := Lib.hid (zero_of_info Try.infoSnz).2
  have hSZO : Hid (SZ.all (·.oneCell') = true) := Lib.hid (by simp [SZ, Value.oneCell'])
  have HXR := Lib.hid (fun (x : List Nat) (W : World) (h : Sec x) => xor_any x p W h.1 hah.1 h.2 hah.2)
  obtain ⟨D, hD⟩ : ∃ D : Bool, decide (Crc.over 0 p = 0) = D := ⟨_, rfl⟩
  have HDV : Hid (∀ (W : World), W.heap[w.heap.size + 1]? = some (.cells (byteCells p) 77 (0, 0)) → Calls Try.prog 41 #[.slice (some ⟨w.heap.size + 1, 0, none⟩) 64 64] W fun e w' => e = .returned (.bool D) ∧ Below W.heap.size W w') := Lib.hid (fun W h => by
    have := divides_any (some ⟨w.heap.size + 1, 0, none⟩) p 64 W (byteCells_row h hah.2) (by rw [hah.1]; omega)
    rwa [hah.1, hD] at this)
  have HD := Lib.hid hD
  have hal : Below w.heap.size w ((w.alloc (.cells (GC g) 23)).alloc (.cells (byteCells p) 77)) := ((Below.refl _ _).alloc (Nat.le_refl _) _).alloc (by simp) _
  have hnew := heap_alloc2_old w (.cells (GC g) 23) (.cells (byteCells p) 77)
  have hnew2 := heap_alloc2_new w (.cells (GC g) 23) (.cells (byteCells p) 77)
  clear hI1 hah hD
  obtain ⟨TV, hTV⟩ : ∃ T, Tb.tabV = T := ⟨_, rfl⟩
  rw [hTV] at HIT HST H1T HNW HKS HKP
  obtain ⟨TZ, hTZ⟩ : ∃ T, Tb.zero = T := ⟨_, rfl⟩
  rw [hTZ] at hzt HST
  obtain ⟨GX, hGX⟩ : ∃ GX, GC g = GX := ⟨_, rfl⟩
  rw [hGX] at HGI HMA hal hnew hnew2 ⊢
  obtain ⟨AH, hAH⟩ : ∃ A, byteCells p = A := ⟨_, rfl⟩
  rw [hAH] at HIAH HDV HXR hal hnew hnew2 ⊢
  clear hGX hTV hTZ hAH
  obtain ⟨W00, hW00⟩ : ∃ W, (w.alloc (.cells GX 23)).alloc (.cells AH 77) = W := ⟨_, rfl⟩
  rw [hW00] at hal hnew hnew2
  have zw1 : w.heap.size + 1 < W00.heap.size := (Array.getElem?_eq_some_iff.1 hnew2).1
  have HW00 := Lib.hid hW00
  clear hW00
  go_enter Try.func13, Try.ntmps13
  go_upto_region 1 with (fail)
  rw [HW00.out]
  go_wp2_with fail
  refine (HA.out _).mono ?_
  rintro e w0 ⟨rfl, hB0⟩
  have HG0 := Lib.hid ((hB0.block w.heap.size (by omega)).trans hnew)
  have HQXw0 := Lib.hid ((hB0.block (w.heap.size + 1) (by omega)).trans hnew2)
  have HB0 := Lib.hid (hal.trans (hB0.mono hal.size))
  have zw0 : w.heap.size < w0.heap.size := (Array.getElem?_eq_some_iff.1 HG0.out).1
  have zx0 : w.heap.size + 1 < w0.heap.size := (Array.getElem?_eq_some_iff.1 HQXw0.out).1
  clear hal hnew hnew2 hB0
  go_wp2_with (refine wpList_row_on (by rfl) 23 _ rfl w.heap.size rfl 23 _ _ _ HG0.out Try.underlying23 rfl HGI.out ?_)
  refine (HMA.out _ HB0.out).mono ?_
  rintro eaA waA ⟨SA, TA, okA, rfl, ⟨i1, i2, i3⟩, ⟨j1, j2, j3⟩, hBA, hcA⟩
  have HIA := Lib.hid i1
  have HOA := Lib.hid i2
  have HZA := Lib.hid i3
  have HJA := Lib.hid j1
  have HPA := Lib.hid j2
  have HYA := Lib.hid j3
  have HCA := Lib.hid hcA
  have zbA := hBA.size
  obtain ⟨VA, hVA⟩ : ∃ V, (waA.alloc (.cells SZ 28)).alloc (.cells RZ 32) = V := ⟨_, rfl⟩
  have hvA : VA.heap[waA.heap.size]? = some (.cells SZ 28 (0, 0)) := by rw [← hVA]; exact heap_alloc2_old _ _ _
  have huA : VA.heap[waA.heap.size + 1]? = some (.cells RZ 32 (0, 0)) := by rw [← hVA]; exact heap_alloc2_new _ _ _
  have hbA : Below waA.heap.size waA VA := by rw [← hVA]; exact ((Below.refl _ _).alloc (Nat.le_refl _) _).alloc (by simp) _
  obtain ⟨UA, hUA⟩ : ∃ U, VA.setRow waA.heap.size SA = U := ⟨_, rfl⟩
  have hsA : Only [waA.heap.size] VA UA := by rw [← hUA]; exact only_setRow _ _ _
  have hrA : UA.heap[waA.heap.size]? = some (.cells SA 28 (0, 0)) := by rw [← hUA]; exact setRow_heap _ _ _ _ _ _ hvA
  have hqA := hsA.get huA (by simp)
  obtain ⟨WA, hWA⟩ : ∃ W, UA.setRow (waA.heap.size + 1) TA = W := ⟨_, rfl⟩
  have htA : Only [waA.heap.size + 1] UA WA := by rw [← hWA]; exact only_setRow _ _ _
  have HQAwA := Lib.hid (htA.get hrA (by simp))
  have HTTA : Hid (WA.heap[waA.heap.size + 1]? = some (.cells TA 32 (0, 0))) := Lib.hid (by rw [← hWA]; exact setRow_heap _ _ _ _ _ _ hqA)
  have hxA : Below waA.heap.size waA WA := hbA.trans ((hsA.below (B := waA.heap.size) (by simp) hbA.size).trans (htA.below (B := waA.heap.size) (by simp) (by have := hsA.size; have := hbA.size; omega)))
  have hyA := hBA.trans (hxA.mono zbA)
  have HGA := Lib.hid ((hyA.block w.heap.size (by omega)).trans HG0.out)
  have HBA := Lib.hid (HB0.out.trans (hyA.mono HB0.out.size))
  have HXA := Lib.hid hxA
  have HYYA := Lib.hid hyA
  have HVA := Lib.hid hVA
  have HUA := Lib.hid hUA
  have HWA := Lib.hid hWA
  have HH1A := Lib.hid hvA
  have HH2A := Lib.hid hqA
  have zzA : waA.heap.size + 1 < WA.heap.size := (Array.getElem?_eq_some_iff.1 HTTA.out).1
  have HQXwA := Lib.hid ((hyA.block (w.heap.size + 1) (by omega)).trans HQXw0.out)
  clear i1 i2 i3 j1 j2 j3 hBA hcA hVA hvA huA hbA hUA hsA hrA hqA hWA htA hxA hyA
  go_upto_region 4 with (first | (rw [show (waA.alloc (.cells SZ 28)).alloc (.cells RZ 32) = VA from HVA.out]; refine wpList_store_row rfl 28 _ _ rfl waA.heap.size SA rfl rfl 28 SZ HH1A.out HIA.out HZA.out HOA.out ?_; rw [HUA.out]) | (refine wpList_store_row rfl 32 _ _ rfl (waA.heap.size + 1) TA rfl rfl 32 RZ HH2A.out HJA.out HYA.out HPA.out ?_; rw [HWA.out]))
  have hca := HCA.out
  rcases hca with rfl | ⟨rfl, hgr, hla, hra, pa, lea, lla, va, hSA, -, hsa, -, qa1, qa2, qa3⟩
  · go_wp2
    go_ret
    exact ⟨rfl, HBA.out⟩
  obtain ⟨sa, hsaE⟩ : ∃ sa, Sn.made g l1 gen epoch next = sa := ⟨_, rfl⟩
  have hag : sa.g = g := by rw [← hsaE]; rfl
  rw [hsaE] at hSA hsa hra
  have HSA := Lib.hid (hsa.below HXA.out)
  have hok : sa.ok 0 = true := Sn.ok_zero hsa.hg hra
  have hsm := ((Geo.right_iff _).1 hgr).1
  obtain ⟨LA, hLA⟩ : ∃ L, Ck.secs (sa.frames 0) = L := ⟨_, rfl⟩
  have hfa : Ck.secs (sa.fr 0) = LA := by rw [← hLA]; unfold Sn.S.fr; rw [if_pos hok]
  have hea : sa.er 0 = 0 := by unfold Sn.S.er; rw [if_pos hok]
  obtain ⟨m, hm⟩ : ∃ m, Sn.nParts g = m := ⟨_, rfl⟩
  have hlA : LA.length = m := by rw [← hLA, Ck.secs, List.length_map, Sn.S.frames_length sa ((Geo.right_iff _).1 hsa.hg).1, hag, hm]
  have HKA : Hid (∀ W, SnIs W pa lea lla g.b.toNat (nz g) sa → Calls Try.prog 35 #[.agg TV, .agg SA, .int .i64 0] W fun e w' => ∃ v, e = .returned (.tuple #[v, .int .i64 0]) ∧ OwnM w' 77 64 byteCells Sec W.heap.size v LA ∧ Below W.heap.size W w') := Lib.hid (fun W h => by
    have := HKS.out W _ _ _ _ _ sa h 0
    rw [hea, hfa] at this
    rw [hSA]
    exact this)
  have HLA := Lib.hid hlA
  have hm64 : m ≤ 64 := by rw [← hm]; exact Sn.nParts_64 hgr
  have hm2 : 2 ≤ m := by rw [← hm]; exact (Sn.nParts_two hsm).1
  have HCUT : Hid (∀ k, k < m → Ck.parseS 0 (LA.take k) = none) := Lib.hid (fun k hk => by rw [← hLA]; exact Ck.parse_cut hsa.hg hok (by rw [hag, hm]; exact hk))
  have HSPO : Hid (∀ k x, LA[k]? = some x → D = false → Ck.parseS 0 (LA.set k (Crc.xorTo x p 64)) = none) := Lib.hid (fun k x hx hd => by
    rw [← hLA] at hx ⊢
    exact Ck.parse_spoilt hsa.hg hok p HAH.out.1 HAH.out.2 (by have := HD.out; rw [hd] at this; simpa using this) hx)
  have HSEC : Hid (∀ x, Sec x → Sec (Crc.xorTo x p 64)) := Lib.hid (fun x h => ⟨by rw [Crc.xorTo_length, h.1], Crc.xorTo_lt h.2 HAH.out.2 64⟩)
  clear hgr hla hra hSA hsa hok hfa hea hlA hag hsaE hLA hm hsm
  go_wp2_with fail
  refine (HNW.out _).mono ?_
  rintro e5 w5 ⟨rfl, hB5⟩
  have z5 := hB5.size
  obtain ⟨W6, hW6⟩ : ∃ W, w5.alloc (.cells TV 71) = W := ⟨_, rfl⟩
  have hb6 : Below w5.heap.size w5 W6 := by rw [← hW6]; exact (Below.refl _ _).alloc (Nat.le_refl _) _
  have hT6 : W6.heap[w5.heap.size]? = some (.cells TV 71 (0, 0)) := by rw [← hW6]; exact heap_alloc_new w5 _
  have zT6 : w5.heap.size < W6.heap.size := (Array.getElem?_eq_some_iff.1 hT6).1
  have hb := hB5.trans (hb6.mono z5)
  have HT6 := Lib.hid hT6
  have HSA6 := Lib.hid (HSA.out.below hb)
  have HQA6 := Lib.hid ((hb.block waA.heap.size (by omega)).trans HQAwA.out)
  have HQX6 := Lib.hid ((hb.block (w.heap.size + 1) (by omega)).trans HQXwA.out)
  have HB6 := Lib.hid (HBA.out.trans (hb.mono HBA.out.size))
  have HW6 := Lib.hid hW6
  clear hB5 hW6 hb6 hT6 hb
  go_upto_region 7 with (refine wpList_store_row rfl 71 _ _ rfl w5.heap.size TV rfl rfl 71 TZ (heap_alloc_new w5 _) HIT.out HST.out H1T.out ?_; rw [World.setRow_alloc_new])
  rw [HW6.out, put_none]
  go_wp2_with (first | (refine wpList_load_row rfl 71 _ rfl w5.heap.size rfl 71 _ _ _ HT6.out Try.underlying71 rfl HIT.out ?_) | (refine wpList_load_row rfl 28 _ rfl waA.heap.size rfl 28 _ _ _ HQA6.out Try.underlying28 rfl HIA.out ?_))
  refine (HKA.out _ HSA6.out).mono ?_
  rintro e7 w7 ⟨v7, rfl, ho7, hB7⟩
  have z7 := hB7.size
  have HT7 := Lib.hid ((hB7.block w5.heap.size zT6).trans HT6.out)
  have HQX7 := Lib.hid ((hB7.block (w.heap.size + 1) (by omega)).trans HQX6.out)
  have HB7 := Lib.hid (HB6.out.trans (hB7.mono HB6.out.size))
  obtain ⟨aA, cA, rfl, hrA, -, hcA, -, -⟩ := ho7.shape kinB
  obtain ⟨x0, hx0⟩ : ∃ x, LA[0]? = some x := ⟨_, List.getElem?_eq_getElem (by rw [HLA.out]; omega)⟩
  obtain ⟨bA, oA, rfl, -, -, -⟩ := hrA.at hx0
  obtain ⟨rfl, hbA, -⟩ := ho7.there (show 0 < LA.length by rw [HLA.out]; omega)
  rw [HLA.out] at hcA ho7 ⊢
  have HO7 := Lib.hid ho7
  clear hB7 ho7 hrA hx0
  have HPR : Hid (∀ W a c (l : List (List Nat)), l.length ≤ 1000 → RowOf W 64 byteCells Sec a l → Ck.parseS 0 l = none → Calls Try.prog 38 #[.agg TV, .int .i64 0, .slice a l.length c] W fun e w' => e = .returned (.tuple #[.agg SZ, .int .i64 10]) ∧ Below W.heap.size W w') := Lib.hid (fun W a c l hl h hn => by
    refine (HKP.out W 0 a l c h hl).mono ?_
    rintro e w' ⟨hB, ⟨s, p, le, ll, ce, cl, hs, -⟩ | ⟨-, he⟩⟩
    · rw [hn] at hs; cases hs
    · exact ⟨he, hB⟩)
  by_cases hc1 : 0 ≤ cut
  rotate_left
  · have t1 : decide (0 ≤ cut) = false := decide_eq_false hc1
    clear hc1
    go_upto_region 14 with (fail)
    have HTx := HT7
    have HQx := HQX7
    have HOx := HO7
    have HBx := HB7
    have zx : w7.heap.size ≤ w7.heap.size := Nat.le_refl _
    clear t1
    by_cases h1 : at' < 0
    · have t1 : decide (at' < 0) = true := decide_eq_true h1
      clear h1
      go_wp2
      go_ret
      exact ⟨rfl, HBx.out⟩
    obtain ⟨k, rfl⟩ := Int.eq_ofNat_of_zero_le (show 0 ≤ at' by omega)
    clear h1
    have t0 : decide ((k : Int) < 0) = false := decide_eq_false (by omega)
    by_cases h2 : k < m
    rotate_left
    · have t2 : decide (m ≤ k) = true := decide_eq_true (by omega)
      have t2' : decide ((m : Int) ≤ (k : Int)) = true := decide_eq_true (by omega)
      clear h2
      go_wp2
      go_ret
      exact ⟨rfl, HBx.out⟩
    have t2 : decide (m ≤ k) = false := decide_eq_false (by omega)
    have t2' : decide ((m : Int) ≤ (k : Int)) = false := decide_eq_false (by omega)
    have HH2 := Lib.hid h2
    clear h2
    go_wp2_with fail
    refine (HDV.out _ HQx.out).mono ?_
    rintro e8 w8 ⟨rfl, hB8⟩
    have z8 := hB8.size
    have HT8 := Lib.hid ((hB8.block w5.heap.size (by omega)).trans HTx.out)
    have HQ8 := Lib.hid ((hB8.block (w.heap.size + 1) (by omega)).trans HQx.out)
    have HO8 := Lib.hid (HOx.out.below hB8)
    have HB8 := Lib.hid (HBx.out.trans (hB8.mono HBx.out.size))
    clear hB8
    cases D
    rotate_left
    · go_wp2
      go_ret
      exact ⟨rfl, HB8.out⟩
    obtain ⟨x, hx⟩ : ∃ x, LA[k]? = some x := ⟨_, List.getElem?_eq_getElem (by rw [HLA.out]; exact HH2.out)⟩
    have hrow8 : ∀ W, Below w8.heap.size w8 W → OwnM W 77 64 byteCells Sec W6.heap.size (.slice (some ⟨bA, 0, none⟩) LA.length cA) LA := fun W hW => by rw [HLA.out]; exact HO8.out.below hW
    have hrr : ∀ W, Below w8.heap.size w8 W → RowOf W 64 byteCells Sec (some ⟨bA, 0, none⟩) LA := fun W hW => by
      obtain ⟨a6, c6, e6, hr6, -⟩ := (hrow8 W hW).shape kinB
      cases e6
      exact hr6
    obtain ⟨-, -, -, -, -, hsx⟩ := (hrr w8 (Below.refl _ _)).at hx
    have hgx : ∀ W, Below w8.heap.size w8 W → W.rangeAt bA (k * 64) (byteCells x).toList := fun W hW => by
      have := (hrr W hW).range hx (by rw [size_byteCells, hsx.1])
      rwa [Nat.zero_add] at this
    have hix : (Try.prog.info? 77).map (·.size) = some (byteCells x).toList.length := by rw [Array.length_toList]; exact size_sec hsx.1
    have hxr := fun W => HXR.out x W hsx
    have hno := HSPO.out k x hx rfl
    have hsy := HSEC.out x hsx
    obtain ⟨y, hy⟩ : ∃ y, Crc.xorTo x p 64 = y := ⟨_, rfl⟩
    rw [hy] at hxr hno hsy
    have hth : ∀ W, Below w8.heap.size w8 W → W.there bA (k * 64) (byteCells y).size := fun W hW => by
      have := ((hrow8 W hW).there (show k < LA.length by rw [HLA.out]; exact HH2.out)).2.2
      rwa [show (byteCells y).size = 64 by rw [size_byteCells, hsy.1]]
    have hset : ∀ W, Below w8.heap.size w8 W → RowOf (W.setCells bA (k * 64) (byteCells y).toList) 64 byteCells Sec (some ⟨bA, 0, none⟩) (LA.set k y) := fun W hW => by
      have h3 := (hrr W hW).store (k := k) (y := y) (by rw [HLA.out]; exact HH2.out) (by rw [size_byteCells, hsy.1]) hsy (by rw [Nat.zero_add]; exact ((hrow8 W hW).there (show k < LA.length by rw [HLA.out]; exact HH2.out)).2.2)
      rwa [Nat.zero_add] at h3
    have hls : (LA.set k y).length = m := by rw [List.length_set, HLA.out]
    have HPX : Hid (∀ W, RowOf W 64 byteCells Sec (some ⟨bA, 0, none⟩) (LA.set k y) → Calls Try.prog 38 #[.agg TV, .int .i64 0, .slice (some ⟨bA, 0, none⟩) m cA] W fun e w' => e = .returned (.tuple #[.agg SZ, .int .i64 10]) ∧ Below W.heap.size W w') := Lib.hid (fun W h => by
      have := HPR.out W (some ⟨bA, 0, none⟩) cA (LA.set k y) (by rw [hls]; omega) h hno
      rwa [hls] at this)
    have hiy := size_sec hsy.1
    have hoy := one_byteCells y
    obtain ⟨XL, hXL⟩ : ∃ XL, (byteCells x).toList = XL := ⟨_, rfl⟩
    have hXC : byteCells x = XL.toArray := by rw [← hXL]
    rw [hXL] at hgx hix
    rw [hXC] at hxr
    obtain ⟨YB, hYB⟩ : ∃ Y, byteCells y = Y := ⟨_, rfl⟩
    rw [hYB] at hxr hth hset hiy hoy
    have HGX := Lib.hid hgx
    have HIX := Lib.hid hix
    have HXRX := Lib.hid hxr
    have HTH := Lib.hid hth
    have HSET := Lib.hid hset
    have HIY := Lib.hid hiy
    have HOY := Lib.hid hoy
    clear hx hrow8 hrr hsx hgx hix hxr hno hsy hy hth hset hls hiy hoy hXL hXC hYB
    go_upto_region 16 with (fail)
    clear t0 t2 t2'
    refine wp_region_conf2 9 [Fact.eq (.slice (some ⟨bA, 0, none⟩) m cA), Fact.eq (.int .i64 (k : Nat)), Fact.eq (.slice (some ⟨bA, 0, none⟩) m cA), Fact.eq (.int .i64 (k : Nat)), Fact.eq (.pointer (some ⟨bA, k * 64, none⟩)), Fact.eq (.agg XL.toArray), Fact.eq (.agg AH), Fact.eq (.agg YB), Fact.eq (.pointer (some ⟨bA, k * 64, none⟩))] ?reA (by kernel_rfl) (by kernel_rfl) ?rehA ?reho ?rehend
    case rehA =>
      intro vv
      simp only [putRules, Nat.reduceAdd]
      rfl
    case reho =>
      refine ⟨?_, ?_, ?_, ?_, ?_, ?_, ?_, ?_, ?_, trivial⟩
      · intro vv W K hB hd HK
        simp only [confRules] at HK
        clear hd
        go_wp2
        refine HK.out _ _ (Below.refl _ _) ?_
        rfl
      · intro vv W K hB hd HK
        simp only [confRules] at HK
        clear hd
        go_wp2
        refine HK.out _ _ (Below.refl _ _) ?_
        rfl
      · intro vv W K hB hd HK
        simp only [confRules] at HK
        clear hd
        go_wp2
        refine HK.out _ _ (Below.refl _ _) ?_
        rfl
      · intro vv W K hB hd HK
        simp only [confRules] at HK
        clear hd
        go_wp2
        refine HK.out _ _ (Below.refl _ _) ?_
        rfl
      · intro vv W K hB hd HK
        simp only [confRules] at hd HK
        obtain ⟨h2, h3⟩ := hd
        simp only [h2, h3] at HK ⊢
        clear h2 h3
        go_wp2
        refine HK.out _ _ (Below.refl _ _) ?_
        rfl
      · intro vv W K hB hd HK
        simp only [confRules] at hd HK
        have h4 := hd
        clear hd
        simp only [h4] at HK ⊢
        clear h4
        have hT := HGX.out _ hB
        go_wp2_with (refine wpList_load_mid rfl 77 _ rfl bA (k * 64) rfl XL _ hT Try.underlying77 rfl HIX.out ?_)
        refine HK.out _ _ (Below.refl _ _) ?_
        rfl
      · intro vv W K hB hd HK
        simp only [confRules] at HK
        clear hd
        have hT := (hB.block (w.heap.size + 1) (by omega)).trans HQ8.out
        go_wp2_with (refine wpList_load_row rfl 77 _ rfl (w.heap.size + 1) rfl 77 _ _ _ hT Try.underlying77 rfl HIAH.out ?_)
        refine HK.out _ _ (Below.refl _ _) ?_
        rfl
      · intro vv W K hB hd HK
        simp only [confRules] at hd HK
        obtain ⟨h5, h6⟩ := hd
        simp only [h5, h6] at HK ⊢
        clear h5 h6
        go_wp2_with (refine (HXRX.out _).mono ?_; rintro e w9 ⟨rfl, hB9⟩)
        refine HK.out _ _ hB9 ?_
        rfl
      · intro vv W K hB hd HK
        simp only [confRules] at hd HK
        obtain ⟨h0, h1, _, _, h2, h3, h4, h5, h6, h7⟩ := hd
        simp only [h0, h1, h2, h3, h4, h5, h6, h7] at HK ⊢
        clear h0 h1 h2 h3 h4 h5 h6 h7
        go_wp2
        refine HK.out _ _ (Below.refl _ _) ?_
        rfl
    case rehend =>
      intro vv W hB hf
      have e7 := hf 7 (by decide)
      have e8 := hf 8 (by decide)
      simp only [endRules] at e7 e8
      simp only [e7, e8, dropRules]
      clear hf e7 e8
      have HTHW := Lib.hid (HTH.out _ hB)
      have HSETW := Lib.hid (HSET.out _ hB)
      have HTW := Lib.hid ((hB.block w5.heap.size (by omega)).trans HT8.out)
      have HBW := Lib.hid (HB8.out.trans (hB.mono HB8.out.size))
      have zW := hB.size
      obtain ⟨W9, hW9⟩ : ∃ W', W.setCells bA (k * 64) YB.toList = W' := ⟨_, rfl⟩
      have hO9 : Only [bA] W W9 := by rw [← hW9]; exact Only.of_setCells bA _ _ _
      rw [hW9] at HSETW
      have HT9 := Lib.hid (hO9.get HTW.out (by simp; omega))
      have HB9 := Lib.hid (HBW.out.trans (hO9.below (B := w.heap.size) (by simp; omega) HBW.out.size))
      have HW9 := Lib.hid hW9
      clear hB hO9 hW9
      go_upto_region 17 with (refine wpList_store_mid rfl 77 _ _ rfl bA (k * 64) YB rfl rfl HTHW.out HIY.out HOY.out ?_; rw [HW9.out])
      try rw [put_none]
      go_wp2_with (refine wpList_load_row rfl 71 _ rfl w5.heap.size rfl 71 _ _ _ HT9.out Try.underlying71 rfl HIT.out ?_)
      refine (HPX.out _ HSETW.out).mono ?_
      rintro e10 w10 ⟨rfl, hB10⟩
      have HB10 := Lib.hid ((HB9.out.trans (hB10.mono HB9.out.size)).alloc (HB9.out.trans (hB10.mono HB9.out.size)).size (.cells SZ 28))
      clear hB10
      go_wp2_with (refine wpList_store_row rfl 28 _ _ rfl w10.heap.size SZ rfl rfl 28 SZ (heap_alloc_new w10 _) hSZI.out rfl hSZO.out ?_; rw [World.setRow_alloc_new])
      go_ret
      exact ⟨rfl, HB10.out⟩
  obtain ⟨q, rfl⟩ := Int.eq_ofNat_of_zero_le hc1
  have u0 : decide ((0 : Int) ≤ (q : Int)) = true := decide_eq_true (by omega)
  clear hc1
  by_cases hc2 : q < m
  rotate_left
  · have u1 : decide (q < m) = false := decide_eq_false hc2
    have u2 : decide ((q : Int) < (m : Int)) = false := decide_eq_false (by omega)
    clear hc2
    go_upto_region 14 with (fail)
    have HTx := HT7
    have HQx := HQX7
    have HOx := HO7
    have HBx := HB7
    have zx : w7.heap.size ≤ w7.heap.size := Nat.le_refl _
    clear u0 u1 u2
    by_cases h1 : at' < 0
    · have t1 : decide (at' < 0) = true := decide_eq_true h1
      clear h1
      go_wp2
      go_ret
      exact ⟨rfl, HBx.out⟩
    obtain ⟨k, rfl⟩ := Int.eq_ofNat_of_zero_le (show 0 ≤ at' by omega)
    clear h1
    have t0 : decide ((k : Int) < 0) = false := decide_eq_false (by omega)
    by_cases h2 : k < m
    rotate_left
    · have t2 : decide (m ≤ k) = true := decide_eq_true (by omega)
      have t2' : decide ((m : Int) ≤ (k : Int)) = true := decide_eq_true (by omega)
      clear h2
      go_wp2
      go_ret
      exact ⟨rfl, HBx.out⟩
    have t2 : decide (m ≤ k) = false := decide_eq_false (by omega)
    have t2' : decide ((m : Int) ≤ (k : Int)) = false := decide_eq_false (by omega)
    have HH2 := Lib.hid h2
    clear h2
    go_wp2_with fail
    refine (HDV.out _ HQx.out).mono ?_
    rintro e8 w8 ⟨rfl, hB8⟩
    have z8 := hB8.size
    have HT8 := Lib.hid ((hB8.block w5.heap.size (by omega)).trans HTx.out)
    have HQ8 := Lib.hid ((hB8.block (w.heap.size + 1) (by omega)).trans HQx.out)
    have HO8 := Lib.hid (HOx.out.below hB8)
    have HB8 := Lib.hid (HBx.out.trans (hB8.mono HBx.out.size))
    clear hB8
    cases D
    rotate_left
    · go_wp2
      go_ret
      exact ⟨rfl, HB8.out⟩
    obtain ⟨x, hx⟩ : ∃ x, LA[k]? = some x := ⟨_, List.getElem?_eq_getElem (by rw [HLA.out]; exact HH2.out)⟩
    have hrow8 : ∀ W, Below w8.heap.size w8 W → OwnM W 77 64 byteCells Sec W6.heap.size (.slice (some ⟨bA, 0, none⟩) LA.length cA) LA := fun W hW => by rw [HLA.out]; exact HO8.out.below hW
    have hrr : ∀ W, Below w8.heap.size w8 W → RowOf W 64 byteCells Sec (some ⟨bA, 0, none⟩) LA := fun W hW => by
      obtain ⟨a6, c6, e6, hr6, -⟩ := (hrow8 W hW).shape kinB
      cases e6
      exact hr6
    obtain ⟨-, -, -, -, -, hsx⟩ := (hrr w8 (Below.refl _ _)).at hx
    have hgx : ∀ W, Below w8.heap.size w8 W → W.rangeAt bA (k * 64) (byteCells x).toList := fun W hW => by
      have := (hrr W hW).range hx (by rw [size_byteCells, hsx.1])
      rwa [Nat.zero_add] at this
    have hix : (Try.prog.info? 77).map (·.size) = some (byteCells x).toList.length := by rw [Array.length_toList]; exact size_sec hsx.1
    have hxr := fun W => HXR.out x W hsx
    have hno := HSPO.out k x hx rfl
    have hsy := HSEC.out x hsx
    obtain ⟨y, hy⟩ : ∃ y, Crc.xorTo x p 64 = y := ⟨_, rfl⟩
    rw [hy] at hxr hno hsy
    have hth : ∀ W, Below w8.heap.size w8 W → W.there bA (k * 64) (byteCells y).size := fun W hW => by
      have := ((hrow8 W hW).there (show k < LA.length by rw [HLA.out]; exact HH2.out)).2.2
      rwa [show (byteCells y).size = 64 by rw [size_byteCells, hsy.1]]
    have hset : ∀ W, Below w8.heap.size w8 W → RowOf (W.setCells bA (k * 64) (byteCells y).toList) 64 byteCells Sec (some ⟨bA, 0, none⟩) (LA.set k y) := fun W hW => by
      have h3 := (hrr W hW).store (k := k) (y := y) (by rw [HLA.out]; exact HH2.out) (by rw [size_byteCells, hsy.1]) hsy (by rw [Nat.zero_add]; exact ((hrow8 W hW).there (show k < LA.length by rw [HLA.out]; exact HH2.out)).2.2)
      rwa [Nat.zero_add] at h3
    have hls : (LA.set k y).length = m := by rw [List.length_set, HLA.out]
    have HPX : Hid (∀ W, RowOf W 64 byteCells Sec (some ⟨bA, 0, none⟩) (LA.set k y) → Calls Try.prog 38 #[.agg TV, .int .i64 0, .slice (some ⟨bA, 0, none⟩) m cA] W fun e w' => e = .returned (.tuple #[.agg SZ, .int .i64 10]) ∧ Below W.heap.size W w') := Lib.hid (fun W h => by
      have := HPR.out W (some ⟨bA, 0, none⟩) cA (LA.set k y) (by rw [hls]; omega) h hno
      rwa [hls] at this)
    have hiy := size_sec hsy.1
    have hoy := one_byteCells y
    obtain ⟨XL, hXL⟩ : ∃ XL, (byteCells x).toList = XL := ⟨_, rfl⟩
    have hXC : byteCells x = XL.toArray := by rw [← hXL]
    rw [hXL] at hgx hix
    rw [hXC] at hxr
    obtain ⟨YB, hYB⟩ : ∃ Y, byteCells y = Y := ⟨_, rfl⟩
    rw [hYB] at hxr hth hset hiy hoy
    have HGX := Lib.hid hgx
    have HIX := Lib.hid hix
    have HXRX := Lib.hid hxr
    have HTH := Lib.hid hth
    have HSET := Lib.hid hset
    have HIY := Lib.hid hiy
    have HOY := Lib.hid hoy
    clear hx hrow8 hrr hsx hgx hix hxr hno hsy hy hth hset hls hiy hoy hXL hXC hYB
    go_upto_region 16 with (fail)
    clear t0 t2 t2'
    refine wp_region_conf2 9 [Fact.eq (.slice (some ⟨bA, 0, none⟩) m cA), Fact.eq (.int .i64 (k : Nat)), Fact.eq (.slice (some ⟨bA, 0, none⟩) m cA), Fact.eq (.int .i64 (k : Nat)), Fact.eq (.pointer (some ⟨bA, k * 64, none⟩)), Fact.eq (.agg XL.toArray), Fact.eq (.agg AH), Fact.eq (.agg YB), Fact.eq (.pointer (some ⟨bA, k * 64, none⟩))] ?rfA (by kernel_rfl) (by kernel_rfl) ?rfhA ?rfho ?rfhend
    case rfhA =>
      intro vv
      simp only [putRules, Nat.reduceAdd]
      rfl
    case rfho =>
      refine ⟨?_, ?_, ?_, ?_, ?_, ?_, ?_, ?_, ?_, trivial⟩
      · intro vv W K hB hd HK
        simp only [confRules] at HK
        clear hd
        go_wp2
        refine HK.out _ _ (Below.refl _ _) ?_
        rfl
      · intro vv W K hB hd HK
        simp only [confRules] at HK
        clear hd
        go_wp2
        refine HK.out _ _ (Below.refl _ _) ?_
        rfl
      · intro vv W K hB hd HK
        simp only [confRules] at HK
        clear hd
        go_wp2
        refine HK.out _ _ (Below.refl _ _) ?_
        rfl
      · intro vv W K hB hd HK
        simp only [confRules] at HK
        clear hd
        go_wp2
        refine HK.out _ _ (Below.refl _ _) ?_
        rfl
      · intro vv W K hB hd HK
        simp only [confRules] at hd HK
        obtain ⟨h2, h3⟩ := hd
        simp only [h2, h3] at HK ⊢
        clear h2 h3
        go_wp2
        refine HK.out _ _ (Below.refl _ _) ?_
        rfl
      · intro vv W K hB hd HK
        simp only [confRules] at hd HK
        have h4 := hd
        clear hd
        simp only [h4] at HK ⊢
        clear h4
        have hT := HGX.out _ hB
        go_wp2_with (refine wpList_load_mid rfl 77 _ rfl bA (k * 64) rfl XL _ hT Try.underlying77 rfl HIX.out ?_)
        refine HK.out _ _ (Below.refl _ _) ?_
        rfl
      · intro vv W K hB hd HK
        simp only [confRules] at HK
        clear hd
        have hT := (hB.block (w.heap.size + 1) (by omega)).trans HQ8.out
        go_wp2_with (refine wpList_load_row rfl 77 _ rfl (w.heap.size + 1) rfl 77 _ _ _ hT Try.underlying77 rfl HIAH.out ?_)
        refine HK.out _ _ (Below.refl _ _) ?_
        rfl
      · intro vv W K hB hd HK
        simp only [confRules] at hd HK
        obtain ⟨h5, h6⟩ := hd
        simp only [h5, h6] at HK ⊢
        clear h5 h6
        go_wp2_with (refine (HXRX.out _).mono ?_; rintro e w9 ⟨rfl, hB9⟩)
        refine HK.out _ _ hB9 ?_
        rfl
      · intro vv W K hB hd HK
        simp only [confRules] at hd HK
        obtain ⟨h0, h1, _, _, h2, h3, h4, h5, h6, h7⟩ := hd
        simp only [h0, h1, h2, h3, h4, h5, h6, h7] at HK ⊢
        clear h0 h1 h2 h3 h4 h5 h6 h7
        go_wp2
        refine HK.out _ _ (Below.refl _ _) ?_
        rfl
    case rfhend =>
      intro vv W hB hf
      have e7 := hf 7 (by decide)
      have e8 := hf 8 (by decide)
      simp only [endRules] at e7 e8
      simp only [e7, e8, dropRules]
      clear hf e7 e8
      have HTHW := Lib.hid (HTH.out _ hB)
      have HSETW := Lib.hid (HSET.out _ hB)
      have HTW := Lib.hid ((hB.block w5.heap.size (by omega)).trans HT8.out)
      have HBW := Lib.hid (HB8.out.trans (hB.mono HB8.out.size))
      have zW := hB.size
      obtain ⟨W9, hW9⟩ : ∃ W', W.setCells bA (k * 64) YB.toList = W' := ⟨_, rfl⟩
      have hO9 : Only [bA] W W9 := by rw [← hW9]; exact Only.of_setCells bA _ _ _
      rw [hW9] at HSETW
      have HT9 := Lib.hid (hO9.get HTW.out (by simp; omega))
      have HB9 := Lib.hid (HBW.out.trans (hO9.below (B := w.heap.size) (by simp; omega) HBW.out.size))
      have HW9 := Lib.hid hW9
      clear hB hO9 hW9
      go_upto_region 17 with (refine wpList_store_mid rfl 77 _ _ rfl bA (k * 64) YB rfl rfl HTHW.out HIY.out HOY.out ?_; rw [HW9.out])
      try rw [put_none]
      go_wp2_with (refine wpList_load_row rfl 71 _ rfl w5.heap.size rfl 71 _ _ _ HT9.out Try.underlying71 rfl HIT.out ?_)
      refine (HPX.out _ HSETW.out).mono ?_
      rintro e10 w10 ⟨rfl, hB10⟩
      have HB10 := Lib.hid ((HB9.out.trans (hB10.mono HB9.out.size)).alloc (HB9.out.trans (hB10.mono HB9.out.size)).size (.cells SZ 28))
      clear hB10
      go_wp2_with (refine wpList_store_row rfl 28 _ _ rfl w10.heap.size SZ rfl rfl 28 SZ (heap_alloc_new w10 _) hSZI.out rfl hSZO.out ?_; rw [World.setRow_alloc_new])
      go_ret
      exact ⟨rfl, HB10.out⟩
  have HPQ : Hid (∀ W, Below w7.heap.size w7 W → Calls Try.prog 38 #[.agg TV, .int .i64 0, .slice (some ⟨bA, 0, none⟩) q cA] W fun e w' => e = .returned (.tuple #[.agg SZ, .int .i64 10]) ∧ Below W.heap.size W w') := Lib.hid (fun W hW => by
    have h1 : (LA.take q).length = q := by rw [List.length_take, HLA.out]; omega
    have hr : RowOf W 64 byteCells Sec (some ⟨bA, 0, none⟩) LA := by
      have h2 := HO7.out.below hW
      rw [← HLA.out] at h2
      obtain ⟨a6, c6, e6, hr6, -⟩ := h2.shape kinB
      cases e6
      exact hr6
    have := HPR.out W (some ⟨bA, 0, none⟩) cA (LA.take q) (by omega) (hr.take' q) (HCUT.out q hc2)
    rwa [h1] at this)
  have hqc : q ≤ cA := by omega
  have u1 : decide (q < m) = true := decide_eq_true hc2
  have u2 : decide ((q : Int) < (m : Int)) = true := decide_eq_true (by omega)
  clear hc2
  go_upto_region 11 with (fail)
  clear u0 u1 u2
  refine wp_region_conf8 10 [Fact.eq (.agg TV), Fact.eq (.slice (some ⟨bA, 0, none⟩) m cA), Fact.eq (.int .i64 (q : Nat)), Fact.eq (.slice (some ⟨bA, 0, none⟩) q cA), Fact.eq (.tuple #[.agg SZ, .int .i64 10]), Fact.eq (.tuple #[.agg SZ, .int .i64 10]), Fact.eq (.agg SZ), Fact.eq (.int .i64 10), Fact.eq undef, Fact.eq undef] 8 9 SZ SZ 28 ?rcA (by kernel_rfl) (by kernel_rfl) (by kernel_rfl) ?rchA ?rchs ?rcho ?rchend
  case rchA =>
    intro vv
    simp only [putRules, Nat.reduceAdd]
    rfl
  case rchs =>
    intro j u W g hj hg hr hp
    match j, hj with
    | 0, _ => exact hp
    | 1, _ => exact hp
    | 2, _ => exact hp
    | 3, _ => exact hp
    | 4, _ => exact hp
    | 5, _ => exact hp
    | 6, _ => exact hp
    | 7, _ => exact hp
    | 8, _ => exact hp
    | 9, _ => exact hp
  case rcho =>
    refine ⟨?_, ?_, ?_, ?_, ?_, ?_, ?_, ?_, ?_, ?_, trivial⟩
    · intro vv W K hB hd HK
      simp only [confRules, conf8Rules, cond7] at HK
      clear hd
      have hT := (hB.block w5.heap.size (by omega)).trans HT7.out
      go_wp2_with (refine wpList_load_row rfl 71 _ rfl w5.heap.size rfl 71 _ _ _ hT Try.underlying71 rfl HIT.out ?_)
      refine HK.out _ _ (Below.refl _ _) ?_
      rfl
    · intro vv W K hB hd HK
      simp only [confRules, conf8Rules, cond7] at HK
      clear hd
      go_wp2
      refine HK.out _ _ (Below.refl _ _) ?_
      rfl
    · intro vv W K hB hd HK
      simp only [confRules, conf8Rules, cond7] at HK
      clear hd
      go_wp2
      refine HK.out _ _ (Below.refl _ _) ?_
      rfl
    · intro vv W K hB hd HK
      simp only [confRules, conf8Rules, cond7] at hd HK
      obtain ⟨h1, h2⟩ := hd
      simp only [h1, h2] at HK ⊢
      clear h1 h2
      go_wp2
      refine HK.out _ _ (Below.refl _ _) ?_
      rfl
    · intro vv W K hB hd HK
      simp only [confRules, conf8Rules, cond7] at hd HK
      obtain ⟨h0, h3⟩ := hd
      simp only [h0, h3] at HK ⊢
      clear h0 h3
      go_wp2_with (refine (HPQ.out _ hB).mono ?_; rintro e w9 ⟨rfl, hB9⟩)
      refine HK.out _ _ hB9 ?_
      rfl
    · intro vv W K hB hd HK
      simp only [confRules, conf8Rules, cond7] at hd HK
      have h4 := hd
      clear hd
      simp only [h4] at HK ⊢
      clear h4
      go_wp2
      refine HK.out _ _ (Below.refl _ _) ?_
      rfl
    · intro vv W K hB hd HK
      simp only [confRules, conf8Rules, cond7] at hd HK
      have h5 := hd
      clear hd
      simp only [h5] at HK ⊢
      clear h5
      go_wp2
      refine HK.out _ _ (Below.refl _ _) ?_
      rfl
    · intro vv W K hB hd HK
      simp only [confRules, conf8Rules, cond7] at hd HK
      have h5 := hd
      clear hd
      simp only [h5] at HK ⊢
      clear h5
      go_wp2
      refine HK.out _ _ (Below.refl _ _) ?_
      rfl
    · intro vv W K hB hd HK
      simp only [confRules, conf8Rules, cond7] at HK
      clear hd
      go_wp2
      refine HK.out _ _ hB.size ((Below.refl _ _).alloc (Nat.le_refl _) _) (heap_alloc_new _ _)
    · intro vv W K g hB hg hr hp hd HK
      simp only [confRules, conf8Rules, cond7] at hd HK
      obtain ⟨h6, h4, h0, h1, h2, h3, _, h5, _⟩ := hd
      simp only [hp, h6, h4, h0, h1, h2, h3, h5] at HK ⊢
      clear h6 h4 h0 h1 h2 h3 h5
      go_wp2_with (refine wpList_store_row rfl 28 _ _ rfl g SZ rfl rfl 28 SZ hr hSZI.out rfl hSZO.out ?_)
      refine HK.out _ _ rfl ?_
      rfl
  case rchend =>
    intro vv W g8 hB hf e8 l8 r8
    have e7 := hf 7 (by decide) (by decide)
    simp only [conf8Rules] at e7
    simp only [e7, e8, dropRules]
    clear hf e8 e7
    have HTx := Lib.hid ((hB.block w5.heap.size (by omega)).trans HT7.out)
    have HQx := Lib.hid ((hB.block (w.heap.size + 1) (by omega)).trans HQX7.out)
    have HOx := Lib.hid (HO7.out.below hB)
    have HBx := Lib.hid (HB7.out.trans (hB.mono HB7.out.size))
    have zx := hB.size
    clear hB r8 hqc
    go_upto_region 14 with (fail)
    by_cases h1 : at' < 0
    · have t1 : decide (at' < 0) = true := decide_eq_true h1
      clear h1
      go_wp2
      go_ret
      exact ⟨rfl, HBx.out⟩
    obtain ⟨k, rfl⟩ := Int.eq_ofNat_of_zero_le (show 0 ≤ at' by omega)
    clear h1
    have t0 : decide ((k : Int) < 0) = false := decide_eq_false (by omega)
    by_cases h2 : k < m
    rotate_left
    · have t2 : decide (m ≤ k) = true := decide_eq_true (by omega)
      have t2' : decide ((m : Int) ≤ (k : Int)) = true := decide_eq_true (by omega)
      clear h2
      go_wp2
      go_ret
      exact ⟨rfl, HBx.out⟩
    have t2 : decide (m ≤ k) = false := decide_eq_false (by omega)
    have t2' : decide ((m : Int) ≤ (k : Int)) = false := decide_eq_false (by omega)
    have HH2 := Lib.hid h2
    clear h2
    go_wp2_with fail
    refine (HDV.out _ HQx.out).mono ?_
    rintro e8 w8 ⟨rfl, hB8⟩
    have z8 := hB8.size
    have HT8 := Lib.hid ((hB8.block w5.heap.size (by omega)).trans HTx.out)
    have HQ8 := Lib.hid ((hB8.block (w.heap.size + 1) (by omega)).trans HQx.out)
    have HO8 := Lib.hid (HOx.out.below hB8)
    have HB8 := Lib.hid (HBx.out.trans (hB8.mono HBx.out.size))
    clear hB8
    cases D
    rotate_left
    · go_wp2
      go_ret
      exact ⟨rfl, HB8.out⟩
    obtain ⟨x, hx⟩ : ∃ x, LA[k]? = some x := ⟨_, List.getElem?_eq_getElem (by rw [HLA.out]; exact HH2.out)⟩
    have hrow8 : ∀ W, Below w8.heap.size w8 W → OwnM W 77 64 byteCells Sec W6.heap.size (.slice (some ⟨bA, 0, none⟩) LA.length cA) LA := fun W hW => by rw [HLA.out]; exact HO8.out.below hW
    have hrr : ∀ W, Below w8.heap.size w8 W → RowOf W 64 byteCells Sec (some ⟨bA, 0, none⟩) LA := fun W hW => by
      obtain ⟨a6, c6, e6, hr6, -⟩ := (hrow8 W hW).shape kinB
      cases e6
      exact hr6
    obtain ⟨-, -, -, -, -, hsx⟩ := (hrr w8 (Below.refl _ _)).at hx
    have hgx : ∀ W, Below w8.heap.size w8 W → W.rangeAt bA (k * 64) (byteCells x).toList := fun W hW => by
      have := (hrr W hW).range hx (by rw [size_byteCells, hsx.1])
      rwa [Nat.zero_add] at this
    have hix : (Try.prog.info? 77).map (·.size) = some (byteCells x).toList.length := by rw [Array.length_toList]; exact size_sec hsx.1
    have hxr := fun W => HXR.out x W hsx
    have hno := HSPO.out k x hx rfl
    have hsy := HSEC.out x hsx
    obtain ⟨y, hy⟩ : ∃ y, Crc.xorTo x p 64 = y := ⟨_, rfl⟩
    rw [hy] at hxr hno hsy
    have hth : ∀ W, Below w8.heap.size w8 W → W.there bA (k * 64) (byteCells y).size := fun W hW => by
      have := ((hrow8 W hW).there (show k < LA.length by rw [HLA.out]; exact HH2.out)).2.2
      rwa [show (byteCells y).size = 64 by rw [size_byteCells, hsy.1]]
    have hset : ∀ W, Below w8.heap.size w8 W → RowOf (W.setCells bA (k * 64) (byteCells y).toList) 64 byteCells Sec (some ⟨bA, 0, none⟩) (LA.set k y) := fun W hW => by
      have h3 := (hrr W hW).store (k := k) (y := y) (by rw [HLA.out]; exact HH2.out) (by rw [size_byteCells, hsy.1]) hsy (by rw [Nat.zero_add]; exact ((hrow8 W hW).there (show k < LA.length by rw [HLA.out]; exact HH2.out)).2.2)
      rwa [Nat.zero_add] at h3
    have hls : (LA.set k y).length = m := by rw [List.length_set, HLA.out]
    have HPX : Hid (∀ W, RowOf W 64 byteCells Sec (some ⟨bA, 0, none⟩) (LA.set k y) → Calls Try.prog 38 #[.agg TV, .int .i64 0, .slice (some ⟨bA, 0, none⟩) m cA] W fun e w' => e = .returned (.tuple #[.agg SZ, .int .i64 10]) ∧ Below W.heap.size W w') := Lib.hid (fun W h => by
      have := HPR.out W (some ⟨bA, 0, none⟩) cA (LA.set k y) (by rw [hls]; omega) h hno
      rwa [hls] at this)
    have hiy := size_sec hsy.1
    have hoy := one_byteCells y
    obtain ⟨XL, hXL⟩ : ∃ XL, (byteCells x).toList = XL := ⟨_, rfl⟩
    have hXC : byteCells x = XL.toArray := by rw [← hXL]
    rw [hXL] at hgx hix
    rw [hXC] at hxr
    obtain ⟨YB, hYB⟩ : ∃ Y, byteCells y = Y := ⟨_, rfl⟩
    rw [hYB] at hxr hth hset hiy hoy
    have HGX := Lib.hid hgx
    have HIX := Lib.hid hix
    have HXRX := Lib.hid hxr
    have HTH := Lib.hid hth
    have HSET := Lib.hid hset
    have HIY := Lib.hid hiy
    have HOY := Lib.hid hoy
    clear hx hrow8 hrr hsx hgx hix hxr hno hsy hy hth hset hls hiy hoy hXL hXC hYB
    go_upto_region 16 with (fail)
    clear t0 t2 t2'
    refine wp_region_conf2 9 [Fact.eq (.slice (some ⟨bA, 0, none⟩) m cA), Fact.eq (.int .i64 (k : Nat)), Fact.eq (.slice (some ⟨bA, 0, none⟩) m cA), Fact.eq (.int .i64 (k : Nat)), Fact.eq (.pointer (some ⟨bA, k * 64, none⟩)), Fact.eq (.agg XL.toArray), Fact.eq (.agg AH), Fact.eq (.agg YB), Fact.eq (.pointer (some ⟨bA, k * 64, none⟩))] ?rgA (by kernel_rfl) (by kernel_rfl) ?rghA ?rgho ?rghend
    case rghA =>
      intro vv
      simp only [putRules, Nat.reduceAdd]
      rfl
    case rgho =>
      refine ⟨?_, ?_, ?_, ?_, ?_, ?_, ?_, ?_, ?_, trivial⟩
      · intro vv W K hB hd HK
        simp only [confRules] at HK
        clear hd
        go_wp2
        refine HK.out _ _ (Below.refl _ _) ?_
        rfl
      · intro vv W K hB hd HK
        simp only [confRules] at HK
        clear hd
        go_wp2
        refine HK.out _ _ (Below.refl _ _) ?_
        rfl
      · intro vv W K hB hd HK
        simp only [confRules] at HK
        clear hd
        go_wp2
        refine HK.out _ _ (Below.refl _ _) ?_
        rfl
      · intro vv W K hB hd HK
        simp only [confRules] at HK
        clear hd
        go_wp2
        refine HK.out _ _ (Below.refl _ _) ?_
        rfl
      · intro vv W K hB hd HK
        simp only [confRules] at hd HK
        obtain ⟨h2, h3⟩ := hd
        simp only [h2, h3] at HK ⊢
        clear h2 h3
        go_wp2
        refine HK.out _ _ (Below.refl _ _) ?_
        rfl
      · intro vv W K hB hd HK
        simp only [confRules] at hd HK
        have h4 := hd
        clear hd
        simp only [h4] at HK ⊢
        clear h4
        have hT := HGX.out _ hB
        go_wp2_with (refine wpList_load_mid rfl 77 _ rfl bA (k * 64) rfl XL _ hT Try.underlying77 rfl HIX.out ?_)
        refine HK.out _ _ (Below.refl _ _) ?_
        rfl
      · intro vv W K hB hd HK
        simp only [confRules] at HK
        clear hd
        have hT := (hB.block (w.heap.size + 1) (by omega)).trans HQ8.out
        go_wp2_with (refine wpList_load_row rfl 77 _ rfl (w.heap.size + 1) rfl 77 _ _ _ hT Try.underlying77 rfl HIAH.out ?_)
        refine HK.out _ _ (Below.refl _ _) ?_
        rfl
      · intro vv W K hB hd HK
        simp only [confRules] at hd HK
        obtain ⟨h5, h6⟩ := hd
        simp only [h5, h6] at HK ⊢
        clear h5 h6
        go_wp2_with (refine (HXRX.out _).mono ?_; rintro e w9 ⟨rfl, hB9⟩)
        refine HK.out _ _ hB9 ?_
        rfl
      · intro vv W K hB hd HK
        simp only [confRules] at hd HK
        obtain ⟨h0, h1, _, _, h2, h3, h4, h5, h6, h7⟩ := hd
        simp only [h0, h1, h2, h3, h4, h5, h6, h7] at HK ⊢
        clear h0 h1 h2 h3 h4 h5 h6 h7
        go_wp2
        refine HK.out _ _ (Below.refl _ _) ?_
        rfl
    case rghend =>
      intro vv W hB hf
      have e7 := hf 7 (by decide)
      have e8 := hf 8 (by decide)
      simp only [endRules] at e7 e8
      simp only [e7, e8, dropRules]
      clear hf e7 e8
      have HTHW := Lib.hid (HTH.out _ hB)
      have HSETW := Lib.hid (HSET.out _ hB)
      have HTW := Lib.hid ((hB.block w5.heap.size (by omega)).trans HT8.out)
      have HBW := Lib.hid (HB8.out.trans (hB.mono HB8.out.size))
      have zW := hB.size
      obtain ⟨W9, hW9⟩ : ∃ W', W.setCells bA (k * 64) YB.toList = W' := ⟨_, rfl⟩
      have hO9 : Only [bA] W W9 := by rw [← hW9]; exact Only.of_setCells bA _ _ _
      rw [hW9] at HSETW
      have HT9 := Lib.hid (hO9.get HTW.out (by simp; omega))
      have HB9 := Lib.hid (HBW.out.trans (hO9.below (B := w.heap.size) (by simp; omega) HBW.out.size))
      have HW9 := Lib.hid hW9
      clear hB hO9 hW9
      go_upto_region 17 with (refine wpList_store_mid rfl 77 _ _ rfl bA (k * 64) YB rfl rfl HTHW.out HIY.out HOY.out ?_; rw [HW9.out])
      try rw [put_none]
      go_wp2_with (refine wpList_load_row rfl 71 _ rfl w5.heap.size rfl 71 _ _ _ HT9.out Try.underlying71 rfl HIT.out ?_)
      refine (HPX.out _ HSETW.out).mono ?_
      rintro e10 w10 ⟨rfl, hB10⟩
      have HB10 := Lib.hid ((HB9.out.trans (hB10.mono HB9.out.size)).alloc (HB9.out.trans (hB10.mono HB9.out.size)).size (.cells SZ 28))
      clear hB10
      go_wp2_with (refine wpList_store_row rfl 28 _ _ rfl w10.heap.size SZ rfl rfl 28 SZ (heap_alloc_new w10 _) hSZI.out rfl hSZO.out ?_; rw [World.setRow_alloc_new])
      go_ret
      exact ⟨rfl, HB10.out⟩
end Go.Proofs.Ytjnneoejnpephaa
