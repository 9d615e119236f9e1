/- Proved here: the contract of Divides: it tells whether the generator divides the bytes. -/
import Derived.Test.YtfcadbeamojdpaaBit
import Derived.Test.YtfcadbeamojdpaaPv
namespace Go.Proofs.Ytfcadbeamojdpaa
open Go.RowKit Go.Rv
set_option linter.unusedVariables false
/-- the generator's powers, as the code lays them -/
def pws : Array Value := #[.int .i64 32, .int .i64 28, .int .i64 27, .int .i64 26, .int .i64 25, .int .i64 23, .int .i64 22, .int .i64 20, .int .i64 19, .int .i64 18, .int .i64 14, .int .i64 13, .int .i64 11, .int .i64 10, .int .i64 9, .int .i64 8, .int .i64 6, .int .i64 0]
theorem own_set {w : World} {e : TypeId} {base g cap n : Nat} {xs : List Value} (h : OwnV w e base (.slice (some ⟨g, 0, none⟩) n cap) xs) (hn : xs.length = n) (i : Nat) (x : Value) (hx : x.oneCell' = true) :
    OwnV (w.setCell ⟨g, i, none⟩ x) e base (.slice (some ⟨g, 0, none⟩) n cap) (xs.set i x) := by
  subst hn
  exact h.set i x hx
theorem divF_succ (f : Nat → Bool) (i : Nat) : Crc.divF f (i + 1) = if Crc.divF f i i then Crc.flips (Crc.divF f i) i Crc.powers else Crc.divF f i := rfl
theorem pws_at (k p : Nat) (h : Crc.powers[k]? = some p) : pws[k]? = some (.int .i64 (p : Nat)) := by
  have e : pws = (Crc.powers.map fun p => Value.int .i64 (p : Nat)).toArray := rfl
  rw [e]
  simp [h]
set_option maxRecDepth 100000 in
set_option maxHeartbeats 400000 in
theorem divides_any (a : Option Addr) (l : List Nat) (cap : Nat) (w : World) (hb : Bytes w a l) (hlen : l.length ≤ 1000) :
    Calls Try.prog 22 #[.slice a l.length cap] w fun e w' => e = .returned (.bool (decide (Crc.over 0 l = 0))) ∧ Below w.heap.size w w' := by
  go_enter Try.func22, Try.ntmps22
  go_wp2
  go_loopw [3, 4] (fun p i wr => ∃ k : Nat, k ≤ 8 * l.length ∧ i = .int .i64 k ∧ OwnV wr 3 w.heap.size p (pv (Crc.bitOf l) k) ∧ Below w.heap.size w wr) (fun _ i _ => 8 * l.length - (intOf i).toNat)
  case atStart => exact ⟨0, by omega, rfl, OwnV.nil _ _ _, Below.refl _ _⟩
  case round =>
    obtain ⟨k, hk, rfl, hp, hB⟩ := hrel
    have hb1 := hb.below hB
    by_cases hlt : k < 8 * l.length
    · have hpl := pv_len (Crc.bitOf l) k
      go_wp2_with (first | (go_at_call 49; refine (bit_any a l cap k _ hb1 hlt hlen).mono ?_; rintro e w1 ⟨rfl, rfl⟩) | (at_builtin; refine wpList_append_one rfl (.tmp 17) (.tmp 21) 90 rfl 3 (.int .i64 0) 8 (by rfl) (by rfl) rfl w.heap.size _ _ rfl (hp.below (Below.refl _ _ |>.alloc (Nat.le_refl _) _)) _ _ _ _ rfl (heap_alloc_new _ _) rfl (by rw [hpl]; simp [maxLen]; omega) (by rw [hpl]; omega) (by simp; exact Nat.le_trans hB.size (Nat.le_succ _)) ?_; intro v' w' hv hg))
      go_roundw
      case rel => exact ⟨k + 1, by omega, by go_num, by rw [← pv_succ]; exact hv, (hB.alloc hB.size _).trans ((hp.below ((Below.refl _ _).alloc (Nat.le_refl _) _)).grown hg (by simp; exact Nat.le_trans hB.size (Nat.le_succ _)))⟩
      case measure => simp [intOf]; omega
    · obtain rfl : k = 8 * l.length := by omega
      clear hlt hk
      obtain ⟨ap, cp, rfl, hnil, hpb⟩ := hp.shape
      have hg0 : ∀ x, ap = some x → x.block < wr.heap.size := fun x e => (hpb x e).2.1
      clear hpb hnil
      rw [pv_len] at hp
      rw [pv_len]
      have hN1 : 8 * l.length ≤ 8000 := by omega
      generalize hN : 8 * l.length = N at *
      go_wp2
      obtain ⟨wo, rfl⟩ : ∃ wo : World, wo = wr := ⟨_, rfl⟩
      go_loopw [6] (fun i ws => ∃ n : Nat, n ≤ N - 32 ∧ i = .int .i64 n ∧ OwnV ws 3 w.heap.size (.slice ap N cp) (pv (Crc.divF (Crc.bitOf l) n) N) ∧ Below w.heap.size w ws ∧ ws.heap[wo.heap.size]? = some (.cells pws 3 (0, 0))) (fun i _ => N - (intOf i).toNat)
      case atStart => exact ⟨0, by omega, rfl, hp.below ((Below.refl _ _).alloc (Nat.le_refl _) _), hB.alloc hB.size _, heap_alloc_new _ _⟩
      case round =>
        obtain ⟨n, hn, rfl, hq, hB2, hP⟩ := hrel
        by_cases hlt : n + 32 < N
        · obtain ⟨g, cap', hv, hbg, hgl, -, -, hcell, hfr⟩ := hq.open (by rw [pv_len]; omega)
          rw [pv_len] at hv
          cases hv
          have hgP : g < wo.heap.size := hg0 _ rfl
          have hc := hcell n _ (pv_at _ (by omega))
          have hds := Lib.hid (divF_succ (Crc.bitOf l) n)
          generalize Crc.divF (Crc.bitOf l) n = f at *
          cases hf : f n
          · rw [hf] at hc hds
            have hc : wr.cell? ⟨g, n, none⟩ = some (.int .i64 0) := hc
            have HF := Lib.hid hf
            clear hf
            go_wp2
            go_roundw
            case rel => exact ⟨n + 1, by omega, by go_num, by rw [hds.out]; exact hq, hB2, hP⟩
            case measure => simp [intOf]; omega
          · rw [hf] at hc hds
            have hc : wr.cell? ⟨g, n, none⟩ = some (.int .i64 1) := hc
            have HF := Lib.hid hf
            clear hf hcell hfr
            go_wp2
            obtain ⟨w2, rfl⟩ : ∃ w2 : World, w2 = wr := ⟨_, rfl⟩
            go_loopw [7] (fun k ws => ∃ j : Nat, j ≤ 18 ∧ k = .int .i64 j ∧ OwnV ws 3 w.heap.size (.slice (some ⟨g, 0, none⟩) N cp) (pv (Crc.flips f n (Crc.powers.take j)) N) ∧ Below w.heap.size w ws ∧ ws.heap[wo.heap.size]? = some (.cells pws 3 (0, 0))) (fun k _ => 18 - (intOf k).toNat)
            case atStart => exact ⟨0, by omega, rfl, hq, hB2, hP⟩
            case round =>
              obtain ⟨j, hj, rfl, hq3, hB3, hP3⟩ := hrel
              by_cases hlt3 : j < 18
              · have hpj : Crc.powers[j]? = some (Crc.powers[j]'hlt3) := List.getElem?_eq_getElem _
                have hp32 := Crc.powers_le _ (List.getElem_mem (l := Crc.powers) (n := j) hlt3)
                have hcp : wr.cell? ⟨wo.heap.size, j, none⟩ = some (.int .i64 ((Crc.powers[j]'hlt3 : Nat) : Int)) := by rw [cell_of_row _ _ _ _ _ _ hP3]; exact pws_at _ _ hpj
                have hft := Lib.hid (Crc.flips_take f n j _ hpj)
                generalize Crc.powers[j]'hlt3 = p at *
                obtain ⟨g', cap', hv, -, hgl3, -, -, hcell, hfr⟩ := hq3.open (by rw [pv_len]; omega)
                rw [pv_len] at hv
                cases hv
                have hc3 := hcell (n + 32 - p) _ (pv_at _ (by omega))
                have hfz := hfr (n + 32 - p)
                generalize Crc.flips f n (Crc.powers.take j) = fk at *
                have hset := fun x hx => Lib.hid (own_set hq3 (pv_len _ _) (n + 32 - p) x hx)
                have hHP := fun x => Lib.hid ((Below.heap_setCell wr ⟨g, n + 32 - p, none⟩ x wo.heap.size (by simp; omega)).trans hP3)
                have hpf := Lib.hid (pv_flip fk N (n + 32 - p))
                clear hcell hfr hpj
                cases hb3 : fk (n + 32 - p)
                · rw [hb3] at hc3 hpf
                  have hc3 : wr.cell? ⟨g, n + 32 - p, none⟩ = some (.int .i64 0) := hc3
                  clear hb3
                  go_wp2
                  go_roundw
                  case rel => exact ⟨j + 1, by omega, by go_num, by rw [hft.out, ← hpf.out]; exact (hset _ rfl).out, hB3.setCell (by exact hbg) _, (hHP _).out⟩
                  case measure => simp [intOf]; omega
                · rw [hb3] at hc3 hpf
                  have hc3 : wr.cell? ⟨g, n + 32 - p, none⟩ = some (.int .i64 1) := hc3
                  clear hb3
                  go_wp2
                  go_roundw
                  case rel => exact ⟨j + 1, by omega, by go_num, by rw [hft.out, ← hpf.out]; exact (hset _ rfl).out, hB3.setCell (by exact hbg) _, (hHP _).out⟩
                  case measure => simp [intOf]; omega
              · obtain rfl : j = 18 := by omega
                go_wp2
                go_roundw
                case rel => exact ⟨n + 1, by omega, by go_num, by rw [hds.out]; exact hq3, hB3, hP3⟩
                case measure => simp [intOf]; omega
        · obtain rfl : n = N - 32 := by omega
          have hiff := Crc.divides_iff (Crc.bitOf l) N
          have hov := Crc.over_runB l 0 hb.1
          rw [hN, ] at hov
          rw [← hov] at hiff
          have HI := Lib.hid hiff
          clear hiff hov
          generalize Crc.divF (Crc.bitOf l) (N - 32) = f at *
          obtain ⟨w2, rfl⟩ : ∃ w2 : World, w2 = wr := ⟨_, rfl⟩
          go_wp2
          go_loopw [9] (fun i ws => ∃ m : Nat, m ≤ N ∧ i = .int .i64 m ∧ (∀ j, j < m → f j = false) ∧ ws = w2) (fun i _ => N - (intOf i).toNat)
          case atStart => exact ⟨0, by omega, rfl, fun j hj => by omega, rfl⟩
          case round =>
            obtain ⟨m, hm, rfl, hz, rfl⟩ := hrel
            have HZ := Lib.hid hz
            clear hz
            by_cases hltm : m < N
            · obtain ⟨g', cap', hv, -, -, -, -, hcell, -⟩ := hq.open (by rw [pv_len]; omega)
              rw [pv_len] at hv
              cases hv
              have hc := hcell m _ (pv_at _ (by omega))
              clear hcell
              cases hf : f m
              · rw [hf] at hc
                have hc : wr.cell? ⟨g', m, none⟩ = some (.int .i64 0) := hc
                have HF := Lib.hid hf
                clear hf
                go_wp2
                go_roundw
                case rel => exact ⟨m + 1, by omega, by go_num, fun j hj => (by rcases Nat.lt_succ_iff_lt_or_eq.1 hj with h | rfl; exact HZ.out j h; exact HF.out), by trivial⟩
                case measure => simp [intOf]; omega
              · rw [hf] at hc
                have hc : wr.cell? ⟨g', m, none⟩ = some (.int .i64 1) := hc
                have HF := Lib.hid hf
                clear hf
                go_wp2
                go_ret
                refine ⟨?_, hB2⟩
                have e : decide (Crc.over 0 l = 0) = false := by
                  rw [decide_eq_false_iff_not, ← HI.out]
                  intro h
                  have := h m hltm
                  rw [HF.out] at this
                  cases this
                rw [e]
                rfl
            · obtain rfl : m = N := by omega
              go_wp2
              go_ret
              refine ⟨?_, hB2⟩
              have e : decide (Crc.over 0 l = 0) = true := by
                rw [decide_eq_true_eq, ← HI.out]
                exact HZ.out
              rw [e]
              rfl
end Go.Proofs.Ytfcadbeamojdpaa
