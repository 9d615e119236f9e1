/- Proved here: a map's entries, one by one (slices.All), by the law on turns; the map's All. -/
import Derived.Test.YteggijkcdlboeaaBmOps
import Derived.Test.YteggijkcdlboeaaBmGet
import Derived.Test.YteggijkcdlboeaaTurn
import Derived.Test.YteggijkcdlboeaaEnum
import Derived.Test.YteggijkcdlboeaaAskIn
import Derived.LoopTactic
namespace Go.Proofs.Yteggijkcdlboeaa
open Go.RowKit Go.Rv Go.Shelf
set_option linter.unusedVariables false
attribute [local go_sem] Oper.semAt_some
theorem BmIs.rows {w : World} {p le ll ce cl : Nat} {g : Geo.G} {es : List BE} {lv : List Int} (h : BmIs w p le ll ce cl g es lv) : RowOf w 6 BEC (fun _ => True) (some ⟨le, 0, none⟩) es := by
  by_cases h0 : es = []
  · exact .inl h0
  · refine .inr ⟨le, 0, rfl, h.lt.2.1, fun k x hk => ⟨fun j hj => ?_, trivial⟩⟩
    obtain ⟨a0, a1, a2, a3, a4, a5⟩ := h.ent hk
    rw [Nat.zero_add]
    match j, hj with
    | 0, _ => exact a0
    | 1, _ => exact a1
    | 2, _ => exact a2
    | 3, _ => exact a3
    | 4, _ => exact a4
    | 5, _ => exact a5
theorem _root_.Go.Rv.RowOf.ent6 {w : World} {Q : BE → Prop} {a : Option Addr} {xs : List BE} (h : RowOf w 6 BEC Q a xs) {k : Nat} {x : BE} (hk : xs[k]? = some x) : ∃ b o, a = some ⟨b, o, none⟩ ∧ b < w.heap.size ∧ Q x ∧
    w.cell? ⟨b, o + k * 6, none⟩ = some (.int .i64 x.st) ∧ w.cell? ⟨b, o + k * 6 + 1, none⟩ = some (.int .i64 x.z) ∧ w.cell? ⟨b, o + k * 6 + 2, none⟩ = some (.int .i64 x.m) ∧ w.cell? ⟨b, o + k * 6 + 3, none⟩ = some (.int .i64 x.o) ∧ w.cell? ⟨b, o + k * 6 + 4, none⟩ = some (.int .i64 x.q) ∧ w.cell? ⟨b, o + k * 6 + 5, none⟩ = some (.int .i64 x.s) := by
  obtain ⟨b, o, rfl, hb, hc, hq⟩ := h.at hk
  exact ⟨b, o, rfl, hb, hq, hc 0 (by omega), hc 1 (by omega), hc 2 (by omega), hc 3 (by omega), hc 4 (by omega), hc 5 (by omega)⟩
def ieV (x : BE × Nat) : Array Value := #[.int .i64 (x.2 : Nat), .agg (BEC x.1)]
set_option maxRecDepth 100000 in
set_option maxHeartbeats 4000000 in
theorem eall1_stops (n : Nat) (hn : 1 ≤ n) (B rb : Nat) (a : Option Addr) (cp : Nat) (es : List BE) (w : World) (hB : w.cell? ⟨B, 0, none⟩ = some (.slice a es.length cp)) (hR : RowOf w 6 BEC (fun _ => True) a es) (hrb : ∀ x, a = some x → x.block = rb) (hrl : rb < w.heap.size) (hl : es.length ≤ 100000) :
    SeqT Fence.wide n Try.prog 48 #[.pointer (some ⟨B, 0, none⟩)] ieV [rb] [] (fun ys => ys = es.zipIdx) (fun pre => pre <+: es.zipIdx) es.length w := by
  intro r T J Jx W hW hr0 hrW hT hJ hJx hY h0
  have hBW : W.cell? ⟨B, 0, none⟩ = some (.slice a es.length cp) := (hW.cell (p := ⟨B, 0, none⟩) (block_lt_of_cell hB)).trans hB
  have HR := Lib.hid (hR.below hW)
  have hz := (zero_of_info Try.infoEnt).1
  have HIE := Lib.hid (fun e => esize e)
  have HON := Lib.hid (fun e => BEC_one e)
  have HSZ : Hid (∀ e : BE, (BEC BE.zero).size = (BEC e).size) := Lib.hid (fun e => by rw [BEC_size, BEC_size])
  have hzW := hW.size
  clear hR hB hW
  refine callsIn_of_wp Try.func48 rfl trivial ?_ rfl
  simp only [Try.ntmps48, List.size_toArray, List.length_cons, List.length_nil, Nat.reduceAdd, Nat.reduceSub, Array.replicate_succ, Array.replicate_zero, List.push_toArray, List.append_toArray, List.nil_append, List.cons_append]
  gi_wp2
  gi_loopw [7] (fun i wr => ∃ k : Nat, k ≤ es.length ∧ i = .int .i64 k ∧ J (es.take k).zipIdx wr ∧ RowOf wr 6 BEC (fun _ => True) a es ∧ W.heap.size ≤ wr.heap.size) (fun i _ => es.length - (intOf i).toNat)
  case atStart => exact ⟨0, Nat.zero_le _, rfl, h0, HR.out, Nat.le_refl _⟩
  case round =>
    obtain ⟨k, hk, rfl, hJk, hrow, hzr⟩ := hrel
    by_cases hlt : k < es.length
    · obtain ⟨x, hx⟩ : ∃ x, es[k]? = some x := ⟨_, List.getElem?_eq_getElem hlt⟩
      obtain ⟨b, o, rfl, hbl, -, d0, d1, d2, d3, d4, d5⟩ := hrow.ent6 hx
      have HBB : Hid (b = rb) := Lib.hid (hrb _ rfl)
      have HS := Lib.hid (zip_take es hx)
      have HP : Hid ((es.take k).zipIdx ++ [(x, k)] <+: es.zipIdx) := Lib.hid (by rw [← HS.out]; exact zip_full es _)
      obtain ⟨WA, hWA⟩ : ∃ WA, wr.alloc (.cells (BEC x) 41) = WA := ⟨_, rfl⟩
      have hba : Below wr.heap.size wr WA := by rw [← hWA]; exact (Below.refl wr.heap.size wr).alloc (Nat.le_refl _) _
      have hop : WA.heap[wr.heap.size]? = some (.cells (BEC x) 41 (0, 0)) := by rw [← hWA]; exact heap_alloc_new wr _
      have hJA := hJ _ _ _ hJk ((Turn.of_below hba : Turn W.heap.size [] wr WA))
      have HRA := Lib.hid (hrow.below hba)
      have zA := hba.size
      obtain ⟨fn, tmps, assign, body, hy', hRd⟩ := hY (es.take k).zipIdx (x, k) WA hJA (by rw [zip_len _ hk]; exact hlt) HP.out
      have hy : (Instr.yield r #[.int .i64 (k : Nat), .agg (BEC x)]).run Try.prog WA = .ok (.round r fn tmps assign body) WA := hy'
      have HWA := Lib.hid hWA
      have HOP := Lib.hid hop
      have HRD := Lib.hid hRd
      clear hx hy' hJk hrow hba hop hJA hWA hRd
      gi_wp2_with (first | (refine wpListIn_store_row (by rfl) 41 _ _ rfl wr.heap.size (BEC x) rfl rfl 41 (BEC BE.zero) (heap_alloc_new wr _) (HIE.out _) (HSZ.out _) (HON.out _) ?_; rw [World.setRow_alloc_new, HWA.out]; clear d0 d1 d2 d3 d4 d5) | (refine wpListIn_row_on (by rfl) 41 _ rfl wr.heap.size rfl 41 _ _ _ HOP.out Try.underlying41 rfl (HIE.out _) ?_))
      refine HRD.out.mono ?_
      rintro e W3 ⟨hO3, (⟨rfl, hJ3⟩ | ⟨rfl, hJx3⟩)⟩
      · have HRW : Hid (RowOf W3 6 BEC (fun _ => True) (some ⟨b, o, none⟩) es) := Lib.hid (HRA.out.only hO3 (by
          intro y hy2 hm
          cases hy2
          rcases List.mem_cons.1 hm with e | hm
          · have := HBB.out; simp only at e; omega
          · have := (hT _ hm).2
            simp only [List.mem_singleton] at this
            exact this HBB.out))
        have z3 := hO3.size
        clear hy
        gi_wp2
        go_roundw
        case rel => exact ⟨k + 1, by omega, by go_num, by rw [HS.out]; exact hJ3, HRW.out, by omega⟩
        case measure => simp [intOf]; omega
      · clear hy
        gi_wp2
        refine bodyPost_ret (results_none rfl _ _ _) rfl ?_
        exact ⟨⟨_, rfl⟩, .inr ⟨_, HP.out, hJx3⟩⟩
    · obtain rfl : k = es.length := by omega
      rw [List.take_length] at hJk
      gi_wp2
      go_end0
      exact ⟨⟨_, rfl⟩, .inl ⟨_, rfl, hJk⟩⟩
end Go.Proofs.Yteggijkcdlboeaa
