/- Proved here: the contract of the geometry's In: a domain's zones, one by one. -/
import Derived.Test.YteggijkcdlboeaaGeoRight
import Derived.RangeFuncNested
import Derived.RangeFuncBound
import Derived.RangeFuncCalls
import Derived.RangeFuncLeaves
import Derived.Shelf.Abstract
import Derived.Shelf.RegionOpen
import Derived.OwnWalkIn
import Derived.TacticsInMore
import Derived.LoopNIn
import Derived.LoopIn
namespace Go.Proofs.Yteggijkcdlboeaa
open Go.RowKit Go.Rv Go.Shelf
set_option linter.unusedVariables false
attribute [local go_sem] Oper.semAt_some
/-- some blocks lie as they lay -/
def KeepsRows (S : List Nat) (W W' : World) : Prop := ∀ b ∈ S, W'.heap[b]? = W.heap[b]?
theorem KeepsRows.refl (S : List Nat) (W : World) : KeepsRows S W W := fun _ _ => rfl
theorem KeepsRows.trans {S : List Nat} {a b c : World} (h : KeepsRows S a b) (k : KeepsRows S b c) : KeepsRows S a c := fun x hx => (k x hx).trans (h x hx)
theorem KeepsRows.cell {S : List Nat} {a b : World} (h : KeepsRows S a b) {x o : Nat} (hx : x ∈ S) : b.cell? ⟨x, o, none⟩ = a.cell? ⟨x, o, none⟩ := World.cell?_of_block (h x hx)
theorem KeepsRows.setCell {S : List Nat} {a b : World} (h : KeepsRows S a b) {p : Addr} (hp : p.block ∉ S) (u : Value) : KeepsRows S a (b.setCell p u) :=
  fun x hx => (Below.heap_setCell b p u x (fun e => hp (by subst e; exact hx))).trans (h x hx)
theorem KeepsRows.below {S : List Nat} {a b c : World} (h : KeepsRows S a b) {n : Nat} (hb : Below n b c) (hS : ∀ x ∈ S, x < n) : KeepsRows S a c := fun x hx => (hb.block x (hS x hx)).trans (h x hx)
theorem KeepsRows.of_only {S T : List Nat} {a b : World} (h : Only T a b) (hS : ∀ x ∈ S, x < a.heap.size ∧ x ∉ T) : KeepsRows S a b := fun x hx => h.block x (hS x hx).1 (hS x hx).2
theorem keepsRows_b {S : List Nat} {w : World} (hS : ∀ x ∈ S, x < w.heap.size) (W : World) (l : Nat) (o o' : Obj) (hl : w.heap.size ≤ l) (h : W.heap[l]? = some o) (hc : o.isCells = false) (hw : o.isWalk = false) : KeepsRows S W (W.putObj l o') :=
  fun x hx => by
    have := hS x hx
    simp only [World.putObj]
    rw [Array.getElem?_setIfInBounds_ne (by omega)]
/-- the first k zones of a domain -/
def zonesTo (z dom : Int) (k : Nat) : List Int := (List.range k).map fun (i : Nat) => dom * z + (i : Int)
theorem zonesTo_succ (z dom : Int) (k : Nat) : zonesTo z dom (k + 1) = zonesTo z dom k ++ [dom * z + (k : Int)] := by
  simp [zonesTo, List.range_succ]
theorem zonesTo_length (z dom : Int) (k : Nat) : (zonesTo z dom k).length = k := by simp [zonesTo]
theorem zonesTo_prefix (z dom : Int) {k m : Nat} (h : k ≤ m) : zonesTo z dom k <+: zonesTo z dom m := by
  obtain ⟨d, rfl⟩ : ∃ d, m = k + d := ⟨m - k, by omega⟩
  refine ⟨(List.range d).map fun (i : Nat) => dom * z + ((k + i : Nat) : Int), ?_⟩
  simp [zonesTo, List.range_add, Function.comp_def]
/-- a domain's zones -/
def zonesOf (g : Geo.G) (dom : Int) : List Int := if 0 ≤ dom ∧ dom ≤ g.d - 1 then zonesTo g.z dom g.z.toNat else []
set_option maxRecDepth 100000 in
set_option maxHeartbeats 400000 in
theorem gin_any (g : Geo.G) (dom : Int) (w : World) :
    Calls Try.prog 22 #[.agg (GC g), .int .i64 dom] w fun e w' => e = .returned (.func (.func 38) #[] #[.pointer (some ⟨w.heap.size + 1, 0, none⟩), .pointer (some ⟨w.heap.size, 0, none⟩)]) ∧ w' = (w.alloc (.cells (GC g) 23)).alloc (.cells #[.int .i64 dom] 3) := by
  generalize GC g = C at *
  go_enter Try.func22, Try.ntmps22
  go_wp2
  go_ret
  exact ⟨rfl, rfl⟩
set_option maxRecDepth 100000 in
set_option maxHeartbeats 2000000 in
theorem gin1_in (n : Nat) (hn : 1 ≤ n) (l Bd Bg : Nat) (g : Geo.G) (hs : Geo.Small g) (dom : Int) (J Jx : List Int → World → Prop)
    (hY : ∀ pre x W, J pre W → pre.length < g.z.toNat → YieldAt Fence.wide (n - 1) Try.prog l #[.int .i64 x] W fun e W' =>
      (e = .returned (.bool true) ∧ J (pre ++ [x]) W' ∧ KeepsRows [Bd, Bg] W W') ∨ (e = .returned (.bool false) ∧ Jx (pre ++ [x]) W'))
    (W : World) (hd : W.cell? ⟨Bd, 0, none⟩ = some (.int .i64 dom)) (hg0 : W.cell? ⟨Bg, 0, none⟩ = some (.int .i64 g.d)) (hg1 : W.cell? ⟨Bg, 1, none⟩ = some (.int .i64 g.z)) (h0 : J [] W) :
    CallsIn Fence.wide n Try.prog 38 #[.func (.yield l) #[] #[], .pointer (some ⟨Bd, 0, none⟩), .pointer (some ⟨Bg, 0, none⟩)] W fun e W' => (∃ v, e = .returned v) ∧
      ((∃ ys, ys = zonesOf g dom ∧ J ys W') ∨ (∃ pre, pre <+: zonesOf g dom ∧ Jx pre W')) := by
  have HW := Lib.hid (fun (W : World) => (callsIn_wide (n := n - 1)).2 (gwithin_any dom 0 (g.d - 1) W))
  obtain ⟨⟨h1, h1'⟩, ⟨h2, h2'⟩, -⟩ := hs
  have hz0 : (0 : Int) ≤ 0 := Int.le_refl 0
  by_cases hdom : 0 ≤ dom ∧ dom ≤ g.d - 1
  · have HZ : Hid (zonesOf g dom = zonesTo g.z dom g.z.toNat) := Lib.hid (if_pos hdom)
    have hb : Geo.inB dom 0 (g.d - 1) = true := Geo.inB_iff.2 hdom
    rw [hb] at HW
    obtain ⟨hd1, hd2⟩ := hdom
    have hm1 : 0 ≤ dom * g.z := Int.mul_nonneg hd1 (by omega)
    have hm2 : dom * g.z ≤ 7 * 64 := Int.le_trans (Int.mul_le_mul_of_nonneg_right (show dom ≤ 7 by omega) (by omega)) (Int.mul_le_mul_of_nonneg_left h2' (by omega))
    clear hb
    refine callsIn_of_wp Try.func38 rfl trivial ?_ rfl
    simp only [Try.ntmps38, List.size_toArray, List.length_cons, List.length_nil, Nat.reduceAdd, Nat.reduceSub, Array.replicate_succ, Array.replicate_zero, List.push_toArray, List.append_toArray, List.nil_append, List.cons_append]
    gi_wp2_with (refine ⟨trivial, ?_⟩; gi_at_call 37; refine (HW.out _).mono ?_; rintro e w' ⟨rfl, rfl⟩)
    gi_loopw [13] (fun i wr => ∃ k : Nat, (k : Int) ≤ g.z ∧ i = .int .i64 k ∧ J (zonesTo g.z dom k) wr ∧ KeepsRows [Bd, Bg] W wr) (fun i _ => (g.z - intOf i).toNat)
    case atStart => exact ⟨0, by omega, rfl, h0, KeepsRows.refl _ _⟩
    case round =>
      obtain ⟨k, hk, rfl, hJk, hBk⟩ := hrel
      by_cases hlt : (k : Int) < g.z
      · obtain ⟨fn, tmps, assign, body, hy, hR⟩ := hY (zonesTo g.z dom k) (dom * g.z + (k : Int)) wr hJk (by rw [zonesTo_length]; omega)
        have hd' := (hBk.cell (x := Bd) (o := 0) (by simp)).trans hd
        have hg' := (hBk.cell (x := Bg) (o := 1) (by simp)).trans hg1
        gi_wp2
        refine hR.mono ?_
        rintro e W3 (⟨rfl, hJ3, hk3⟩ | ⟨rfl, hJx3⟩)
        · gi_wp2
          go_roundw
          case rel => exact ⟨k + 1, by omega, by go_num, by rw [zonesTo_succ]; exact hJ3, hBk.trans hk3⟩
          case measure => simp [intOf]; omega
        · gi_wp2
          refine bodyPost_ret (results_none rfl _ _ _) rfl ?_
          exact ⟨⟨_, rfl⟩, .inr ⟨_, by rw [HZ.out, ← zonesTo_succ]; exact zonesTo_prefix _ _ (by omega), hJx3⟩⟩
      · gi_wp2
        go_end0
        exact ⟨⟨_, rfl⟩, .inl (by rw [HZ.out, show g.z.toNat = k by omega]; exact hJk)⟩
  · have HZ : Hid (zonesOf g dom = []) := Lib.hid (if_neg hdom)
    have hb : Geo.inB dom 0 (g.d - 1) = false := by rw [← Bool.not_eq_true]; exact fun h => hdom (Geo.inB_iff.1 h)
    rw [hb] at HW
    clear hb
    refine callsIn_of_wp Try.func38 rfl trivial ?_ rfl
    simp only [Try.ntmps38, List.size_toArray, List.length_cons, List.length_nil, Nat.reduceAdd, Nat.reduceSub, Array.replicate_succ, Array.replicate_zero, List.push_toArray, List.append_toArray, List.nil_append, List.cons_append]
    gi_wp2_with (refine ⟨trivial, ?_⟩; gi_at_call 37; refine (HW.out _).mono ?_; rintro e w' ⟨rfl, rfl⟩)
    refine bodyPost_ret (results_none rfl _ _ _) rfl ?_
    exact ⟨⟨_, rfl⟩, .inl ⟨[], by rw [HZ.out], h0⟩⟩
theorem gin1_stops (n : Nat) (hn : 1 ≤ n) (Bd Bg : Nat) (g : Geo.G) (hs : Geo.Small g) (dom : Int) (w : World) (hBd : Bd < w.heap.size) (hBg : Bg < w.heap.size)
    (hd : w.cell? ⟨Bd, 0, none⟩ = some (.int .i64 dom)) (hg0 : w.cell? ⟨Bg, 0, none⟩ = some (.int .i64 g.d)) (hg1 : w.cell? ⟨Bg, 1, none⟩ = some (.int .i64 g.z)) :
    SeqStopsK Fence.wide n Try.prog 38 #[.pointer (some ⟨Bd, 0, none⟩), .pointer (some ⟨Bg, 0, none⟩)] (fun x : Int => #[.int .i64 x]) (KeepsRows [Bd, Bg]) (fun ys => ys = zonesOf g dom) (fun pre => pre <+: zonesOf g dom) g.z.toNat w :=
  fun l J Jx W hW hJ hJx hY h0 => gin1_in n hn l Bd Bg g hs dom J Jx hY W ((hW.cell (p := ⟨Bd, 0, none⟩) hBd).trans hd) ((hW.cell (p := ⟨Bg, 0, none⟩) hBg).trans hg0) ((hW.cell (p := ⟨Bg, 1, none⟩) hBg).trans hg1) h0
end Go.Proofs.Yteggijkcdlboeaa
