/- Proved here: the document's In: the places of the entries that lie in a zone. -/
import Derived.Test.YteggijkcdlboeaaBmIter2
import Derived.Test.YteggijkcdlboeaaKitV
import Derived.LoopTactic
namespace Go.Proofs.Yteggijkcdlboeaa
open Go.RowKit Go.Rv
set_option linter.unusedVariables false
/-- places, as values -/
def nV (l : List Nat) : List Value := l.map fun (i : Nat) => .int .i64 (i : Nat)
theorem nV_length (l : List Nat) : (nV l).length = l.length := by simp [nV]
theorem nV_app (l : List Nat) (i : Nat) : nV (l ++ [i]) = nV l ++ [.int .i64 (i : Nat)] := by simp [nV]
theorem nV_at {l : List Nat} {k i : Nat} (h : l[k]? = some i) : (nV l)[k]? = some (.int .i64 (i : Nat)) := by simp [nV, h]
def inTo (es : List BE) (zone : Int) (k : Nat) : List Nat := inP zone (es.take k).zipIdx
theorem inTo_yes {es : List BE} {zone : Int} {k : Nat} {x : BE} (hx : es[k]? = some x) (h : hits x zone = true) : inTo es zone (k + 1) = inTo es zone k ++ [k] := by unfold inTo; rw [zip_take es hx, inP_yes h]
theorem inTo_no {es : List BE} {zone : Int} {k : Nat} {x : BE} (hx : es[k]? = some x) (h : hits x zone = false) : inTo es zone (k + 1) = inTo es zone k := by unfold inTo; rw [zip_take es hx, inP_no h]
theorem inTo_len (es : List BE) (zone : Int) (k : Nat) : (inTo es zone k).length ≤ k := by
  have h := pickP_len (fun e => hits e zone) (es.take k).zipIdx
  simp at h
  unfold inTo inP
  omega
theorem inTo_all (es : List BE) (zone : Int) : inTo es zone es.length = inL es zone := by unfold inTo inL; rw [List.take_length]
set_option maxRecDepth 100000 in
set_option maxHeartbeats 4000000 in
theorem rIn_any (w : World) (a : Option Addr) (es : List BE) (cp : Nat) (zone : Int) (hR : RowOf w 6 BEC (fun _ => True) a es) (hl : es.length ≤ 100000) :
    Calls Try.prog 44 #[.slice a es.length cp, .int .i64 zone] w fun e w' => ∃ v, e = .returned v ∧ OwnV w' 3 w.heap.size v (nV (inL es zone)) ∧ Below w.heap.size w w' := by
  have HR := Lib.hid hR
  have hinfo : (Try.prog.info? 3).map (fun i => (i.zero, i.size, i.bytes)) = some (some (.int .i64 0), 1, 8) := by kernel_rfl
  have HI := Lib.hid hinfo
  clear hR hinfo
  go_enter Try.func44, Try.ntmps44
  go_wp2
  go_loopw [5, 6] (fun x i wr => ∃ (k : Nat) (o : Value), k ≤ es.length ∧ i = .int .i64 k ∧ o = x ∧ OwnV wr 3 w.heap.size o (nV (inTo es zone k)) ∧ Below w.heap.size w wr) (fun _ i _ => es.length - (intOf i).toNat)
  case atStart => exact ⟨0, _, Nat.zero_le _, rfl, rfl, OwnV.nil _ _ _, Below.refl _ _⟩
  case round =>
    obtain ⟨k, o, hk, rfl, rfl, hown, hB⟩ := hrel
    by_cases hlt : k < es.length
    · obtain ⟨x, hx⟩ : ∃ x, es[k]? = some x := ⟨_, List.getElem?_eq_getElem hlt⟩
      obtain ⟨b, o2, rfl, hbl, -, d0, d1, d2, -⟩ := (HR.out.below hB).ent6 hx
      have HY := Lib.hid (fun h => inTo_yes (zone := zone) hx h)
      have HNO := Lib.hid (fun h => inTo_no (zone := zone) hx h)
      have hlen := inTo_len es zone k
      have HOWN := Lib.hid hown
      have HLEN : Hid ((nV (inTo es zone k)).length ≤ k) := Lib.hid (by rw [nV_length]; exact hlen)
      have zB := hB.size
      clear hx hown hlen
      rcases hits_cases2 x zone with ⟨c1, hh⟩ | ⟨c1, c2, hh⟩ | ⟨c1, c2, c3, hh⟩ | ⟨c1, c2, c3, hh⟩
      · have HE := Lib.hid (HNO.out hh)
        clear hh
        go_wp2
        go_roundw
        case rel => exact ⟨k + 1, _, by omega, by go_num, rfl, by rw [HE.out]; exact HOWN.out, hB⟩
        case measure => simp [intOf]; omega
      · have HE : Hid (nV (inTo es zone (k + 1)) = nV (inTo es zone k) ++ [.int .i64 (k : Nat)]) := Lib.hid (by rw [HY.out hh, nV_app])
        clear hh
        have hown4 := HOWN.out.below ((Below.refl _ wr).alloc (Nat.le_refl _) (.cells #[.int .i64 (k : Nat)] 3))
        have HOG := Lib.hid (fun w' (hg : (wr.alloc (.cells #[.int .i64 (k : Nat)] 3)).grownBy w' o.ownBlock) => hown4.grown hg (by simp; omega))
        go_wp2_with (at_builtin; refine wpList_append_one rfl (.tmp 37) (.tmp 39) 60 rfl 3 (.int .i64 0) 8 Try.underlying60 HI.out rfl w.heap.size _ _ rfl hown4 _ _ _ _ rfl (heap_alloc_new _ _) rfl (by have := HLEN.out; unfold maxLen; omega) (by have := HLEN.out; omega) (by simp; omega) ?_; intro v' w' hv hg)
        have hB2 := ((hB.alloc zB (.cells #[.int .i64 (k : Nat)] 3))).trans (HOG.out _ hg)
        go_roundw
        case rel => exact ⟨k + 1, _, by omega, by go_num, rfl, by rw [HE.out]; exact hv, hB2⟩
        case measure => simp [intOf]; omega
      · have HE : Hid (nV (inTo es zone (k + 1)) = nV (inTo es zone k) ++ [.int .i64 (k : Nat)]) := Lib.hid (by rw [HY.out hh, nV_app])
        clear hh
        have hown4 := HOWN.out.below ((Below.refl _ wr).alloc (Nat.le_refl _) (.cells #[.int .i64 (k : Nat)] 3))
        have HOG := Lib.hid (fun w' (hg : (wr.alloc (.cells #[.int .i64 (k : Nat)] 3)).grownBy w' o.ownBlock) => hown4.grown hg (by simp; omega))
        go_wp2_with (at_builtin; refine wpList_append_one rfl (.tmp 37) (.tmp 39) 60 rfl 3 (.int .i64 0) 8 Try.underlying60 HI.out rfl w.heap.size _ _ rfl hown4 _ _ _ _ rfl (heap_alloc_new _ _) rfl (by have := HLEN.out; unfold maxLen; omega) (by have := HLEN.out; omega) (by simp; omega) ?_; intro v' w' hv hg)
        have hB2 := ((hB.alloc zB (.cells #[.int .i64 (k : Nat)] 3))).trans (HOG.out _ hg)
        go_roundw
        case rel => exact ⟨k + 1, _, by omega, by go_num, rfl, by rw [HE.out]; exact hv, hB2⟩
        case measure => simp [intOf]; omega
      · have HE := Lib.hid (HNO.out hh)
        clear hh
        go_wp2
        go_roundw
        case rel => exact ⟨k + 1, _, by omega, by go_num, rfl, by rw [HE.out]; exact HOWN.out, hB⟩
        case measure => simp [intOf]; omega
    · obtain rfl : k = es.length := by omega
      rw [inTo_all] at hown
      go_wp2
      go_ret
      exact ⟨_, rfl, hown, hB⟩
end Go.Proofs.Yteggijkcdlboeaa
