/- Proved here: the plain facts of the law on pairs of a pool; the steps of a play. -/
import Derived.Test.YtogijlpclceanaaPlAllWalk
import Derived.Test.YtogijlpclceanaaPlOrderWalk
import Derived.Test.YtogijlpclceanaaPlStep
import Derived.Test.YtogijlpclceanaaFit
namespace PoolM
theorem cnt_perm {z : Int} {L M : List Int} (h : L.Perm M) : cnt z L = cnt z M := by
  funext d
  exact (h.filter _).length_eq
theorem npairs_perm {D : Nat} {z : Int} {L M : List Int} (h : L.Perm M) : npairs D z L = npairs D z M := by
  unfold npairs domA
  rw [cnt_perm h, h.length_eq]
theorem less_perm {L : List Int} {x : Int} (hn : L.Nodup) (h : x ∈ L) : (less L x ++ [x]).Perm L := by
  unfold less
  rw [← hn.erase_eq_filter]
  exact (List.perm_append_comm).trans (List.perm_cons_erase h).symm
/-- a pair given back: as many pairs as were -/
theorem pair_back {D : Nat} {z : Int} {L : List Int} {x y : Int} (h : Ok D z L) (hD : 2 ≤ D) (hp : pairZ D z L = some (x, y)) : npairs D z (less (less L x) y ++ [x] ++ [y]) = npairs D z L := by
  obtain ⟨t, u, ha, hb, hb', hx, hy, hy', hne, hxd, hyd⟩ := pairZ_some h hD hp
  apply npairs_perm
  have h1 := less_perm (h.filter (fun y => y != x)).nd hy'
  have h2 := less_perm h.nd hx
  refine List.Perm.trans ?_ h2
  refine List.Perm.trans ?_ (List.Perm.append_right [x] h1)
  show ((less (less L x) y ++ [x]) ++ [y]).Perm ((less (less L x) y ++ [y]) ++ [x])
  rw [List.append_assoc, List.append_assoc]
  exact List.Perm.append_left _ (List.Perm.swap y x [])
theorem cnt_app (z : Int) (L : List Int) (x : Int) (d : Nat) : cnt z (L ++ [x]) d = cnt z L d + if x / z = (d : Int) then 1 else 0 := by
  unfold cnt
  rw [dl_app, List.length_append]
  split <;> rfl
/-- two more zones of unlike domains: at least one more pair -/
theorem two_more {D : Nat} {z : Int} {L : List Int} {x y : Int} (hD : 2 ≤ D) (h : x / z ≠ y / z) : npairs D z L + 1 ≤ npairs D z (L ++ [x] ++ [y]) := by
  obtain ⟨ha, -, hm⟩ := domA_is (D := D) z L hD
  obtain ⟨hb, -, -⟩ := domA_is (D := D) z (L ++ [x] ++ [y]) hD
  unfold npairs pairs
  have h1 := hm _ hb
  have h2 := cnt_app z (L ++ [x]) y (domA D z (L ++ [x] ++ [y]))
  have h3 := cnt_app z L x (domA D z (L ++ [x] ++ [y]))
  have hc : cnt z L (domA D z L) ≤ L.length := List.length_filter_le _ _
  simp only [List.length_append, List.length_cons, List.length_nil]
  have h4 : cnt z (L ++ [x] ++ [y]) (domA D z (L ++ [x] ++ [y])) ≤ cnt z L (domA D z L) + 1 := by
    rw [h2, h3]
    split <;> split <;> omega
  omega
theorem give_ok {D : Nat} {z : Int} {L : List Int} {x : Int} (h : 0 ≤ x ∧ x < (D : Int) * z) (hn : x ∉ L) : giveOf D z L x = (L ++ [x], 0) := by
  unfold giveOf
  rw [if_pos h, if_neg hn]
end PoolM
namespace Go.Proofs.Ytogijlpclceanaa
open Go.Conc Go.RowKit Go.Rv Go.Shelf
set_option linter.unusedVariables false
attribute [local go_sem] Oper.semAt_some
/-- a slice of steps -/
def StepsP (w : World) (a : Option Addr) (xs : List (Int × Int)) : Prop :=
  xs = [] ∨ ∃ b o, a = some ⟨b, o, none⟩ ∧ b < w.heap.size ∧ ∀ k x, xs[k]? = some x → w.cell? ⟨b, o + k * 2, none⟩ = some (.int .i64 x.1) ∧ w.cell? ⟨b, o + k * 2 + 1, none⟩ = some (.int .i64 x.2)
set_option maxRecDepth 100000 in
theorem stepsP_of_fits {w : World} {a : Option Addr} {len cp : Nat} (h : Fits Try.prog w 6 70 [.slice a len cp]) : ∃ xs : List (Int × Int), xs.length = len ∧ StepsP w a xs := by
  have k2 : Try.prog.cellsOf 74 = 2 := by kernel_rfl
  have k1 : Try.prog.cellsOf 3 = 1 := by kernel_rfl
  obtain ⟨-, -, -, hr⟩ := row_of_fits (d := 5) (e := 74) Try.underlying70 (by omega) h
  rcases hr with h0 | ⟨b, o, rfl, hlt, hi⟩
  · exact ⟨[], by simp [h0], .inl rfl⟩
  · obtain ⟨xs, hx1, hx2⟩ := list_of_forall (Q := fun i (x : Int × Int) => w.cell? ⟨b, o + i * 2, none⟩ = some (.int .i64 x.1) ∧ w.cell? ⟨b, o + i * 2 + 1, none⟩ = some (.int .i64 x.2)) len fun i hil => by
      obtain ⟨cs, h1, h2, h3⟩ := hi i hil
      rw [k2] at h1 h2
      obtain ⟨-, h5⟩ := fits_struct Try.underlying74 h3
      have f0 := h5 _ (List.mem_cons_self ..)
      have f1 := h5 _ (List.mem_cons_of_mem _ (List.mem_cons_self ..))
      obtain ⟨n0, e0, w0⟩ := fits_int Try.underlying3 f0
      obtain ⟨n1, e1, w1⟩ := fits_int Try.underlying3 f1
      simp [Lit.wf, IntKind.min, IntKind.max, IntKind.signed, IntKind.bits] at w0 w1
      rw [k1] at e0 e1
      match cs, h1, e0, e1, h2 with
      | [u0, u1], _, e0, e1, h2 =>
        simp at e0 e1
        subst e0 e1
        have c0 := h2 0 (by omega)
        have c1 := h2 1 (by omega)
        exact ⟨(n0, n1), by simpa using c0, by simpa using c1⟩
    exact ⟨xs, hx1, .inr ⟨b, o, rfl, hlt, hx2⟩⟩
end Go.Proofs.Ytogijlpclceanaa
