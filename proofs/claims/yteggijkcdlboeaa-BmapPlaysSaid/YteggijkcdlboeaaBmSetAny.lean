/- Proved here: the contract of the map's Set, at every block and entry; the one of New. -/
import Derived.Test.YteggijkcdlboeaaBmSet
namespace Go.Proofs.Yteggijkcdlboeaa
open Go.RowKit Go.Rv
set_option linter.unusedVariables false
theorem bcnt_any (w : World) (p le ll ce cl : Nat) (g : Geo.G) (es : List BE) (lv : List Int) (h : BmIs w p le ll ce cl g es lv) (e : BE) (b : Int) (hz : ZOk lv.length e) (hb : -1 ≤ b ∧ b ≤ 1) (hv : ∀ x ∈ lv, -99999 ≤ x ∧ x ≤ 99999) (hn : lv.length ≤ 100000) :
    Calls Try.prog 39 #[.pointer (some ⟨p, 0, none⟩), .agg (BEC e), .int .i64 b] w fun x w' => (∃ v, x = .returned v) ∧ BmIs w' p le ll ce cl g es (addE lv e b) ∧ Only [ll] w w' := by
  by_cases h1 : e.st = 1
  · obtain ⟨⟨hz1, hz2⟩, ⟨hm1, hm2⟩, hne⟩ := hz h1
    obtain ⟨st, z, m, o, q, s⟩ := e
    simp only at h1 hz1 hz2 hm1 hm2
    subst h1
    obtain ⟨z, rfl⟩ := Int.eq_ofNat_of_zero_le hz1
    obtain ⟨m, rfl⟩ := Int.eq_ofNat_of_zero_le hm1
    have hzl : z < lv.length := by omega
    have hml : m < lv.length := by omega
    have ex : lv[z]? = some lv[z] := List.getElem?_eq_getElem hzl
    have hx := hv lv[z] (List.getElem_mem hzl)
    have hml' : m < (lv.set z (lv[z] + b)).length := by rw [List.length_set]; exact hml
    have ey : (lv.set z (lv[z] + b))[m]? = some (lv.set z (lv[z] + b))[m] := List.getElem?_eq_getElem hml'
    have hy : -100000 ≤ (lv.set z (lv[z] + b))[m] ∧ (lv.set z (lv[z] + b))[m] ≤ 100000 := by
      rw [List.getElem_set]
      split
      · omega
      · have := hv lv[m] (List.getElem_mem hml)
        omega
    have ha : addE lv ⟨1, (z : Nat), (m : Nat), o, q, s⟩ b = (lv.set z (lv[z] + b)).set m ((lv.set z (lv[z] + b))[m] + b) := by
      unfold addE
      rw [if_pos rfl]
      simp only [Int.toNat_natCast]
      rw [show lv.getD z 0 = lv[z] by rw [List.getD_eq_getElem?_getD, ex]; rfl, show (lv.set z (lv[z] + b)).getD m 0 = (lv.set z (lv[z] + b))[m] by rw [List.getD_eq_getElem?_getD, ey]; rfl]
    rw [ha]
    exact bcnt_yes w p le ll ce cl g es lv h z m o q s b _ _ ex ey hb ⟨by omega, by omega⟩ hy hn
  · have ha : addE lv e b = lv := if_neg h1
    rw [ha]
    refine (bcnt_no w p e b (by simpa using h1)).mono ?_
    rintro x w' ⟨hx, hB⟩
    exact ⟨hx, h.below hB, Only.of_below hB⟩
/-- what Set answers, and what it leaves -/
def setErr (g : Geo.G) (es : List BE) (k : Int) (e : BE) : Int := if k < 0 ∨ (es.length : Int) ≤ k then 13 else if beRight g e = true then 0 else 10
def setEs (g : Geo.G) (es : List BE) (k : Int) (e : BE) : List BE := if k < 0 ∨ (es.length : Int) ≤ k then es else if beRight g e = true then es.set k.toNat e else es
def nz (g : Geo.G) : Nat := (g.d * g.z).toNat
theorem setEs_ok {g : Geo.G} {es : List BE} (h : MapOk g es) {e : BE} (hn : E64 e) (k : Int) : MapOk g (setEs g es k e) := by
  unfold setEs
  split
  · exact h
  · split
    · exact h.set (by assumption) hn _
    · exact h
theorem setEs_length (g : Geo.G) (es : List BE) (k : Int) (e : BE) : (setEs g es k e).length = es.length := by
  unfold setEs
  split
  · rfl
  · split
    · simp
    · rfl
theorem bset_any (w : World) (p le ll ce cl : Nat) (g : Geo.G) (es : List BE) (hr : Geo.right g = true) (hM : MapOk g es) (h : BmIs w p le ll ce cl g es (liveL (nz g) es)) (k : Int) (e : BE) (hn : E64 e) :
    Calls Try.prog 26 #[.pointer (some ⟨p, 0, none⟩), .int .i64 k, .agg (BEC e)] w fun x w' => x = .returned (.int .i64 (setErr g es k e)) ∧ BmIs w' p le ll ce cl g (setEs g es k e) (liveL (nz g) (setEs g es k e)) ∧ Only [le, ll] w w' := by
  have hs := ((Geo.right_iff g).1 hr).1
  have hes : es.length ≤ 256 := by have h1 := hM.len; have h2 := hs.2.2.2.1.2; omega
  have hnz : nz g ≤ 512 := by have := (Geo.dz_bd hs).2; unfold nz; omega
  unfold setErr setEs
  by_cases hk : k < 0 ∨ (es.length : Int) ≤ k
  · rw [if_pos hk, if_pos hk]
    refine (bset_out w p le ll ce cl g es _ h k e hk).mono ?_
    rintro x w' ⟨hx, hB⟩
    exact ⟨hx, h.below hB, Only.of_below hB⟩
  · rw [if_neg hk, if_neg hk]
    obtain ⟨j, rfl⟩ : ∃ j : Nat, k = j := ⟨k.toNat, by omega⟩
    have hj : j < es.length := by omega
    have hold : es[j]? = some es[j] := List.getElem?_eq_getElem hj
    have hR := fun (W : World) => bright_any g e W hr hn
    cases hb : beRight g e
    · rw [hb] at hR
      simp only [Bool.false_eq_true, if_false]
      refine (bset_bad w p le ll ce cl g es _ h j e _ hold (by omega) hR).mono ?_
      rintro x w' ⟨hx, hB⟩
      exact ⟨hx, h.below hB, Only.of_below hB⟩
    · rw [hb] at hR
      simp only [if_true, Int.toNat_natCast]
      have ho : ZOk (nz g) es[j] := zok_of_right hs (hM.ok _ (List.getElem_mem hj)).1
      have he : ZOk (nz g) e := zok_of_right hs hb
      have hst := liveL_step hold ho he
      have hlv : ∀ x ∈ liveL (nz g) es, 0 ≤ x ∧ x ≤ 256 := fun x hx => by
        simp only [liveL, List.mem_map, List.mem_range] at hx
        obtain ⟨a, ha, rfl⟩ := hx
        have := liveN_le es a
        omega
      have hlv1 : ∀ x ∈ addE (liveL (nz g) es) es[j] (-1), -99999 ≤ x ∧ x ≤ 99999 := fun x hx => by
        obtain ⟨i, hi, rfl⟩ := List.getElem_of_mem hx
        have hi' : i < nz g := by rw [addE_length, liveL_length] at hi; exact hi
        have h1 := addE_at (b := -1) (liveL_length (nz g) es) ho hi'
        rw [List.getD_eq_getElem?_getD, List.getElem?_eq_getElem hi] at h1
        simp only [Option.getD_some] at h1
        have h2 : (liveL (nz g) es).getD i 0 = (liveN es i : Int) := by rw [List.getD_eq_getElem?_getD, liveL_at hi']; rfl
        have h3 := liveN_le es i
        rw [h1, h2]
        split <;> omega
      refine (bset_ok w p le ll ce cl g es _ h j e _ hold (by omega) (addE (liveL (nz g) es) es[j] (-1)) (liveL (nz g) (es.set j e)) hR (fun W hW => ?_) (fun W hW => ?_))
      · exact bcnt_any W p le ll ce cl g es _ hW es[j] (-1) (by rw [liveL_length]; exact ho) (by omega) (fun x hx => by have := hlv x hx; omega) (by rw [liveL_length]; omega)
      · have := bcnt_any W p le ll ce cl g es _ hW e 1 (by rw [addE_length, liveL_length]; exact he) (by omega) hlv1 (by rw [addE_length, liveL_length]; omega)
        rwa [hst] at this
end Go.Proofs.Yteggijkcdlboeaa
