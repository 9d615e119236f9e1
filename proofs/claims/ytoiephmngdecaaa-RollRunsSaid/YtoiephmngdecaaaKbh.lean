/- Proved here: the walk of the law on how a list is rolled on; Arguments that are frames or sectors, by their cells; the items and the lists of the laws on what a log says, as they come in. -/
import Derived.LoopTactic
import Derived.OpenShut
import Derived.Test.YtoiephmngdecaaaKaa
import Derived.Test.YtoiephmngdecaaaKab
import Derived.Test.YtoiephmngdecaaaKag
import Derived.Test.YtoiephmngdecaaaKaj
import Derived.Test.YtoiephmngdecaaaKao
import Derived.Test.YtoiephmngdecaaaKaq
import Derived.Test.YtoiephmngdecaaaKay
import Derived.Test.YtoiephmngdecaaaKba
import Derived.Test.YtoiephmngdecaaaKbg
namespace Go.Proofs.Ytoiephmngdecaaa
open Go.RowKit Go.Rv Rl Frm
set_option linter.unusedVariables false
attribute [local go_sem] Oper.semAt_some
namespace Rl
theorem step_bits {g : Geo.G} {st : St} {s : Int} {c : Ch} (h : ∀ x ∈ st.single, x = 0 ∨ x = 1) : ∀ x ∈ (step g st s c).single, x = 0 ∨ x = 1 := by
  have hset : ∀ (l : List Int) (k : Nat) (v : Int), (∀ x ∈ l, x = 0 ∨ x = 1) → (v = 0 ∨ v = 1) → ∀ x ∈ l.set k v, x = 0 ∨ x = 1 := fun l k v hl hv x hx => by
    rcases List.mem_or_eq_of_mem_set hx with h1 | h1
    · exact hl x h1
    · rw [h1]; exact hv
  have hlie : ∀ (st : St) (s : Int) (c : Ch), (∀ x ∈ st.single, x = 0 ∨ x = 1) → ∀ x ∈ (lie g st s c).single, x = 0 ∨ x = 1 := fun st s c h => by
    unfold lie; exact hset _ _ _ h (by cases c.single <;> simp)
  have hall : ∀ (l : List Ch) (f : Int) (i : Nat) (st : St), (∀ x ∈ st.single, x = 0 ∨ x = 1) → ∀ x ∈ (lieAll g f l i st).single, x = 0 ∨ x = 1 := by
    intro l
    induction l with
    | nil => intro f i st h; exact h
    | cons c r ih => intro f i st h; unfold lieAll; exact ih f (i + 1) _ (hlie _ _ _ h)
  have htrim : ∀ (n : Nat) (b : Int) (st : St), (∀ x ∈ st.single, x = 0 ∨ x = 1) → ∀ x ∈ (trim g b n st).single, x = 0 ∨ x = 1 := by
    intro n
    induction n with
    | zero => intro b st h; exact h
    | succ n ih => intro b st h; unfold trim; exact ih (b + 1) _ (hset _ _ _ h (.inl rfl))
  have hop : ∀ st : St, ∀ e, (opened st s e).single = st.single := fun st e => by unfold opened; split <;> rfl
  unfold step; split
  · unfold data; simp only; split
    · show ∀ x ∈ (opened st s c.r.e).single, _; rw [hop]; exact h
    · split
      · show ∀ x ∈ (opened st s c.r.e).single, _; rw [hop]; exact h
      · exact hall _ _ _ _ (by rw [hop]; exact h)
  · unfold other; simp only; split
    · exact hlie _ _ _ h
    · exact htrim _ _ _ h
theorem after_bits (g : Geo.G) (R : List (Int × Rec)) (next : Int) (st : St) (h : ∀ x ∈ st.single, x = 0 ∨ x = 1) : ∀ k, ∀ x ∈ (after g R next st k).single, x = 0 ∨ x = 1
  | 0 => h
  | k + 1 => by
    unfold after; exact step_bits (after_bits g R next st h k)
end Rl
/-- the list, as the document has it -/
def FdQ (n : Nat) (l : List Fnd) (u : Value) (w : World) : Prop := ∃ a c, u = .slice a n c ∧ RowOf w 51 fndC FndQ a l
theorem FdQ.st (n : Nat) (l : List Fnd) : ∀ u w w', FdQ n l u w → Below w.heap.size w w' → FdQ n l u w' := fun u w w' ⟨a, c, e, h⟩ hB => ⟨a, c, e, h.below hB⟩
/-- the document's result -/
def RrQ (n : Nat) (L : List BE) (Sg : List Int) (nx ap : Int) (u : Value) (w : World) : Prop := ∃ aL cL aS cS, u = .agg (rrC (.slice aL n cL) nx ap (.slice aS n cS)) ∧ RowOf w 6 BEC (fun _ => True) aL L ∧ RowOf w 1 iC (fun _ => True) aS Sg
theorem RrQ.st (n : Nat) (L : List BE) (Sg : List Int) (nx ap : Int) : ∀ u w w', RrQ n L Sg nx ap u w → Below w.heap.size w w' → RrQ n L Sg nx ap u w' := fun u w w' ⟨aL, cL, aS, cS, e, h1, h2⟩ hB => ⟨aL, cL, aS, cS, e, h1.below hB, h2.below hB⟩
theorem rrFRules : (∀ n l h u w, (Fact.of (FdQ n l) h).p u w = FdQ n l u w) ∧ (∀ n L Sg nx ap h u w, (Fact.of (RrQ n L Sg nx ap) h).p u w = RrQ n L Sg nx ap u w) := ⟨fun _ _ _ _ _ => rfl, fun _ _ _ _ _ _ _ _ => rfl⟩
/-- a row, and a slice in a cell -/
theorem row_cell (w : World) (XZ S1 : Array Value) (v : Value) : ∃ X1 X2, ((w.alloc (.cells XZ 29)).alloc (.cells #[.slice none 0 0] 30)).setRow w.heap.size S1 = X1 ∧ X1.setCell ⟨w.heap.size + 1, 0, none⟩ v = X2 ∧ ((w.alloc (.cells XZ 29)).alloc (.cells #[.slice none 0 0] 30)).heap[w.heap.size]? = some (.cells XZ 29 (0, 0)) ∧ X1.heap[w.heap.size + 1]? = some (.cells #[.slice none 0 0] 30 (0, 0)) ∧
    X2.heap[w.heap.size]? = some (.cells S1 29 (0, 0)) ∧ X2.heap[w.heap.size + 1]? = some (.cells #[v] 30 (0, 0)) ∧ Below w.heap.size w X2 := by
  have h1 : ((w.alloc (.cells XZ 29)).alloc (.cells #[.slice none 0 0] 30)).heap[w.heap.size]? = some (.cells XZ 29 (0, 0)) := (alloc_old _ _ (by simp)).trans (alloc_new _ _ rfl); have h2 : ((w.alloc (.cells XZ 29)).alloc (.cells #[.slice none 0 0] 30)).heap[w.heap.size + 1]? = some (.cells #[.slice none 0 0] 30 (0, 0)) := alloc_new _ _ (by simp); have h3 := setRow_heap _ _ _ S1 _ _ h1; have h4 := (setRow_other ((w.alloc (.cells XZ 29)).alloc (.cells #[.slice none 0 0] 30)) w.heap.size (w.heap.size + 1) S1 (by omega)).trans h2; have hb := ((Below.refl w.heap.size w).alloc (Nat.le_refl _) (.cells XZ 29)).alloc (by simp) (.cells #[.slice none 0 0] 30); have hb2 := below_setRow hb (Nat.le_refl _) S1; refine ⟨_, _, rfl, rfl, h1, h4, (Below.heap_setCell _ ⟨w.heap.size + 1, 0, none⟩ _ w.heap.size (by simp)).trans h3, one_setCell h4, ?_⟩; exact hb2.trans (((Only.refl [w.heap.size + 1] _).setCell (p := ⟨w.heap.size + 1, 0, none⟩) (.inl (by simp)) v).below (B := w.heap.size) (by simp) (by simp; omega))
set_option maxRecDepth 100000 in
set_option maxHeartbeats 64000000 in
theorem roll_runs_walk (w : World) (g : Geo.G) (a1 : Option Addr) (l1 : List (Int × BE)) (c1 : Nat) (epoch next : Int) (a2 : Option Addr) (l2 : List Fnd) (c2 : Nat) (hI1 : RowOf w 7 opC Op64 a1 l1) (hI2 : RowOf w 51 fndC FndQ a2 l2) :
    Calls Try.prog 3 #[.agg (GC g), .slice a1 l1.length c1, .int .i64 epoch, .int .i64 next, .slice a2 l2.length c2] w fun e w' => e = .returned (.bool true) ∧ Below w.heap.size w w' := by
  have HA := Lib.hid (fun (W : World) => roll_anchor W); have HGI := Lib.hid (gsize (g := g)); have HMA : Hid (∀ W, Below w.heap.size w W → Calls Try.prog 10 #[.agg (GC g), .slice a1 l1.length c1, .int .i64 epoch, .int .i64 next] W (MadePost17 W g l1 epoch next)) := Lib.hid (fun W hW => made17_any g a1 l1 c1 epoch next W (hI1.below hW)); have HNW := Lib.hid (fun (W : World) => new_any W); have hzs := (zero_of_info Try.infoSnz).1; have hzf := (zero_of_info Try.infoFnd).1; have hzr := (zero_of_info Try.infoRes).1; have HI2 := Lib.hid hI2; obtain ⟨W0, hW0⟩ : ∃ W, (w.alloc (.cells (GC g) 23)).alloc (.cells #[.bool false] 4) = W := ⟨_, rfl⟩; have hb0 : Below w.heap.size w W0 := by rw [← hW0]; exact ((Below.refl _ _).alloc (Nat.le_refl _) _).alloc (by simp) _
  have hg0 : W0.heap[w.heap.size]? = some (.cells (GC g) 23 (0, 0)) := by rw [← hW0]; exact heap_alloc2_old w _ _
  have hc0 : W0.heap[w.heap.size + 1]? = some (.cells #[.bool false] 4 (0, 0)) := by rw [← hW0]; exact heap_alloc2_new w _ _
  have zg0 : w.heap.size + 1 < W0.heap.size := (Array.getElem?_eq_some_iff.1 hc0).1; have HC0 := Lib.hid hc0; have HW0 := Lib.hid hW0; have HG0 := Lib.hid hg0; have HB0 := Lib.hid hb0; obtain ⟨GX, hGX⟩ : ∃ X, GC g = X := ⟨_, rfl⟩; rw [hGX] at HGI HMA HW0 HG0 ⊢; have HGX := Lib.hid hGX; obtain ⟨TV, hTV⟩ : ∃ T, Tb.tabV = T := ⟨_, rfl⟩; rw [hTV] at HNW; have HTV := Lib.hid hTV; obtain ⟨n1, hn1⟩ : ∃ n, l1.length = n := ⟨_, rfl⟩; rw [hn1] at HMA ⊢; obtain ⟨n2, hn2⟩ : ∃ n, l2.length = n := ⟨_, rfl⟩; rw [hn2]; have HN2 := Lib.hid hn2; obtain ⟨XZ, hXZ⟩ : ∃ X, SZ = X := ⟨_, rfl⟩; rw [hXZ] at hzs; have HXZ := Lib.hid hXZ; clear hI1 hI2 hW0 hb0 hg0 hc0 hGX hTV hn1 hn2 hXZ; refine calls_of_marks Try.func3 rfl ?_; simp only [Try.ntmps3, List.size_toArray, List.length_cons, List.length_nil, Nat.reduceAdd, Nat.reduceSub, Array.replicate_succ, Array.replicate_zero, List.push_toArray, List.append_toArray, List.nil_append, List.cons_append]; go_upto_region 1 with (fail); rw [HW0.out]; go_wp2_with fail; refine (HA.out _).mono ?_; rintro e1 w1 ⟨rfl, hB1⟩; have z1 := hB1.size; have HG1 := Lib.hid ((hB1.block w.heap.size (by omega)).trans HG0.out); have HC1 := Lib.hid ((hB1.block (w.heap.size + 1) zg0).trans HC0.out); have HB1 := Lib.hid (HB0.out.trans (hB1.mono HB0.out.size)); have zc1 := (Array.getElem?_eq_some_iff.1 HC1.out).1; clear hB1; by_cases hbig : 40 < n2
  · have t1 : decide (40 < n2) = true := decide_eq_true hbig; have t2 : decide ((40 : Int) < (n2 : Int)) = true := decide_eq_true (by omega); clear zc1; have hcr := cell_of_one HC1.out; have hfr := free_of_one HC1.out; go_wp2; refine leave_marks (v := .bool true) [] _ (by simp) (by simp) ?_; intro W' hO'; have hr' := hO'.get (one_setCell HC1.out) (by simp); have hc' := cell_of_one hr'; refine ⟨by simp [results, Try.results3, go_sem, hc'], rfl, ?_⟩; have h2 : Only [w.heap.size + 1] w1 (w1.setCell ⟨w.heap.size + 1, 0, none⟩ (.bool true)) := (Only.refl _ _).setCell (.inl (by simp)) _; have h3 : Below w.heap.size w (w1.setCell ⟨w.heap.size + 1, 0, none⟩ (.bool true)) := HB1.out.trans (h2.below (by simp) HB1.out.size); exact h3.trans (hO'.below (by simp) h3.size)
  have t1 : decide (40 < n2) = false := decide_eq_false hbig; have t2 : decide ((40 : Int) < (n2 : Int)) = false := decide_eq_false (by omega); go_upto_region 5 with (fail); clear t1 t2; go_wp2_with (refine wpList_load_row rfl 23 _ rfl w.heap.size rfl 23 _ _ _ HG1.out Try.underlying23 rfl HGI.out ?_); refine (HMA.out _ HB1.out).mono ?_; rintro e3 w3 ⟨S1, v3, ok, rfl, ⟨hS1, hS2, hS3⟩, hB3, hmade⟩; have z3 := hB3.size; have HS1 := Lib.hid hS1; have HS2 := Lib.hid hS2; rw [HXZ.out] at hS3; have HS3 := Lib.hid hS3
  obtain ⟨aE, nE, cE, hv3⟩ : ∃ aE nE cE, v3 = .slice aE nE cE := by
    rcases hmade with ⟨-, -, h⟩ | ⟨-, -, p, le, ll, -, -, -, ho, -⟩
    · exact ⟨none, 0, 0, h⟩
    · obtain ⟨a, c, h, -⟩ := ho.shape kinR; exact ⟨a, _, c, h⟩
  subst hv3; obtain ⟨X1, W4, q1, q2, h1, h2, h3, h4, hb4⟩ := row_cell w3 XZ S1 (.slice aE nE cE); have HX1 := Lib.hid q1; have HX2 := Lib.hid q2; have HR1 := Lib.hid h1; have hcx := cell_of_one h2; have hfx := free_of_one h2; have zs4' := (Array.getElem?_eq_some_iff.1 h4).1; have hb34 := hB3.trans (hb4.mono z3); have HS4 := Lib.hid h3; have HE4 := Lib.hid h4; have HC4 := Lib.hid ((hb34.block (w.heap.size + 1) zc1).trans HC1.out); have HG4 := Lib.hid ((hb34.block w.heap.size (by omega)).trans HG1.out); have HB4 := Lib.hid (HB1.out.trans (hb34.mono HB1.out.size)); have HI4 := Lib.hid (HI2.out.below HB4.out); have HMD := Lib.hid hmade; have HK4 := Lib.hid hb4; have zb4 : w.heap.size + 1 < w3.heap.size := by omega
  clear hB3 hS1 hS2 hS3 q1 q2 h1 h2 h3 h4 hb4 hb34 hmade; go_upto_region 6 with (refine wpList_store_row rfl 29 _ _ rfl w3.heap.size S1 rfl rfl 29 XZ HR1.out HS1.out HS3.out HS2.out ?_; rw [HX1.out]); rw [HX2.out]; clear hcx hfx; obtain ⟨bs, hbs⟩ : ∃ b, w3.heap.size = b := ⟨_, rfl⟩; have HBS := Lib.hid hbs; rw [hbs] at HS4 HE4 zs4' zb4 ⊢; obtain ⟨be, hbe⟩ : ∃ b, bs + 1 = b := ⟨_, rfl⟩; rw [hbe] at HE4 zs4' ⊢; have hbse : w.heap.size + 1 < bs ∧ bs < be := by omega
  have zs4 : bs < W4.heap.size := by omega
  clear hbs hbe; have hsplit : (ok = false ∧ ∀ W, Below W4.heap.size W4 W → Calls Try.prog 11 #[.agg TV, .agg S1, .slice a2 n2 c2] W fun e w' => e = .returned (.tuple #[.agg ResZ, .int .i64 10]) ∧ Below W.heap.size W w') ∨
      (ok = true ∧ Sn.right 1 epoch next (Rl.madeEs g l1) = true ∧ Geo.right g = true ∧ ∃ p le ll, S1 = SnC 1 epoch next p ∧ BmIs W4 p le ll g.b.toNat (nz g) g (Rl.madeEs g l1) (liveL (nz g) (Rl.madeEs g l1)) ∧ MapOk g (Rl.madeEs g l1) ∧ RowOf W4 6 BEC (fun _ => True) aE (Rl.madeEs g l1) ∧ (aE = none → cE = 0) ∧ nE = (Rl.madeEs g l1).length ∧ (∀ x, aE = some x → x.block < W4.heap.size)) := by
    have hk := HK4.out; rcases HMD.out with ⟨rfl, rfl, -⟩ | ⟨hok, hgr, p, le, ll, rfl, hbm, hmo, ho, -⟩
    · refine .inl ⟨rfl, fun W hW => ?_⟩
      have h1 := rrun_bad W SZ (zero_of_info Try.infoSnz).2 (fun W' _ => sright_nil W') a2 n2 c2; rw [HTV.out] at h1; exact h1
    · cases hrt : Sn.right 1 epoch next (Rl.madeEs g l1)
      · rw [hrt] at hok; refine .inl ⟨hok, fun W hW => ?_⟩
        have h1 := rrun_no W p le ll _ _ g _ _ ((hbm.below hk).below hW) (by have h1 := hmo.len; have h2 := ((Geo.right_iff g).1 hgr).1.2.2.2.1.2; omega) 1 epoch next hrt a2 n2 c2; rw [HTV.out] at h1; exact h1
      · rw [hrt] at hok; obtain ⟨a, c, hv, hr, hn0, -, -, hbk⟩ := ho.shape kinR; simp only [Value.slice.injEq] at hv; obtain ⟨rfl, rfl, rfl⟩ := hv; exact .inr ⟨hok, rfl, hgr, p, le, ll, rfl, hbm.below hk, hmo, hr.below hk, hn0, rfl, fun x hx => by have := (hbk x hx).2.1; have := hk.size; omega⟩
  have HSP := Lib.hid hsplit; clear hsplit HMD HK4; rcases HSP.out with ⟨rfl, hrn⟩ | ⟨rfl, hrt, hgr, p, le, ll, rfl, hbm, hmo, hrw, hcE, hnE, hblE⟩
  · have HRN := Lib.hid hrn; clear hrn; go_upto_region 7 with (fail); refine wp_region_conf8 9 [Fact.eq (.agg TV), Fact.eq (.agg S1), Fact.eq (.slice a2 n2 c2), Fact.eq (.tuple #[.agg ResZ, .int .i64 10]), Fact.eq (.tuple #[.agg ResZ, .int .i64 10]), Fact.eq (.agg ResZ), Fact.eq (.int .i64 10), Fact.eq undef, Fact.eq undef] 7 8 ResZ ResZ 35 ?rnA (by kernel_rfl) (by kernel_rfl) (by kernel_rfl) ?rnhA ?rnhs ?rnho ?rnhend
    case rnhA =>
      intro vv; simp only [putRules, Nat.reduceAdd]; rfl
    case rnhs =>
      intro j u W gg hj hg hr hp
      match j, hj with
      | 0, _ => exact hp
      | 1, _ => exact hp
      | 2, _ => exact hp
      | 3, _ => exact hp
      | 4, _ => exact hp
      | 5, _ => exact hp
      | 6, _ => exact hp
      | 7, _ => exact hp
      | 8, _ => exact hp
    case rnho =>
      refine ⟨?_, ?_, ?_, ?_, ?_, ?_, ?_, ?_, ?_, trivial⟩
      · intro vv W K hB hd HK; simp only [confRules, conf8Rules, cond7] at HK; clear hd; go_wp2_with (refine (HNW.out _).mono ?_; rintro e w9 ⟨rfl, hB9⟩); refine HK.out _ _ hB9 ?_; rfl
      · intro vv W K hB hd HK; simp only [confRules, conf8Rules, cond7] at HK; clear hd; have hT := (hB.block bs zs4).trans HS4.out; go_wp2_with (refine wpList_load_row rfl 29 _ rfl bs rfl 29 _ _ _ hT Try.underlying29 rfl HS1.out ?_); refine HK.out _ _ (Below.refl _ _) ?_; rfl
      · intro vv W K hB hd HK; simp only [confRules, conf8Rules, cond7] at HK; clear hd; go_wp2; refine HK.out _ _ (Below.refl _ _) ?_; rfl
      · intro vv W K hB hd HK; simp only [confRules, conf8Rules, cond7] at hd HK; obtain ⟨h0, h1, h2, _⟩ := hd; simp only [h0, h1, h2] at HK ⊢; clear h0 h1 h2; go_wp2_with (refine (HRN.out _ hB).mono ?_; rintro e w9 ⟨rfl, hB9⟩); refine HK.out _ _ hB9 ?_; rfl
      · intro vv W K hB hd HK; simp only [confRules, conf8Rules, cond7] at hd HK; have h3 := hd; clear hd; simp only [h3] at HK ⊢; clear h3; go_wp2; refine HK.out _ _ (Below.refl _ _) ?_; rfl
      · intro vv W K hB hd HK; simp only [confRules, conf8Rules, cond7] at hd HK; have h4 := hd; clear hd; simp only [h4] at HK ⊢; clear h4; go_wp2; refine HK.out _ _ (Below.refl _ _) ?_; rfl
      · intro vv W K hB hd HK; simp only [confRules, conf8Rules, cond7] at hd HK; have h4 := hd; clear hd; simp only [h4] at HK ⊢; clear h4; go_wp2; refine HK.out _ _ (Below.refl _ _) ?_; rfl
      · intro vv W K hB hd HK; simp only [confRules, conf8Rules, cond7] at HK; clear hd; go_wp2; refine HK.out _ _ hB.size ((Below.refl _ _).alloc (Nat.le_refl _) _) (heap_alloc_new _ _)
      · intro vv W K g hB hg hr hp hd HK; simp only [confRules, conf8Rules, cond7] at hd HK; obtain ⟨h5, h3, h0, h1, h2, _, h4, _⟩ := hd; simp only [hp, h5, h3, h0, h1, h2, h4] at HK ⊢; clear h5 h3 h0 h1 h2 h4; go_wp2_with (refine wpList_store_row rfl 35 _ _ rfl g ResZ rfl rfl 35 ResZ hr (zero_of_info Try.infoRes).2 rfl (by simp [ResZ, Value.oneCell']) ?_); refine HK.out undef _ rfl ?_; rfl
    case rnhend =>
    intro vv W g7 hB hf e7 l7 r7; have e6 := hf 6 (by decide) (by decide); simp only [conf8Rules] at e6; simp only [e6, e7, dropRules]; clear hf e7 e6; have HC7 := Lib.hid ((hB.block (w.heap.size + 1) (by omega)).trans HC4.out); have HB7 := Lib.hid (HB4.out.trans (hB.mono HB4.out.size)); obtain ⟨W7, hW7⟩ : ∃ X, W = X := ⟨_, rfl⟩; rw [hW7] at HC7 HB7 ⊢; clear hW7 hB r7 l7 z1 z3 zs4 zs4' zc1; have hcr := cell_of_one HC7.out; have hfr := free_of_one HC7.out; go_wp2; refine leave_marks (v := .bool true) [] _ (by simp) (by simp) ?_; intro W' hO'; have hr' := hO'.get (one_setCell HC7.out) (by simp); have hc' := cell_of_one hr'; refine ⟨by simp [results, Try.results3, go_sem, hc'], rfl, ?_⟩; have h2 : Only [w.heap.size + 1] W7 (W7.setCell ⟨w.heap.size + 1, 0, none⟩ (.bool true)) := (Only.refl _ _).setCell (.inl (by simp)) _; have h3 : Below w.heap.size w (W7.setCell ⟨w.heap.size + 1, 0, none⟩ (.bool true)) := HB7.out.trans (h2.below (by simp) HB7.out.size); exact h3.trans (hO'.below (by simp) h3.size)
  · have HBM4 := Lib.hid hbm; have HOK := Lib.hid hmo; have HGR := Lib.hid hgr; have HRT := Lib.hid hrt; have HRW := Lib.hid hrw; have HCE := Lib.hid hcE; have HNE := Lib.hid hnE; have HBLE := Lib.hid hblE; clear hgr hbm hmo hrt hrw hcE hnE hblE; go_upto_region 9 with (fail); obtain ⟨RA, hRA⟩ : ∃ R, recs g epoch next (l2) = R := ⟨_, rfl⟩; obtain ⟨nA, hnA⟩ : ∃ n, runLen RA next = n := ⟨_, rfl⟩; obtain ⟨stA, hstA⟩ : ∃ s, runSt g (madeEs g l1) next RA = s := ⟨_, rfl⟩; obtain ⟨zsA, hzsA⟩ : ∃ z, zonesOf RA = z := ⟨_, rfl⟩
    have HRUNA : Hid (∀ W, Below W4.heap.size W4 W → Calls Try.prog 11 #[.agg TV, .agg (SnC 1 epoch next p), .slice (a2) n2 (c2)] W fun e w' => ∃ u, e = .returned u ∧ RunT W4.heap.size g next nA stA zsA u w' ∧ Below W.heap.size W w') := Lib.hid (fun W hW => by
      have h1 := rrun_fact W p le ll _ _ g (madeEs g l1) HGR.out (HBM4.out.below hW) HOK.out 1 epoch next HRT.out (a2) (l2) (c2) (HI4.out.below hW) (by have := HN2.out; omega) hW.size; rw [HTV.out, HN2.out, hRA, hnA, hstA, hzsA] at h1; exact h1)
    have HEA := Lib.hid (And.intro hRA (And.intro hnA (And.intro hstA hzsA))); clear hRA hnA hstA hzsA; refine wp_region_conf13 9 [Fact.eq (.agg TV), Fact.eq (.agg (SnC 1 epoch next p)), Fact.eq (.slice a2 n2 c2), Fact.runT W4.heap.size g next nA stA zsA, Fact.runT W4.heap.size g next nA stA zsA, Fact.runA W4.heap.size g next nA stA zsA, Fact.eq (.int .i64 0), Fact.eq undef, Fact.eq undef] 7 8 5 ResZ 35 ?raA (by kernel_rfl) (by kernel_rfl) (by kernel_rfl) (by kernel_rfl) ?rahA ?rahs ?raho ?rahend
    case rahA =>
      intro vv; simp only [putRules, Nat.reduceAdd]; rfl
    case rahs =>
      intro j u W gg C hj hg hr hp
      match j, hj with
      | 0, _ => exact hp
      | 1, _ => exact hp
      | 2, _ => exact hp
      | 3, _ => exact RunT.setRow (show RunT W4.heap.size g next nA stA zsA u W from hp) hr C
      | 4, _ => exact RunT.setRow (show RunT W4.heap.size g next nA stA zsA u W from hp) hr C
      | 5, _ => exact RunA.setRow (show RunA W4.heap.size g next nA stA zsA u W from hp) hr C
      | 6, _ => exact hp
      | 7, _ => exact hp
      | 8, _ => exact hp
    case raho =>
      refine ⟨?_, ?_, ?_, ?_, ?_, ?_, ?_, ?_, ?_, trivial⟩
      · intro vv W K hB hd HK; simp only [confRules, conf8Rules, cond7, runFRules] at HK; clear hd; go_wp2_with (refine (HNW.out _).mono ?_; rintro e w9 ⟨rfl, hB9⟩); refine HK.out _ _ hB9 ?_; rfl
      · intro vv W K hB hd HK; simp only [confRules, conf8Rules, cond7, runFRules] at HK; clear hd; have hT := (hB.block bs zs4).trans HS4.out; go_wp2_with (refine wpList_load_row rfl 29 _ rfl bs rfl 29 _ _ _ hT Try.underlying29 rfl (snsize _ _ _ _) ?_); refine HK.out _ _ (Below.refl _ _) ?_; rfl
      · intro vv W K hB hd HK; simp only [confRules, conf8Rules, cond7, runFRules] at HK; clear hd; go_wp2; refine HK.out _ _ (Below.refl _ _) ?_; rfl
      · intro vv W K hB hd HK; simp only [confRules, conf8Rules, cond7, runFRules] at hd HK; obtain ⟨h0, h1, h2, _⟩ := hd; simp only [h0, h1, h2] at HK ⊢; clear h0 h1 h2; go_wp2_with (refine (HRUNA.out _ hB).mono ?_; rintro e w9 ⟨u9, rfl, hr9, hB9⟩); refine HK.out _ _ hB9 ?_; exact hr9
      · intro vv W K hB hd HK; simp only [confRules, conf8Rules, cond7, runFRules] at hd HK; have r3 := hd; clear hd; simp only [] at HK ⊢; skip; go_wp2; refine HK.out _ _ (Below.refl _ _) ?_; exact r3
      · intro vv W K hB hd HK; simp only [confRules, conf8Rules, cond7, runFRules] at hd HK; have r4 := hd; clear hd; simp only [] at HK ⊢; skip; obtain ⟨pra, lera, llra, cera, clra, avra, cvra, aura, cura, hh, mra⟩ := r4; simp only [hh] at HK ⊢; clear hh; go_wp2; refine HK.out _ _ (Below.refl _ _) ?_; exact ⟨pra, lera, llra, cera, clra, avra, cvra, aura, cura, rfl, mra⟩
      · intro vv W K hB hd HK; simp only [confRules, conf8Rules, cond7, runFRules] at hd HK; have r4 := hd; clear hd; simp only [] at HK ⊢; skip; obtain ⟨pra, lera, llra, cera, clra, avra, cvra, aura, cura, hh, mra⟩ := r4; simp only [hh] at HK ⊢; clear hh; go_wp2; refine HK.out _ _ (Below.refl _ _) ?_; rfl
      · intro vv W K hB hd HK; simp only [confRules, conf8Rules, cond7, runFRules] at HK; clear hd; go_wp2; refine HK.out _ _ hB.size ((Below.refl _ _).alloc (Nat.le_refl _) _) (heap_alloc_new _ _)
      · intro vv W K g hB hg hr hp hd HK; simp only [confRules, conf8Rules, cond7, runFRules] at hd HK; obtain ⟨r5, r3, h0, h1, h2, _, r4, _⟩ := hd; simp only [hp, h0, h1, h2] at HK ⊢; clear h0 h1 h2; obtain ⟨i1, i2, i3, i4⟩ := r5.row; have I4 := Lib.hid i4; clear i4; go_wp2_with (refine wpList_store_row rfl 35 _ _ rfl g (rowT (vv 5)) rfl I4.out 35 ResZ hr i1 i2 i3 ?_); refine HK.out undef _ rfl ?_; rfl
    case rahend =>
    intro vv W gra hB hf e7 lra rra; have e5 := hf 5 (by decide) (by decide); simp only [conf8Rules, runFRules] at e5; obtain ⟨pra, lera, llra, cera, clra, avra, cvra, aura, cura, e5, mra⟩ := e5; have e6 := hf 6 (by decide) (by decide); simp only [conf8Rules, runFRules] at e6; rw [e5] at rra; simp only [e5, e6, e7, dropRules]; clear hf e7 e5 e6; have HC6 := Lib.hid ((hB.block (w.heap.size + 1) (by omega)).trans HC4.out); have HX6 := Lib.hid ((hB.block w.heap.size (by omega)).trans HG4.out); have HE6 := Lib.hid ((hB.block be zs4').trans HE4.out); have HS6 := Lib.hid ((hB.block bs zs4).trans HS4.out); have HBM6 := Lib.hid (HBM4.out.below hB); have HI6 := Lib.hid (HI4.out.below hB); have HW6 := Lib.hid (HRW.out.below hB); have HB6 := Lib.hid (HB4.out.trans (hB.mono HB4.out.size)); have hz6 := hB.size; have HM6 := Lib.hid mra; have HG6 := Lib.hid rra; obtain ⟨w6, hw6⟩ : ∃ w6, W = w6 := ⟨_, rfl⟩; rw [hw6] at HC6 HX6 HE6 HS6 HBM6 HI6 HW6 HB6 HM6 HG6 hz6 ⊢; clear hw6 hB mra rra; obtain ⟨hRA, hnA, hstA, hzsA⟩ := HEA.out; have hlen : ((Rl.madeEs g l1).length : Int) = g.b := by have h1 := HOK.out.len; have h2 := ((Geo.right_iff g).1 HGR.out).1.2.2.2.1.1; omega
    have hnums : 1 ≤ next ∧ next ≤ 281474976710655 := by
      have h1 := HRT.out; unfold Sn.right Sn.nums at h1; simp only [Bool.and_eq_true, Geo.inB_iff] at h1; omega
    have HFO := Lib.hid (fun (W : World) (hW : Below w6.heap.size w6 W) => found_any W a2 l2 c2 (HI6.out.below hW) (by rw [HN2.out]; omega))
    have HFO2 : Hid (∀ W, Below w6.heap.size w6 W → Calls Try.prog 15 #[.slice a2 n2 c2] W fun e w' => ∃ u, e = .returned u ∧ FdQ n2 l2 u w' ∧ Below W.heap.size W w') := Lib.hid (fun W hW => by
      have h1 := HFO.out W hW; rw [HN2.out] at h1; refine h1.mono ?_; rintro e w' ⟨u, rfl, ho, hB'⟩; obtain ⟨a, c, rfl, hr, -⟩ := ho.shape kinFnd; exact ⟨_, rfl, ⟨a, c, by rw [HN2.out], hr⟩, hB'⟩)
    have HRR : Hid (∀ W a9 c9, Below w6.heap.size w6 W → RowOf W 51 fndC FndQ a9 l2 → Calls Try.prog 14 #[.agg GX, .int .i64 epoch, .int .i64 next, .slice aE nE cE, .slice a9 n2 c9] W fun e w' => ∃ u, e = .returned u ∧ RrQ nE stA.es stA.single (next + (nA : Nat)) stA.applied u w' ∧ Below W.heap.size W w') := Lib.hid (fun W a9 c9 hW hI => by
      have h1 := rrun17_any W g HGR.out epoch next (Rl.madeEs g l1) aE cE a9 l2 c9 (HW6.out.below hW) HCE.out (fun x hx => by have h2 := HBLE.out x hx; have h3 := hW.size; omega) hlen hI (by rw [HN2.out]; omega) hnums; rw [hRA, hnA, hstA, HGX.out, ← HNE.out, HN2.out] at h1; refine h1.mono ?_; rintro e w' ⟨aL, cL, aS, cS, rfl, r1, r2, -, hB'⟩; exact ⟨_, rfl, ⟨aL, cL, aS, cS, rfl, r1, r2⟩, hB'⟩)
    have hes : stA.es.length = nE ∧ stA.single.length = nE := by
      have h1 := after_lens g RA next (st0 g (Rl.madeEs g l1)) (runLen RA next); rw [← hstA]; unfold runSt; refine ⟨h1.1.trans HNE.out.symm, h1.2.trans ?_⟩; show (List.replicate g.b.toNat 0).length = nE; rw [List.length_replicate, HNE.out]; omega
    have hbits : ∀ x ∈ stA.single, x = 0 ∨ x = 1 := by
      rw [← hstA]; exact after_bits g RA next _ (fun x hx => .inl (List.eq_of_mem_replicate hx)) _
    have hnE : nE ≤ 256 := by rw [HNE.out]; have h2 := ((Geo.right_iff g).1 HGR.out).1.2.2.2.1.2; omega
    have HSAME : Hid (∀ W aL cL aS cS, Below w6.heap.size w6 W → RowOf W 6 BEC (fun _ => True) aL stA.es → RowOf W 1 iC (fun _ => True) aS stA.single → Calls Try.prog 13 #[.agg (resR next nA stA zsA pra avra cvra aura cura), .agg (rrC (.slice aL nE cL) (next + (nA : Nat)) stA.applied (.slice aS nE cS))] W fun e w' => e = .returned (.bool true) ∧ Below W.heap.size W w') := Lib.hid (fun W aL cL aS cS hW hL hS => by
      have hm := HM6.out.below hW; obtain ⟨a0, c0, e0, h0, -⟩ := hm.sg.shape kinI; simp only [Value.slice.injEq] at e0; have h1 := same17_any W pra _ _ _ _ g stA.es _ stA.single (next + (nA : Nat)) stA.applied avra cvra aura zsA.length cura aL cL aS cS hm.bm (by rw [hes.1]; exact hnE) (fun e he => (hm.ok.ok e he).2) (by rw [e0.1]; exact h0) hL hS (by rw [hes.1, hes.2]) hbits; rw [hes.1] at h1; exact h1)
    have HES := Lib.hid hes; have HNEB := Lib.hid hnE; have HP6 : Hid (w6.cell? ⟨bs, 3, none⟩ = some (.pointer (some ⟨p, 0, none⟩))) := Lib.hid (sn_cells HS6.out).2.2.2; clear hRA hnA hstA hzsA hlen hnums hes hbits HFO; go_upto_region 10 with (fail); refine wp_region_conf2 13 [Fact.eq (.int .i64 0), Fact.eq (.bool false), Fact.eq (.bool false), Fact.eq (.agg (resR next nA stA zsA pra avra cvra aura cura)), Fact.eq (.agg GX), Fact.eq (.int .i64 epoch), Fact.eq (.int .i64 next), Fact.eq (.slice aE nE cE), Fact.eq (.slice a2 n2 c2), Fact.of (FdQ n2 l2) (FdQ.st n2 l2), Fact.of (RrQ nE stA.es stA.single (next + (nA : Nat)) stA.applied) (RrQ.st nE stA.es stA.single (next + (nA : Nat)) stA.applied), Fact.eq (.bool true), Fact.eq (.bool false)] ?rfA (by kernel_rfl) (by kernel_rfl) ?rfhA ?rfho ?rfhend
    case rfhA =>
      intro vv; simp only [putRules, Nat.reduceAdd]; rfl
    case rfho =>
      refine ⟨?_, ?_, ?_, ?_, ?_, ?_, ?_, ?_, ?_, ?_, ?_, ?_, ?_, trivial⟩
      · intro vv W K hB hd HK; simp only [confRules, rrFRules] at HK; clear hd; go_wp2; refine HK.out _ _ (Below.refl _ _) ?_; rfl
      · intro vv W K hB hd HK; simp only [confRules, rrFRules] at hd HK; have h0 := hd; clear hd; simp only [h0] at HK ⊢; clear h0; go_wp2; refine HK.out _ _ (Below.refl _ _) ?_
        first | rfl | exact congrArg Value.bool (by simp)
      · intro vv W K hB hd HK; simp only [confRules, rrFRules] at hd HK; have h1 := hd; clear hd; simp only [h1] at HK ⊢; clear h1; go_wp2; refine HK.out _ _ (Below.refl _ _) ?_; rfl
      · intro vv W K hB hd HK; simp only [confRules, rrFRules] at hd HK; have h2 := hd; clear hd; simp only [h2] at HK ⊢; clear h2; refine wpList_guard_yes (by rfl) ?_; have hT := (hB.block gra (Array.getElem?_eq_some_iff.1 HG6.out).1).trans HG6.out; refine wpList_load_row rfl 35 _ rfl gra rfl 35 _ _ _ hT Try.underlying35 rfl (ressize _ _ _ _ _) ?_; refine HK.out _ _ (Below.refl _ _) ?_; rfl
      · intro vv W K hB hd HK; simp only [confRules, rrFRules] at hd HK; have h2 := hd; clear hd; simp only [h2] at HK ⊢; clear h2; refine wpList_guard_yes (by rfl) ?_; have hT := (hB.block w.heap.size (by omega)).trans HX6.out; refine wpList_load_row rfl 23 _ rfl w.heap.size rfl 23 _ _ _ hT Try.underlying23 rfl HGI.out ?_; refine HK.out _ _ (Below.refl _ _) ?_; rfl
      · intro vv W K hB hd HK; simp only [confRules, rrFRules] at hd HK; have h2 := hd; clear hd; simp only [h2] at HK ⊢; clear h2; refine wpList_guard_yes (by rfl) ?_; go_wp2; refine HK.out _ _ (Below.refl _ _) ?_; rfl
      · intro vv W K hB hd HK; simp only [confRules, rrFRules] at hd HK; have h2 := hd; clear hd; simp only [h2] at HK ⊢; clear h2; refine wpList_guard_yes (by rfl) ?_; go_wp2; refine HK.out _ _ (Below.refl _ _) ?_; rfl
      · intro vv W K hB hd HK; simp only [confRules, rrFRules] at hd HK; have h2 := hd; clear hd; simp only [h2] at HK ⊢; clear h2; refine wpList_guard_yes (by rfl) ?_; have hT := cell_of_one ((hB.block be (by omega)).trans HE6.out); go_wp2; refine HK.out _ _ (Below.refl _ _) ?_; rfl
      · intro vv W K hB hd HK; simp only [confRules, rrFRules] at hd HK; have h2 := hd; clear hd; simp only [h2] at HK ⊢; clear h2; refine wpList_guard_yes (by rfl) ?_; go_wp2; refine HK.out _ _ (Below.refl _ _) ?_; rfl
      · intro vv W K hB hd HK; simp only [confRules, rrFRules] at hd HK; obtain ⟨h8, h2, _⟩ := hd; simp only [h8, h2] at HK ⊢; clear h8 h2; refine wpList_guard_yes (by rfl) ?_; go_wp2_with (refine (HFO2.out _ hB).mono ?_; rintro e w9 ⟨u9, rfl, hr9, hB9⟩); refine HK.out _ _ hB9 ?_; exact hr9
      · intro vv W K hB hd HK; simp only [confRules, rrFRules] at hd HK; obtain ⟨h4, h5, h6, h7, r9, _, h2⟩ := hd; simp only [h4, h5, h6, h7, h2] at HK ⊢; clear h4 h5 h6 h7 h2; refine wpList_guard_yes (by rfl) ?_; obtain ⟨a9, c9, hh, i9⟩ := r9; simp only [hh] at HK ⊢; clear hh; go_wp2_with (refine (HRR.out _ a9 c9 hB i9).mono ?_; rintro e w9 ⟨u9, rfl, hr9, hB9⟩); refine HK.out _ _ hB9 ?_; exact hr9
      · intro vv W K hB hd HK; simp only [confRules, rrFRules] at hd HK; obtain ⟨h3, r10, _, h2⟩ := hd; simp only [h3, h2] at HK ⊢; clear h3 h2; refine wpList_guard_yes (by rfl) ?_; obtain ⟨aL, cL, aS, cS, hh, iL, iS⟩ := r10; simp only [hh] at HK ⊢; clear hh; go_wp2_with (refine (HSAME.out _ aL cL aS cS hB iL iS).mono ?_; rintro e w9 ⟨rfl, hB9⟩); refine HK.out _ _ hB9 ?_; rfl
      · intro vv W K hB hd HK; simp only [confRules, rrFRules] at hd HK; obtain ⟨h11, h2⟩ := hd; simp only [h11, h2] at HK ⊢; clear h11 h2; refine wpList_guard_yes (by rfl) ?_; go_wp2; refine HK.out _ _ (Below.refl _ _) ?_; rfl
    case rfhend =>
    intro vv W hB hf; have e2 := hf 2 (by decide); have e12 := hf 12 (by decide); simp only [endRules, rrFRules] at e2 e12; simp only [e2, e12, dropRules]; clear hf e2 e12; go_upto_region 12 with (fail); have HC7 := Lib.hid ((hB.block (w.heap.size + 1) (by omega)).trans HC6.out); have HE7 := Lib.hid ((hB.block be (by omega)).trans HE6.out); have HBM7 := Lib.hid (HBM6.out.below hB); have HW7 := Lib.hid (HW6.out.below hB); have HB7 := Lib.hid (HB6.out.trans (hB.mono HB6.out.size)); have hp7 := (sn_cells ((hB.block bs (by omega)).trans HS6.out)).2.2.2; have hz7 := hB.size; obtain ⟨w7, hw7⟩ : ∃ w7, W = w7 := ⟨_, rfl⟩; rw [hw7] at HC7 HE7 HBM7 HW7 HB7 hp7 hz7 ⊢; clear hw7 hB; have HAL := Lib.hid (ball_any w7 p _ _ _ HBM7.out.cells.1); have hnE := HNEB.out; go_wp2_with fail; refine HAL.out.mono ?_; rintro e7 w7' ⟨rfl, rfl⟩; obtain ⟨ES, hES⟩ : ∃ e, Rl.madeEs g l1 = e := ⟨_, rfl⟩; have hm7 := HBM7.out; have hok7 := HOK.out; have hw7 := HW7.out; have hne7 := HNE.out; rw [hES] at hm7 hok7 hw7 hne7 ⊢; have HOK7 := Lib.hid hok7; have HRW7 := Lib.hid hw7; have HNE7 := Lib.hid hne7; obtain ⟨W1, hW1⟩ : ∃ W1, w7.alloc (.cells #[.slice (some ⟨le, 0, none⟩) ES.length g.b.toNat] 115) = W1 := ⟨_, rfl⟩; have hb1 : Below w7.heap.size w7 W1 := by rw [← hW1]; exact (Below.refl _ _).alloc (Nat.le_refl _) _
    have hsl : W1.heap[w7.heap.size]? = some (.cells #[.slice (some ⟨le, 0, none⟩) ES.length g.b.toNat] 115 (0, 0)) := by rw [← hW1]; exact heap_alloc_new w7 _
    have hm1 := hm7.below hb1; have hlt := hm1.lt; have HSTP := Lib.hid (eall1_stops 7 (by omega) w7.heap.size le (some ⟨le, 0, none⟩) g.b.toNat ES W1 (cell_of_one hsl) hm1.rows (fun x e => by cases e; rfl) hlt.2.1 (by omega)); have z1' : w7.heap.size < W1.heap.size := (Array.getElem?_eq_some_iff.1 hsl).1; have HE8 := Lib.hid ((hb1.block be (by omega)).trans HE7.out); have HC8 := Lib.hid ((hb1.block (w.heap.size + 1) (by omega)).trans HC7.out); have HB8 := Lib.hid (HB7.out.trans (hb1.mono HB7.out.size)); have HRW8 := Lib.hid (HRW7.out.below hb1); have HIE := Lib.hid (fun e => esize e); have HON := Lib.hid (fun e => BEC_one e); have hz := (zero_of_info Try.infoEnt).1; have HSZ : Hid (∀ e : BE, (BEC BE.zero).size = (BEC e).size) := Lib.hid (fun e => by rw [BEC_size, BEC_size]); have hc1z : w.heap.size + 1 < W1.heap.size := (Array.getElem?_eq_some_iff.1 HC8.out).1; rw [hW1]; clear hp7 hW1 hb1 hsl hm1 hlt hm7 hok7 hw7 hne7 hES; go_wp2; refine (wpIn_wide (n := 8)).1 (wpIn_rangeT2 (encs := ieV) rfl (by omega) (gf := 57) (lb := #[.pointer (some ⟨w7.heap.size, 0, none⟩)]) rfl trivial (enters_of Try.func57 (by kernel_rfl) rfl)
      HSTP.out (Below.refl _ _) (fun _ => rfl)
      [] (by simp) (by simp)
      (fun pre W => Only [] W1 W)
      (fun _ _ _ => False)
      (AbT.only (Nat.le_refl _) (by simp))
      (fun _ => AbT.pure _ _ _) (Only.refl _ _)
      ?fr (fun x Be W' => W'.heap[Be]? = some (.cells (BEC x.1) 54 (0, 0))) (fun x Be => AbT.row (fun _ => BEC x.1) (by simp)) ?assign ?body ?done ?stop)
    case assign =>
      intro rr pre x W2 K _ hI hK; have HK2 := Lib.hid hK; clear hK; unfold ieV; gi_wp2_with (refine wpListIn_store_row (by rfl) 54 _ _ rfl W2.heap.size (BEC x.1) rfl rfl 54 (BEC BE.zero) (heap_alloc_new W2 _) (HIE.out _) (HSZ.out _) (HON.out _) ?_; rw [World.setRow_alloc_new]); obtain ⟨Be, hBe⟩ : ∃ Be, W2.heap.size = Be := ⟨_, rfl⟩; have hn := heap_alloc_new W2 (.cells (BEC x.1) 54); rw [hBe] at hn ⊢; exact HK2.out Be _ ((Only.refl _ _).alloc _) hn
    case body =>
      rintro rr pre x Be W2 _ hrr hO2 hE hlen hsp; obtain ⟨e1, e2, e3, e4⟩ := zip_next hsp; have hmem := List.mem_of_getElem? e2; have h64e := (HOK7.out.ok _ hmem).2; obtain ⟨e, i⟩ := x; simp only at e1 e2 h64e hE; subst e1; have HNQ : Hid (∀ W, (Op.equalIn 10000 55 (.agg (BEC e)) (.agg (BEC e))).run Try.prog W = .ok true W) := Lib.hid (fun W => by have := eq_re17 e e h64e h64e W; rwa [decide_eq_true rfl] at this); have zO := hO2.size; have zB : Be < W2.heap.size := (Array.getElem?_eq_some_iff.1 hE).1; have HE2 := Lib.hid hE; have HO2 := Lib.hid hO2; have hpl : pre.length < ES.length := by assumption
      rw [← HNE7.out] at hpl; have HBE2 := Lib.hid (hO2.get HE8.out (by simp)); obtain ⟨lb, lo, rfl, -, -, -⟩ := HRW8.out.at e2; have zbe2 : be < W2.heap.size := (Array.getElem?_eq_some_iff.1 HBE2.out).1
      have HSIX : Hid (∀ W, Below W2.heap.size W2 W → W.cell? ⟨lb, lo + pre.length * 6, none⟩ = some (.int .i64 e.st) ∧ W.cell? ⟨lb, lo + pre.length * 6 + 1, none⟩ = some (.int .i64 e.z) ∧ W.cell? ⟨lb, lo + pre.length * 6 + 2, none⟩ = some (.int .i64 e.m) ∧ W.cell? ⟨lb, lo + pre.length * 6 + 3, none⟩ = some (.int .i64 e.o) ∧ W.cell? ⟨lb, lo + pre.length * 6 + 4, none⟩ = some (.int .i64 e.q) ∧ W.cell? ⟨lb, lo + pre.length * 6 + 5, none⟩ = some (.int .i64 e.s)) := Lib.hid (fun W hW => by
        obtain ⟨b', o', e', -, hc', -⟩ := ((HRW8.out.only hO2 (fun x _ => by simp)).below hW).at e2; cases e'; exact ⟨hc' 0 (by omega), hc' 1 (by omega), hc' 2 (by omega), hc' 3 (by omega), hc' 4 (by omega), hc' 5 (by omega)⟩)
      have HBEC : Hid (BEC e = #[.int .i64 e.st, .int .i64 e.z, .int .i64 e.m, .int .i64 e.o, .int .i64 e.q, .int .i64 e.s]) := Lib.hid rfl; clear hE hO2 e2 h64e hsp hlen hmem e4; gi_wp2_with fail; refine wpIn_region_conf2 5 [Fact.eq (.agg (BEC e)), Fact.eq (.slice (some ⟨lb, lo, none⟩) nE cE), Fact.eq (.int .i64 (pre.length : Nat)), Fact.eq (.pointer (some ⟨lb, lo + pre.length * 6, none⟩)), Fact.eq (.agg (BEC e))] ?riA (by kernel_rfl) (by kernel_rfl) ?rihA ?riho ?rihend
      case rihA =>
        intro vv; simp only [putRules, Nat.reduceAdd]; rfl
      case riho =>
        refine ⟨?_, ?_, ?_, ?_, ?_, trivial⟩
        · intro vv W K hB hd HK; simp only [confRules] at HK; clear hd; have hT := (hB.block Be zB).trans HE2.out; refine wpListIn_row_on (by rfl) 54 _ rfl Be rfl 54 _ _ _ hT Try.underlying54 rfl (HIE.out _) ?_; refine HK.out _ _ (Below.refl _ _) ?_; rfl
        · intro vv W K hB hd HK; simp only [confRules] at HK; clear hd; have hT := cell_of_one ((hB.block be (by omega)).trans HBE2.out); gi_wp2; refine HK.out _ _ (Below.refl _ _) ?_; rfl
        · intro vv W K hB hd HK; simp only [confRules] at HK; clear hd; gi_wp2; refine HK.out _ _ (Below.refl _ _) ?_; rfl
        · intro vv W K hB hd HK; simp only [confRules] at hd HK; obtain ⟨h1, h2⟩ := hd; simp only [h1, h2] at HK ⊢; clear h1 h2; gi_wp2; refine HK.out _ _ (Below.refl _ _) ?_; rfl
        · intro vv W K hB hd HK; simp only [confRules] at hd HK; have h3 := hd; clear hd; simp only [h3] at HK ⊢; clear h3; obtain ⟨d0, d1, d2, d3, d4, d5⟩ := HSIX.out W hB; rw [HBEC.out] at HK; gi_wp2; refine HK.out _ _ (Below.refl _ _) ?_; rfl
      case rihend =>
      intro vv W hB hf; have e0 := hf 0 (by decide); have e4 := hf 4 (by decide); simp only [endRules] at e0 e4; simp only [e0, e4, dropRules]; clear hf e0 e4; gi_wp2_with (refine wpListIn_neq_on (by rfl) 55 55 _ _ rfl (BEC e) (BEC e) rfl rfl (by kernel_rfl) true HNQ.out ?_); exact ⟨Only.of_below hB, HO2.out.trans (Only.of_below hB)⟩
    case done =>
      rintro D xs W2 hD rfl hO2 hK; have zO := hO2.size; have zD : D < W2.heap.size := (Array.getElem?_eq_some_iff.1 hK).1; have HKD := Lib.hid hK; have HC9 := Lib.hid (hO2.get HC8.out (by simp)); have HB9 := Lib.hid (HB8.out.trans (hO2.below (B := w.heap.size) (by simp) HB8.out.size)); clear hK; have hcr := cell_of_one HC9.out; have hfr := free_of_one HC9.out; go_wp2; refine leave_marks (v := .bool true) [D] _ (by simp) (by intro E hE; rw [List.mem_singleton.1 hE]; exact ((Only.refl [w.heap.size + 1] _).setCell (.inl (by simp)) _).get HKD.out (by simp; omega)) ?_; intro W' hO'; have hr' := hO'.get (one_setCell HC9.out) (by simp; omega); have hc' := cell_of_one hr'; refine ⟨by simp [results, Try.results3, go_sem, hc'], rfl, ?_⟩; have h2 : Only [w.heap.size + 1] W2 (W2.setCell ⟨w.heap.size + 1, 0, none⟩ (.bool true)) := (Only.refl _ _).setCell (.inl (by simp)) _; have h3 : Below w.heap.size w (W2.setCell ⟨w.heap.size + 1, 0, none⟩ (.bool true)) := HB9.out.trans (h2.below (by simp) HB9.out.size); exact h3.trans (hO'.below (by simp; omega) h3.size)
    case stop =>
      rintro D c pre W _ _ h _; exact h.elim
end Go.Proofs.Ytoiephmngdecaaa
namespace Go.Rv
open Go.RowKit
set_option linter.unusedVariables false
theorem chunk_one {cs : List Value} {i : Nat} {v : Value} (h : (cs.drop i).take 1 = [v]) : cs[i]? = some v := by
  have : ((cs.drop i).take 1)[0]? = some v := by rw [h]; rfl
  rw [List.getElem?_take] at this; simpa using this
theorem u8_nat {n : Int} (h : (Lit.int .u8 n).wf = true) : ∃ m : Nat, n = (m : Nat) ∧ m < 256 := by
  obtain ⟨h0, h1⟩ := bounds_u8 h; exact ⟨n.toNat, by omega, by omega⟩
theorem arr_of_fits {P : Program} {w : World} {d : Nat} {t e : TypeId} {n : Nat} {cs : List Value} (hu : P.underlying t = some (.array n e)) (he : P.underlying e = some (.int .u8)) (hc : P.cellsOf e = 1) (ht : P.cellsOf t = n) (h : Fits P w (d + 2) t cs) :
    ∃ l : List Nat, l.length = n ∧ (∀ c ∈ l, c < 256) ∧ cs = (byteCells l).toList := by
  obtain ⟨hl, hi⟩ := fits_array hu h; rw [ht] at hl
  obtain ⟨l, hn, hx⟩ := list_of_forall (Q := fun i (x : Nat) => cs[i]? = some (.int .u8 (x : Nat)) ∧ x < 256) n (fun i hin => by
    have h1 := hi i hin; rw [hc, Nat.mul_one] at h1; obtain ⟨m, h2, h3⟩ := fits_int he h1; obtain ⟨x, rfl, hx⟩ := u8_nat h3; exact ⟨x, chunk_one h2, hx⟩)
  refine ⟨l, hn, fun c hc => ?_, ?_⟩
  · obtain ⟨i, hi⟩ := List.getElem?_of_mem hc; exact (hx i c hi).2
  · apply List.ext_getElem?; intro i; by_cases h : i < n
    · have h1 : l[i]? = some l[i] := List.getElem?_eq_getElem (by omega); rw [(hx i _ h1).1]; have h2 := byteCells_at l i (by omega); rw [Array.getElem?_toList, h2, List.getD_eq_getElem?_getD, h1]; rfl
    · rw [List.getElem?_eq_none (by omega), List.getElem?_eq_none (by rw [Array.length_toList, size_byteCells]; omega)]
end Go.Rv
namespace Go.Proofs.Ytoiephmngdecaaa
open Go.RowKit Go.Rv Frm
theorem six_parts (L : List Value) (a b c d e : Value) (m : List Value) (hl : L.length = 49) (h0 : (L.drop 0).take 1 = [a]) (h1 : (L.drop 1).take 1 = [b]) (h2 : (L.drop 2).take 1 = [c]) (h3 : (L.drop 3).take 1 = [d]) (h4 : (L.drop 4).take 1 = [e]) (h5 : (L.drop 5).take 44 = m) : L = a :: b :: c :: d :: e :: m := by
  match L, hl with
  | x0 :: x1 :: x2 :: x3 :: x4 :: r, hl =>
    simp at h0 h1 h2 h3 h4 h5 hl; subst h0 h1 h2 h3 h4; rw [List.take_of_length_le (by omega)] at h5; rw [h5]
end Go.Proofs.Ytoiephmngdecaaa
namespace Go.Proofs.Ytoiephmngdecaaa
open Go.RowKit Go.Rv Rl Frm
set_option linter.unusedVariables false
set_option maxRecDepth 100000 in
theorem item17_of_fits {d : Nat} {w : World} {cs : List Value} (h : Fits Try.prog w (d + 3) 87 cs) : ∃ x : Int × BE, cs = (opC x).toList ∧ Op64 x := by
  obtain ⟨hl, hx⟩ := fits_struct (d := d + 2) Try.underlying87 h; have k1 : Try.prog.cellsOf 3 = 1 := by kernel_rfl
  have k6 : Try.prog.cellsOf 54 = 6 := by kernel_rfl
  have k7 : Try.prog.cellsOf 87 = 7 := by kernel_rfl
  rw [k7] at hl; simp only [List.forall_mem_cons, k1, k6] at hx; obtain ⟨f0, f1, -⟩ := hx; obtain ⟨n0, c0, w0⟩ := fits_int Try.underlying3 f0; obtain ⟨e, c1, w1⟩ := ent_of_fits6 f1; refine ⟨(n0, e), ?_, w0, w1⟩
  match cs, hl with
  | v :: r, hl =>
    simp at c0 c1 hl; rw [List.take_of_length_le (by omega)] at c1; rw [c0, c1]; rfl
set_option maxRecDepth 100000 in
theorem items17_of_fits {w : World} {a : Option Addr} {len cap : Nat} (h : Fits Try.prog w 6 24 [.slice a len cap]) : ∃ xs : List (Int × BE), xs.length = len ∧ RowOf w 7 opC Op64 a xs ∧ len ≤ cap ∧ cap ≤ 9223372036854775807 ∧ (a = none → cap = 0) :=
  rowOf_of_fits (d := 5) 7 opC Op64 Try.underlying24 (by kernel_rfl) (by omega) (fun cs _ hf => item17_of_fits (d := 2) hf) h
set_option maxRecDepth 100000 in
theorem frame_of_cells4 {w : World} {cs : List Value} (hl : cs.length = 49) (h : Fits Try.prog w 4 68 cs) : ∃ f : Fr, cs = (FC f).toList ∧ FrQ f := by
  obtain ⟨-, hx⟩ := fits_struct (d := 3) Try.underlying68 h; have k1 : Try.prog.cellsOf 3 = 1 := by kernel_rfl
  have k44 : Try.prog.cellsOf 57 = 44 := by kernel_rfl
  simp only [List.forall_mem_cons, k1, k44] at hx; obtain ⟨f0, f1, f2, f3, f4, f5, -⟩ := hx; obtain ⟨n0, c0, w0⟩ := fits_int Try.underlying3 f0; obtain ⟨n1, c1, w1⟩ := fits_int Try.underlying3 f1; obtain ⟨n2, c2, w2⟩ := fits_int Try.underlying3 f2; obtain ⟨n3, c3, w3⟩ := fits_int Try.underlying3 f3; obtain ⟨n4, c4, w4⟩ := fits_int Try.underlying3 f4; obtain ⟨l, hn, hb, c5⟩ := arr_of_fits (d := 1) Try.underlying57 Try.underlying5 (by kernel_rfl) k44 f5; have he := six_parts _ _ _ _ _ _ _ hl c0 c1 c2 c3 c4 c5; refine ⟨⟨n0, n1, n2, n3, n4, l⟩, ?_, ⟨hn, hb⟩, w0, w1, w2, w3, w4⟩; rw [show (FC ⟨n0, n1, n2, n3, n4, l⟩).toList = .int .i64 n0 :: .int .i64 n1 :: .int .i64 n2 :: .int .i64 n3 :: .int .i64 n4 :: (byteCells l).toList from by simp [FC]]; exact he
set_option maxRecDepth 100000 in
theorem found_of_cells {w : World} {cs : List Value} (hl : cs.length = 51) (h : Fits Try.prog w 5 70 cs) : ∃ f : Fnd, cs = (fndC f).toList ∧ FndQ f := by
  obtain ⟨-, hx⟩ := fits_struct (d := 4) Try.underlying70 h; have k1 : Try.prog.cellsOf 3 = 1 := by kernel_rfl
  have k49 : Try.prog.cellsOf 68 = 49 := by kernel_rfl
  simp only [List.forall_mem_cons, k1, k49] at hx; obtain ⟨f0, f1, f2, -⟩ := hx; obtain ⟨n0, c0, w0⟩ := fits_int Try.underlying3 f0; obtain ⟨n1, c1, w1⟩ := fits_int Try.underlying3 f1; obtain ⟨fr, c2, hq⟩ := frame_of_cells4 (by rw [List.length_take, List.length_drop]; omega) f2; refine ⟨⟨n0, n1, fr⟩, ?_, w0, w1, hq⟩
  match cs, hl with
  | x0 :: x1 :: r, hl =>
    simp at c0 c1 c2 hl; rw [List.take_of_length_le (by omega)] at c2; rw [c0, c1, c2]; simp [fndC]
set_option maxRecDepth 100000 in
theorem founds_of_fits {w : World} {a : Option Addr} {len cap : Nat} (h : Fits Try.prog w 6 25 [.slice a len cap]) : ∃ xs : List Fnd, xs.length = len ∧ RowOf w 51 fndC FndQ a xs ∧ len ≤ cap ∧ cap ≤ 9223372036854775807 ∧ (a = none → cap = 0) :=
  rowOf_of_fits 51 fndC FndQ Try.underlying25 (by kernel_rfl) (by omega) (fun _ hl hc => found_of_cells hl hc) h
end Go.Proofs.Ytoiephmngdecaaa
