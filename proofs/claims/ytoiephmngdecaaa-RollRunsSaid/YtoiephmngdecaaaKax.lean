/- Proved here: A law over any program: a region that draws its order, in which one operation makes a block, one stores a row into it that a slot tells, in an open order, and the others turn nothing: with facts of all other slots; what Run gives, as facts of a drawn region: they outlast new blocks and the store of a result; the laws' anchor (the document's example): both copies of a group of two Data, and the first alone. -/
import Derived.LoopTactic
import Derived.Test.YtoiephmngdecaaaKab
import Derived.Test.YtoiephmngdecaaaKad
import Derived.Test.YtoiephmngdecaaaKag
import Derived.Test.YtoiephmngdecaaaKaq
import Derived.Test.YtoiephmngdecaaaKau
import Derived.Test.YtoiephmngdecaaaKaw
namespace Go.Rv
open Go.RowKit
set_option linter.unusedVariables false
def rowT : Value → Array Value
  | .agg C => C
  | _ => #[]
def Obl13 (P : Program) (ops : Array Oper) (Q : Exit → Act → World → Prop) (A : (Nat → Value) → Act) (w0 : World) (F : List Fact) (ia is jx : Nat) (Z : Array Value) (t : TypeId) (i : Nat) (o : Oper) : Prop :=
  cond (i == ia) (∀ (v : Nat → Value) (w : World) (K : Act → World → Prop), Below w0.heap.size w0 w → Deps8 ia F v w o.after.toList →
      Hid (∀ g w', w0.heap.size ≤ g → Below w.heap.size w w' → w'.heap[g]? = some (.cells Z t (0, 0)) → K ((A v).put o.dst (.pointer (some ⟨g, 0, none⟩))) w') → wpList P ops (Exit.then K Q) [o] (A v) w)
    (cond (i == is) (∀ (v : Nat → Value) (w : World) (K : Act → World → Prop) (g : Nat), Below w0.heap.size w0 w → w0.heap.size ≤ g → w.heap[g]? = some (.cells Z t (0, 0)) → v ia = .pointer (some ⟨g, 0, none⟩) → Deps8 ia F v w o.after.toList →
      Hid (∀ u w', w' = w.setRow g (rowT (v jx)) → fp8 F i u w' → K ((A v).put o.dst u) w') → wpList P ops (Exit.then K Q) [o] (A v) w)
    (∀ (v : Nat → Value) (w : World) (K : Act → World → Prop), Below w0.heap.size w0 w → Deps8 ia F v w o.after.toList →
        Hid (∀ u w', Below w.heap.size w w' → fp8 F i u w' → K ((A v).put o.dst u) w') → wpList P ops (Exit.then K Q) [o] (A v) w))
def Obls13 (P : Program) (ops : Array Oper) (Q : Exit → Act → World → Prop) (A : (Nat → Value) → Act) (w0 : World) (F : List Fact) (ia is jx : Nat) (Z : Array Value) (t : TypeId) : Nat → List Oper → Prop
  | _, [] => True
  | i, o :: r => Obl13 P ops Q A w0 F ia is jx Z t i o ∧ Obls13 P ops Q A w0 F ia is jx Z t (i + 1) r
theorem Obls13.at {P : Program} {ops : Array Oper} {Q : Exit → Act → World → Prop} {A : (Nat → Value) → Act} {w0 : World} {F : List Fact} {ia is jx : Nat} {Z : Array Value} {t : TypeId} : ∀ {k : Nat} {l : List Oper}, Obls13 P ops Q A w0 F ia is jx Z t k l → ∀ {i : Nat} {o : Oper}, l[i]? = some o → Obl13 P ops Q A w0 F ia is jx Z t (k + i) o
  | _, [], _, _, _, h => by simp at h
  | k, _ :: r, h, 0, _, ho => by simp at ho; subst ho; exact h.1
  | k, _ :: r, h, i + 1, _, ho => by
    have := Obls13.at h.2 (i := i) (by simpa using ho)
    rwa [show k + 1 + i = k + (i + 1) by omega] at this
theorem wp_region_conf13 {P : Program} {ops : Array Oper} {Q : Exit → Act → World → Prop} {a0 : Act} {w0 : World} {id : Nat} (n : Nat) (F : List Fact) (ia is jx : Nat) (Z : Array Value) (t : TypeId) (A : (Nat → Value) → Act) (hm : P.follows .mixedOrders = true) (hok : confOk ops n = true) (hso : storeOk ops [] n ia is = true) (hjx : (decide (jx < n) && !(jx == ia) && !(jx == is) && (match ops[is]? with | some o => o.after.any fun e => Region.binds .any e && e.on == jx | none => false)) = true)
    (hA : ∀ v, putAll v 0 (ops.toList.take n) a0 = A v) (hFs : ∀ j u w g C, j < n → w0.heap.size ≤ g → w.heap[g]? = some (.cells Z t (0, 0)) → fp8 F j u w → fp8 F j u (w.setRow g C)) (ho : Obls13 P ops Q A w0 F ia is jx Z t 0 (ops.toList.take n))
    (hend : ∀ v w g, Below w0.heap.size w0 w → (∀ j, j < n → (j == ia) = false → fp8 F j (v j) w) → v ia = .pointer (some ⟨g, 0, none⟩) → w0.heap.size ≤ g → w.heap[g]? = some (.cells (rowT (v jx)) t (0, 0)) → wpList P ops Q (ops.toList.drop n) (A v) w) : (Code.region id ops true).wp P Q a0 w0 := by
  simp only [storeOk, Bool.and_eq_true, decide_eq_true_eq, Bool.not_eq_true', beq_eq_false_iff_ne] at hso; obtain ⟨⟨⟨⟨⟨hia, his⟩, hne⟩, -⟩, -⟩, hsd⟩ := hso; simp only [Bool.and_eq_true, decide_eq_true_eq, Bool.not_eq_true', beq_eq_false_iff_ne] at hjx; obtain ⟨⟨⟨hjn, hja⟩, hjs⟩, hjd⟩ := hjx; refine wp_region_conf3 n (fun L v w => (∀ j, j < n → j ≠ ia → L.getD j false = true → fp8 F j (v j) w) ∧ Below w0.heap.size w0 w ∧ (L.getD is false = true → L.getD ia false = true ∧ L.getD jx false = true) ∧ (L.getD ia false = true → ∃ g, v ia = .pointer (some ⟨g, 0, none⟩) ∧ w0.heap.size ≤ g ∧ w.heap[g]? = some (.cells (cond (L.getD is false) (rowT (v jx)) Z) t (0, 0)))) A hm hok hA ?_ ?_ ?_
  · intro i o hin hoi L v w K hui hdep ⟨hv, hBw, hsa, hrow⟩ HK
    have hilt : i < L.size := by
      rcases Nat.lt_or_ge i L.size with h | h
      · exact h
      · simp [Array.getElem?_eq_none h] at hui
    have hif : L.getD i false = false := by simp [hilt] at hui ⊢; exact hui
    have hit : (L.setIfInBounds i true).getD i false = true := by simp [hilt]
    have hbk : edgesBack 0 ops.toList = true := by
      simp only [confOk, Bool.and_eq_true] at hok; exact hok.1.1.1.1.2
    have hdv : ∀ l : List Edge, (∀ e ∈ l, e ∈ o.after) → Deps8 ia F v w l := by
      intro l
      induction l with
      | nil => intro _; exact trivial
      | cons e r ihl =>
        intro hl; refine ⟨fun hb => ?_, ihl fun x hx => hl x (by simp [hx])⟩; cases hea : e.on == ia
        · have := edgesBack_spec hbk (i := i) (o := o) (by simpa using hoi) e (hl e (by simp)) hb; exact hv e.on (by omega) (by simpa using hea) (hdep e (hl e (by simp)) hb)
        · trivial
    have hdv := hdv o.after.toList (fun e he => by simpa using he); have ob := ho.at (i := i) (o := o) (by simp [hin, hoi]); rw [Nat.zero_add] at ob
    have hv' : ∀ u w', (∀ j, j < n → fp8 F j (v j) w → fp8 F j (v j) w') → (i ≠ ia → fp8 F i u w') → ∀ j, j < n → j ≠ ia → (L.setIfInBounds i true).getD j false = true → fp8 F j (upd v i u j) w' := fun u w' hkeep hu j hj hja hl => by
      by_cases hji : j = i
      · subst hji; rw [show upd v j u j = u by simp [upd]]; exact hu hja
      · rw [show upd v i u j = v j by simp [upd, hji]]; rw [getD_set_ne false (Ne.symm hji)] at hl; exact hkeep j hj (hv j hj hja hl)
    have hbel : ∀ w', Below w.heap.size w w' → ∀ j, j < n → fp8 F j (v j) w → fp8 F j (v j) w' := fun w' hB j _ h => (F.getD j Fact.any).st _ _ _ h hB; unfold Obl13 at ob; cases hia' : i == ia
    · rw [hia'] at ob; have hia2 : i ≠ ia := by simpa using hia'
      cases his' : i == is
      · rw [his'] at ob; have his2 : i ≠ is := by simpa using his'
        simp only [cond_false] at ob; refine ob v w K hBw hdv (Lib.hid fun u w' hB hu => HK.out u w' ⟨hv' u w' (hbel w' hB) (fun _ => hu), hBw.trans (hB.mono hBw.size), ?_, ?_⟩)
        · rw [getD_set_ne false his2, getD_set_ne false hia2]; intro h; obtain ⟨h1, h2⟩ := hsa h; refine ⟨h1, ?_⟩; by_cases hij : i = jx
          · subst hij; exact hit
          · rw [getD_set_ne false hij]; exact h2
        · rw [getD_set_ne false his2, getD_set_ne false hia2]; intro h; obtain ⟨g, h1, h2, h3⟩ := hrow h
          have he : cond (L.getD is false) (rowT (upd v i u jx)) Z = cond (L.getD is false) (rowT (v jx)) Z := by
            cases hL : L.getD is false
            · rfl
            · have hj := (hsa hL).2
              have hij : i ≠ jx := fun e => by
                subst e; rw [hif] at hj; cases hj
              rw [show upd v i u jx = v jx by simp [upd, Ne.symm hij]]
          rw [he]; exact ⟨g, by rw [show upd v i u ia = v ia by simp [upd, Ne.symm hia2]]; exact h1, h2, (hB.block g (Array.getElem?_eq_some_iff.1 h3).1).trans h3⟩
      · rw [his'] at ob; have his2 : i = is := by simpa using his'
        subst his2; simp only [cond_false, cond_true] at ob
        have hLa : L.getD ia false = true := by
          rw [hoi] at hsd; obtain ⟨e, he, h3⟩ := Array.any_eq_true.1 hsd; rw [Bool.and_eq_true, beq_iff_eq] at h3; have := hdep _ (Array.getElem_mem he) h3.1
          rwa [h3.2] at this
        have hLj : L.getD jx false = true := by
          rw [hoi] at hjd; obtain ⟨e, he, h3⟩ := Array.any_eq_true.1 hjd; rw [Bool.and_eq_true, beq_iff_eq] at h3; have := hdep _ (Array.getElem_mem he) h3.1
          rwa [h3.2] at this
        obtain ⟨g, h1, h2, h3⟩ := hrow hLa; rw [hif] at h3; refine ob v w K g hBw h2 h3 h1 hdv (Lib.hid fun u w' hw hu => ?_); subst hw; refine HK.out u _ ⟨hv' u _ (fun j hj h => hFs j _ w g _ hj h2 h3 h) (fun _ => hu), below_setRow hBw h2 _, ?_, ?_⟩
        · intro _; rw [getD_set_ne false hia2, getD_set_ne false (Ne.symm hjs)]; exact ⟨hLa, hLj⟩
        · intro _; rw [hit, show upd v i u jx = v jx by simp [upd, hjs]]; exact ⟨g, by rw [show upd v i u ia = v ia by simp [upd, Ne.symm hia2]]; exact h1, h2, setRow_heap w g Z (rowT (v jx)) t _ h3⟩
    · rw [hia'] at ob; have hia2 : i = ia := by simpa using hia'
      subst hia2; simp only [cond_true] at ob
      have hLs : L.getD is false = false := by
        cases h : L.getD is false
        · rfl
        · have := (hsa h).1; rw [hif] at this; cases this
      refine ob v w K hBw hdv (Lib.hid fun g w' hg hB hr => ?_); refine HK.out _ w' ⟨hv' _ w' (hbel w' hB) (fun h => absurd rfl h), hBw.trans (hB.mono hBw.size), ?_, ?_⟩
      · rw [getD_set_ne false hne, hLs]; intro h; cases h
      · intro _; rw [getD_set_ne false hne, hLs]; exact ⟨g, by simp [upd], hg, hr⟩
  · intro v; exact ⟨fun j hj _ hl => (by rw [getD_replicate_false] at hl; cases hl), (Below.refl _ _).drew, fun hl => (by rw [getD_replicate_false] at hl; cases hl), fun hl => (by rw [getD_replicate_false] at hl; cases hl)⟩
  · intro v w ⟨hv, hBw, hsa, hrow⟩
    have hall : ∀ j, j < n → (headListed n (ops.size - n)).getD j false = true := fun j hj => by
      simp only [headListed]; rw [Array.getD_eq_getD_getElem?, List.getElem?_toArray, List.getElem?_append_left (by simpa using hj)]; simp [hj]
    obtain ⟨g, h1, h2, h3⟩ := hrow (hall ia hia); rw [hall is his] at h3; exact hend v w g hBw (fun j hj hja => hv j hj (by simpa using hja) (hall j hj)) h1 h2 h3
end Go.Rv
namespace Go.Proofs.Ytoiephmngdecaaa
open Go.RowKit Go.Rv Rl Frm
set_option linter.unusedVariables false
/-- what Run has made -/
structure RunMem (w : World) (B : Nat) (g : Geo.G) (st : St) (zs : List Int) (p le ll ce cl : Nat) (v u : Value) : Prop where
  bm : BmIs w p le ll ce cl g st.es (liveL (nz g) st.es)
  ok : MapOk g st.es
  sg : OwnM w 3 1 iC (fun _ => True) B v (Rl.singles st.single 0)
  zn : OwnM w 3 1 iC (fun _ => True) B u zs
  hB : B ≤ p ∧ B ≤ le ∧ B ≤ ll
theorem RunMem.below {w w' : World} {B : Nat} {g : Geo.G} {st : St} {zs : List Int} {p le ll ce cl : Nat} {v u : Value} (h : RunMem w B g st zs p le ll ce cl v u) (hb : Below w.heap.size w w') : RunMem w' B g st zs p le ll ce cl v u :=
  ⟨h.bm.below hb, h.ok, h.sg.below hb, h.zn.below hb, h.hB⟩
/-- blocks of other types are written -/
theorem RunMem.only {w w' : World} {S : List Nat} {B : Nat} {g : Geo.G} {st : St} {zs : List Int} {p le ll ce cl : Nat} {v u : Value} (h : RunMem w B g st zs p le ll ce cl v u) (hO : Only S w w')
    (hS : ∀ k ∈ S, ∃ C t fr, w.heap[k]? = some (.cells C t fr) ∧ t ≠ 3 ∧ t ≠ 117 ∧ t ≠ 54) : RunMem w' B g st zs p le ll ce cl v u := by
  have key : ∀ k C t fr, w.heap[k]? = some (.cells C t fr) → (t = 3 ∨ t = 117 ∨ t = 54) → k ∉ S := by
    intro k C t fr hk ht hm; obtain ⟨C', t', fr', h1, h2, h3, h4⟩ := hS k hm; rw [hk] at h1; cases h1; rcases ht with e | e | e
    · exact h2 e
    · exact h3 e
    · exact h4 e
  obtain ⟨L, hL, -⟩ := h.bm.he; obtain ⟨V, hV, -⟩ := h.bm.hl; refine ⟨h.bm.only hO (key _ _ _ _ h.bm.hp (.inr (.inl rfl))) (key _ _ _ _ hL (.inr (.inr rfl))) (key _ _ _ _ hV (.inl rfl)), h.ok, h.sg.only hO (fun k hk => ?_), h.zn.only hO (fun k hk => ?_), h.hB⟩
  · obtain ⟨-, C, hC⟩ := h.sg.base_le hk; exact key _ _ _ _ hC (.inl rfl)
  · obtain ⟨-, C, hC⟩ := h.zn.base_le hk; exact key _ _ _ _ hC (.inl rfl)
theorem RunMem.setRow {w : World} {B : Nat} {g : Geo.G} {st : St} {zs : List Int} {p le ll ce cl : Nat} {v u : Value} (h : RunMem w B g st zs p le ll ce cl v u) {k : Nat} {Z : Array Value} (hk : w.heap[k]? = some (.cells Z 35 (0, 0))) (C : Array Value) : RunMem (w.setRow k C) B g st zs p le ll ce cl v u :=
  h.only (only_set1 w k C) (fun j hj => by
    simp only [List.mem_singleton] at hj; subst hj; exact ⟨_, _, _, hk, by decide, by decide, by decide⟩)
/-- the cells of a result, as Run gives them -/
def resR (next : Int) (n : Nat) (st : St) (zs : List Int) (p : Nat) (av : Option Addr) (cv : Nat) (au : Option Addr) (cu : Nat) : Array Value := resC p (next + (n : Nat)) st.applied (.slice av (Rl.singles st.single 0).length cv) (.slice au zs.length cu)
/-- a result -/
def RunA (B : Nat) (g : Geo.G) (next : Int) (n : Nat) (st : St) (zs : List Int) (u : Value) (w : World) : Prop :=
  ∃ p le ll ce cl av cv au cu, u = .agg (resR next n st zs p av cv au cu) ∧ RunMem w B g st zs p le ll ce cl (.slice av (Rl.singles st.single 0).length cv) (.slice au zs.length cu)
/-- a result, and that there was no error -/
def RunT (B : Nat) (g : Geo.G) (next : Int) (n : Nat) (st : St) (zs : List Int) (u : Value) (w : World) : Prop :=
  ∃ p le ll ce cl av cv au cu, u = .tuple #[.agg (resR next n st zs p av cv au cu), .int .i64 0] ∧ RunMem w B g st zs p le ll ce cl (.slice av (Rl.singles st.single 0).length cv) (.slice au zs.length cu)
theorem RunA.st (B : Nat) (g : Geo.G) (next : Int) (n : Nat) (st : St) (zs : List Int) : ∀ u w w', RunA B g next n st zs u w → Below w.heap.size w w' → RunA B g next n st zs u w' := fun u w w' ⟨p, le, ll, ce, cl, av, cv, au, cu, e, h⟩ hB => ⟨p, le, ll, ce, cl, av, cv, au, cu, e, h.below hB⟩
theorem RunT.st (B : Nat) (g : Geo.G) (next : Int) (n : Nat) (st : St) (zs : List Int) : ∀ u w w', RunT B g next n st zs u w → Below w.heap.size w w' → RunT B g next n st zs u w' := fun u w w' ⟨p, le, ll, ce, cl, av, cv, au, cu, e, h⟩ hB => ⟨p, le, ll, ce, cl, av, cv, au, cu, e, h.below hB⟩
def Fact.runA (B : Nat) (g : Geo.G) (next : Int) (n : Nat) (st : St) (zs : List Int) : Fact := Fact.of (RunA B g next n st zs) (RunA.st B g next n st zs)
def Fact.runT (B : Nat) (g : Geo.G) (next : Int) (n : Nat) (st : St) (zs : List Int) : Fact := Fact.of (RunT B g next n st zs) (RunT.st B g next n st zs)
theorem RunA.setRow {B : Nat} {g : Geo.G} {next : Int} {n : Nat} {st : St} {zs : List Int} {u : Value} {w : World} (h : RunA B g next n st zs u w) {k : Nat} {Z : Array Value} (hk : w.heap[k]? = some (.cells Z 35 (0, 0))) (C : Array Value) : RunA B g next n st zs u (w.setRow k C) := by
  obtain ⟨p, le, ll, ce, cl, av, cv, au, cu, e, h⟩ := h; exact ⟨p, le, ll, ce, cl, av, cv, au, cu, e, h.setRow hk C⟩
theorem RunT.setRow {B : Nat} {g : Geo.G} {next : Int} {n : Nat} {st : St} {zs : List Int} {u : Value} {w : World} (h : RunT B g next n st zs u w) {k : Nat} {Z : Array Value} (hk : w.heap[k]? = some (.cells Z 35 (0, 0))) (C : Array Value) : RunT B g next n st zs u (w.setRow k C) := by
  obtain ⟨p, le, ll, ce, cl, av, cv, au, cu, e, h⟩ := h; exact ⟨p, le, ll, ce, cl, av, cv, au, cu, e, h.setRow hk C⟩
theorem runFRules : (∀ B g next n st zs u w, (Fact.runA B g next n st zs).p u w = RunA B g next n st zs u w) ∧ (∀ B g next n st zs u w, (Fact.runT B g next n st zs).p u w = RunT B g next n st zs u w) := ⟨fun _ _ _ _ _ _ _ _ => rfl, fun _ _ _ _ _ _ _ _ => rfl⟩
theorem RunA.row {B : Nat} {g : Geo.G} {next : Int} {n : Nat} {st : St} {zs : List Int} {u : Value} {w : World} (h : RunA B g next n st zs u w) : (Try.prog.info? 35).map (·.size) = some (rowT u).size ∧ ResZ.size = (rowT u).size ∧ (rowT u).all (·.oneCell') = true ∧ u = .agg (rowT u) := by
  obtain ⟨p, le, ll, ce, cl, av, cv, au, cu, rfl, -⟩ := h; exact ⟨ressize _ _ _ _ _, rfl, by simp [rowT, resR, resC, Value.oneCell'], rfl⟩
/-- Run, as such a fact -/
theorem rrun_fact (w : World) (p le ll ce cl : Nat) (g : Geo.G) (es : List BE) (hgr : Geo.right g = true) (h : BmIs w p le ll ce cl g es (liveL (nz g) es)) (hok : MapOk g es) (gen epoch next : Int) (hr : Sn.right gen epoch next es = true) (a : Option Addr) (fs : List Fnd) (cap : Nat) (hI : RowOf w 51 fndC FndQ a fs) (hl : fs.length ≤ 1000) {B : Nat} (hB : B ≤ w.heap.size) :
    Calls Try.prog 11 #[.agg Tb.tabV, .agg (SnC gen epoch next p), .slice a fs.length cap] w fun e w' => ∃ u, e = .returned u ∧ RunT B g next (runLen (recs g epoch next fs) next) (runSt g es next (recs g epoch next fs)) (zonesOf (recs g epoch next fs)) u w' ∧ Below w.heap.size w w' := by
  refine (rrun_any w p le ll ce cl g es hgr h hok gen epoch next hr a fs cap hI hl).mono ?_; rintro e w' ⟨p', le', ll', ce', cl', av, cv, au, cu, rfl, h1, h2, h3, h4, h5, h6⟩; exact ⟨_, rfl, ⟨p', le', ll', ce', cl', av, cv, au, cu, rfl, ⟨h1, h2, h3.mono hB, h4.mono hB, by omega⟩⟩, h6⟩
/-- the cells of a result, one by one -/
theorem resR_cells {w : World} {b : Nat} {next : Int} {n : Nat} {st : St} {zs : List Int} {p : Nat} {av : Option Addr} {cv : Nat} {au : Option Addr} {cu : Nat} {t : TypeId} (h : w.heap[b]? = some (.cells (resR next n st zs p av cv au cu) t (0, 0))) :
    w.cell? ⟨b, 0, none⟩ = some (.pointer (some ⟨p, 0, none⟩)) ∧ w.cell? ⟨b, 1, none⟩ = some (.int .i64 (next + (n : Nat))) ∧ w.cell? ⟨b, 2, none⟩ = some (.int .i64 st.applied) ∧ w.cell? ⟨b, 3, none⟩ = some (.slice av (Rl.singles st.single 0).length cv) ∧ w.cell? ⟨b, 4, none⟩ = some (.slice au zs.length cu) :=
  ⟨(cell_of_row _ _ _ _ _ _ h).trans rfl, (cell_of_row _ _ _ _ _ _ h).trans rfl, (cell_of_row _ _ _ _ _ _ h).trans rfl, (cell_of_row _ _ _ _ _ _ h).trans rfl, (cell_of_row _ _ _ _ _ _ h).trans rfl⟩
end Go.Proofs.Ytoiephmngdecaaa
namespace Go.Proofs.Ytoiephmngdecaaa
open Go.RowKit Go.Rv Rl Frm
set_option linter.unusedVariables false
attribute [local go_sem] Oper.semAt_some
namespace Rl
def entA (i m : Int) : En.E := ⟨1, 5, 2, i, 0, m, List.replicate 32 0⟩
def fndA (i z m : Int) : Fnd := ⟨z, i, (frameE (entA i m) z i 1 (5 + i)).1⟩
def gA : Geo.G := ⟨3, 8, 8, 4, 0, 4⟩
def LA : List Fnd := [fndA 0 0 8, fndA 0 8 0, fndA 1 0 8, fndA 1 8 0]
def LB : List Fnd := [fndA 0 0 8, fndA 0 8 0]
def esA : List BE := List.replicate 4 BE.zero
theorem rA1 : runLen (recs gA 1 5 LA) 5 = 2 := by kernel_rfl
theorem rA2 : (runSt gA esA 5 (recs gA 1 5 LA)).applied = 1 := by kernel_rfl
theorem rA3 : countB (runSt gA esA 5 (recs gA 1 5 LA)).es 1 = 2 := by kernel_rfl
theorem rB1 : runLen (recs gA 1 5 LB) 5 = 1 := by kernel_rfl
theorem rB3 : countB (runSt gA esA 5 (recs gA 1 5 LB)).es 1 = 0 := by kernel_rfl
theorem gA_right : Geo.right gA = true := by kernel_rfl
theorem sA_right : Sn.right 1 1 5 esA = true := by kernel_rfl
theorem fndA_q0 (z m : Int) (h : (z = 0 ∧ m = 8) ∨ (z = 8 ∧ m = 0)) (i : Int) (hi : i = 0 ∨ i = 1) : FndQ (fndA i z m) := by
  have key : ∀ f : Fnd, (((Lit.int .i64 f.zone).wf && (Lit.int .i64 f.off).wf) && (decide (f.fr.body.length = 44) && f.fr.body.all fun c => decide (c < 256)) && ((Lit.int .i64 f.fr.kind).wf && (Lit.int .i64 f.fr.zone).wf && (Lit.int .i64 f.fr.off).wf && (Lit.int .i64 f.fr.epoch).wf && (Lit.int .i64 f.fr.seq).wf)) = true → FndQ f := by
    intro f h; simp only [Bool.and_eq_true, decide_eq_true_eq, List.all_eq_true] at h; obtain ⟨⟨⟨h1, h2⟩, h3, h4⟩, ⟨⟨⟨h5, h6⟩, h7⟩, h8⟩, h9⟩ := h; exact ⟨h1, h2, ⟨h3, h4⟩, h5, h6, h7, h8, h9⟩
  rcases h with ⟨rfl, rfl⟩ | ⟨rfl, rfl⟩ <;> rcases hi with rfl | rfl <;> exact key _ (by kernel_rfl)
end Rl
theorem Try.infoA2 : (Try.prog.info? 124).map (fun i => (i.zero, i.size)) = some (some (.agg #[.int .i64 0, .int .i64 0]), 2) := by kernel_rfl
theorem built_ent (i m : Int) : Try.prog.built 65 [(0, .int .i64 1), (1, .int .i64 5), (2, .int .i64 2), (3, .int .i64 i), (5, .int .i64 m)] = some (EC (entA i m)) := by kernel_rfl
theorem built_fnd (z o : Int) (f : Fr) (h : f.body.length = 44) : Try.prog.built 70 [(0, .int .i64 z), (1, .int .i64 o), (2, .agg (FC f))] = some (fndC ⟨z, o, f⟩) := by
  obtain ⟨k, z1, o1, e, s, l⟩ := f; obtain ⟨fn, rfl⟩ := list_fn l 44 h; kernel_rfl
theorem filled_fnd (f : Fnd) (h : f.fr.body.length = 44) (ie : Array Value) (h0 : ie = fndC fnd0) : Instr.fill (fun i => some (i * 51, 51)) ((Array.range (1 * 51)).map (ie[· % 51]!)) [(0, .agg (fndC f))] = some (fndC f) := by
  obtain ⟨z, o, ⟨k, z1, o1, e, s, l⟩⟩ := f; obtain ⟨fn, rfl⟩ := list_fn l 44 h; subst h0; kernel_rfl
/-- a slice of one that was found is made -/
theorem wpList_slice1f {w : World} {ops : Array Oper} {rest : List Oper} {o : Oper} {a : Act} {Q : Exit → Act → World → Prop} (hg : o.guard = none) (x : Operand) (ho : o.op = .buildSlice 25 1 #[(0, x)]) (r : Fnd) (hq : r.fr.body.length = 44) (X : Array Value) (hX : fndC r = X) (hx : a.eval x = .agg X)
    (h : wpList Try.prog ops Q rest (a.put o.dst (.slice (some ⟨w.heap.size, 0, none⟩) 1 1)) (w.alloc (.cells X 70))) : wpList Try.prog ops Q (o :: rest) a w := by
  subst hX; have hi := Try.infoFnd
  cases hie : Try.prog.info? 70 with
  | none => rw [hie] at hi; cases hi
  | some ie =>
    rw [hie, Option.map_some, Option.some.injEq, Prod.mk.injEq] at hi; obtain ⟨hz, hs⟩ := hi; refine wpList_buildSlice hg 25 70 1 #[(0, x)] ho (fndC r) ie (.agg (fndC fnd0)) Try.underlying25 hie hz (by rw [hs]; decide) (by rw [hs]; decide) ?_ h; rw [hs]; have h1 := filled_fnd r hq _ rfl; simp only [List.map_toArray, List.map_cons, List.map_nil, hx]; exact h1
set_option maxRecDepth 100000 in
set_option maxHeartbeats 16000000 in
theorem copies_any (i : Int) (hi : i = 0 ∨ i = 1) (w : World) :
    Calls Try.prog 23 #[.int .i64 i, .int .i64 5, .int .i64 2] w fun e w' => ∃ u, e = .returned u ∧ OwnM w' 70 51 fndC FndQ w.heap.size u [fndA i 0 8, fndA i 8 0] ∧ Below w.heap.size w w' := by
  have hix0 : ∀ W : World, (Instr.index 125 (.agg #[.int .i64 0, .int .i64 8, .int .i64 8, .int .i64 0]) (.int .i64 0)).run Try.prog W = .ok (.agg #[.int .i64 0, .int .i64 8]) W := fun W => by kernel_rfl
  have hix1 : ∀ W : World, (Instr.index 125 (.agg #[.int .i64 0, .int .i64 8, .int .i64 8, .int .i64 0]) (.int .i64 1)).run Try.prog W = .ok (.agg #[.int .i64 8, .int .i64 0]) W := fun W => by kernel_rfl
  have hza := (zero_of_info Try.infoA2).1; have HIA := Lib.hid (zero_of_info Try.infoA2).2; have hib : 0 ≤ i ∧ i ≤ 1 := by omega
  have HQ0 := Lib.hid (fndA_q0 0 8 (.inl ⟨rfl, rfl⟩) i hi); have HQ1 := Lib.hid (fndA_q0 8 0 (.inr ⟨rfl, rfl⟩) i hi); have hzr := (zero_of_info Try.infoFrame).1; have hE : ∀ m : Int, EBody (entA i m) := fun m => ⟨by simp [entA], by simp [entA]⟩
  have HF0 := Lib.hid (fun W => eframe_any (entA i 8) 0 i 1 (5 + i) W (hE 8)); have HF1 := Lib.hid (fun W => eframe_any (entA i 0) 8 i 1 (5 + i) W (hE 0)); have HB0 := Lib.hid (built_ent i 8); have HB1 := Lib.hid (built_ent i 0); have e0 : fndA i 0 8 = ⟨0, i, (frameE (entA i 8) 0 i 1 (5 + i)).1⟩ := rfl; have e1 : fndA i 8 0 = ⟨8, i, (frameE (entA i 0) 8 i 1 (5 + i)).1⟩ := rfl; rw [e0] at HQ0 ⊢; rw [e1] at HQ1 ⊢; obtain ⟨E0, hE0⟩ : ∃ E, EC (entA i 8) = E := ⟨_, rfl⟩; obtain ⟨E1, hE1⟩ : ∃ E, EC (entA i 0) = E := ⟨_, rfl⟩; rw [hE0] at HF0 HB0; rw [hE1] at HF1 HB1; obtain ⟨X0, hX0⟩ : ∃ X, frameE (entA i 8) 0 i 1 (5 + i) = X := ⟨_, rfl⟩; obtain ⟨X1, hX1⟩ : ∃ X, frameE (entA i 0) 8 i 1 (5 + i) = X := ⟨_, rfl⟩; rw [hX0] at HF0 HQ0 ⊢; rw [hX1] at HF1 HQ1 ⊢; obtain ⟨F0, r0⟩ := X0; obtain ⟨F1, r1⟩ := X1; unfold FrmPost at HF0 HF1; simp only at HF0 HF1 HQ0 HQ1 ⊢; have HI0 := Lib.hid (size_frm HQ0.out.2.2.1.1); have HI1 := Lib.hid (size_frm HQ1.out.2.2.1.1); have HZ0 : Hid ((FC Fr.zero).size = (FC F0).size) := Lib.hid (by rw [FC_size, FC_size, HQ0.out.2.2.1.1]; rfl); have HZ1 : Hid ((FC Fr.zero).size = (FC F1).size) := Lib.hid (by rw [FC_size, FC_size, HQ1.out.2.2.1.1]; rfl); have HO0 := Lib.hid (FC_one F0); have HO1 := Lib.hid (FC_one F1); have HBF0 := Lib.hid (built_fnd 0 i F0 HQ0.out.2.2.1.1); have HBF1 := Lib.hid (built_fnd 8 i F1 HQ1.out.2.2.1.1); obtain ⟨C0, hC0⟩ : ∃ C, FC F0 = C := ⟨_, rfl⟩; obtain ⟨C1, hC1⟩ : ∃ C, FC F1 = C := ⟨_, rfl⟩; obtain ⟨ZF, hZF⟩ : ∃ C, FC Fr.zero = C := ⟨_, rfl⟩; rw [hC0] at HF0 HI0 HZ0 HO0 HBF0; rw [hC1] at HF1 HI1 HZ1 HO1 HBF1; rw [hZF] at HZ0 HZ1 hzr; obtain ⟨f0, hf0⟩ : ∃ f : Fnd, (⟨0, i, F0⟩ : Fnd) = f := ⟨_, rfl⟩; obtain ⟨f1, hf1⟩ : ∃ f : Fnd, (⟨8, i, F1⟩ : Fnd) = f := ⟨_, rfl⟩; rw [hf0] at HQ0 HBF0 ⊢; rw [hf1] at HQ1 HBF1 ⊢; obtain ⟨D0, hD0⟩ : ∃ D, fndC f0 = D := ⟨_, rfl⟩; obtain ⟨D1, hD1⟩ : ∃ D, fndC f1 = D := ⟨_, rfl⟩; rw [hD0] at HBF0; rw [hD1] at HBF1; have HD0 := Lib.hid hD0; have HD1 := Lib.hid hD1; clear hi hE e0 e1 hE0 hE1 hX0 hX1 hC0 hC1 hZF hf0 hf1 hD0 hD1; go_enter Try.func23, Try.ntmps23; go_upto_region 3 with (fail); go_loopw [7, 15] (fun x u wr => Below w.heap.size w wr ∧ ((u = .int .i64 0 ∧ OwnM wr 70 51 fndC FndQ w.heap.size x []) ∨ (u = .int .i64 1 ∧ OwnM wr 70 51 fndC FndQ w.heap.size x [f0]) ∨ (u = .int .i64 2 ∧ OwnM wr 70 51 fndC FndQ w.heap.size x [f0, f1]))) (fun _ u _ => 2 - (intOf u).toNat)
  case atStart => exact ⟨Below.refl _ _, .inl ⟨rfl, OwnM.nil _ _ _ _ _ _⟩⟩
  case round =>
    obtain ⟨hBr, ⟨rfl, hown⟩ | ⟨rfl, hown⟩ | ⟨rfl, hown⟩⟩ := hrel
    · have HOW := Lib.hid hown; have HBR := Lib.hid hBr; have zr := hBr.size; clear hown hBr; obtain ⟨W4, hW4⟩ : ∃ W, wr.alloc (.cells #[.int .i64 0, .int .i64 8] 124) = W := ⟨_, rfl⟩; have hb4 : Below wr.heap.size wr W4 := by rw [← hW4]; exact (Below.refl _ _).alloc (Nat.le_refl _) _
      have hA4 : W4.heap[wr.heap.size]? = some (.cells #[.int .i64 0, .int .i64 8] 124 (0, 0)) := by rw [← hW4]; exact heap_alloc_new wr _
      have zA4 : wr.heap.size < W4.heap.size := (Array.getElem?_eq_some_iff.1 hA4).1; have HA4 := Lib.hid hA4; have HO4 := Lib.hid (HOW.out.below hb4); have HB4 := Lib.hid (HBR.out.trans (hb4.mono zr)); have HW4 := Lib.hid hW4; clear hW4 hb4 hA4; go_upto_region 5 with (refine wpList_store_row rfl 124 _ _ rfl wr.heap.size #[.int .i64 0, .int .i64 8] rfl rfl 124 #[.int .i64 0, .int .i64 0] (heap_alloc_new wr _) HIA.out rfl rfl ?_; rw [World.setRow_alloc_new]); rw [HW4.out]
      try rw [put_none]
      obtain ⟨p, hp⟩ : ∃ p, wr.heap.size = p := ⟨_, rfl⟩; rw [hp] at HA4 zA4 zr ⊢; clear hp; have c40 : W4.cell? ⟨p, 0, none⟩ = some (.int .i64 0) := (cell_of_row _ _ _ _ _ _ HA4.out).trans rfl; have c41 : W4.cell? ⟨p, 1, none⟩ = some (.int .i64 8) := (cell_of_row _ _ _ _ _ _ HA4.out).trans rfl; go_wp2_with (refine wpList_build_on (by rfl) 65 _ rfl #[(0, .int .i64 1), (1, .int .i64 5), (2, .int .i64 2), (3, .int .i64 i), (5, .int .i64 8)] (by simp [Act.eval, Act.put]) _ HB0.out ?_); refine (HF0.out _).mono ?_; rintro e5 w5 ⟨rfl, hB5⟩; have z5 := hB5.size; obtain ⟨W6, hW6⟩ : ∃ W, w5.alloc (.cells C0 68) = W := ⟨_, rfl⟩; have hb6 : Below w5.heap.size w5 W6 := by rw [← hW6]; exact (Below.refl _ _).alloc (Nat.le_refl _) _
      have hF6 : W6.heap[w5.heap.size]? = some (.cells C0 68 (0, 0)) := by rw [← hW6]; exact heap_alloc_new w5 _
      have hb46 := hB5.trans (hb6.mono z5); have hA6 := (hb46.block p zA4).trans HA4.out; have c60 : W6.cell? ⟨p, 0, none⟩ = some (.int .i64 0) := (cell_of_row _ _ _ _ _ _ hA6).trans rfl; have HF6 := Lib.hid hF6; have HO6 := Lib.hid (HO4.out.below hb46); have HB6 := Lib.hid (HB4.out.trans (hb46.mono (by omega))); have z6 := hb46.size; have HW6 := Lib.hid hW6; clear hB5 hW6 hb6 hF6 hb46 hA6 c40 c41; go_upto_region 6 with (refine wpList_store_row rfl 68 _ _ rfl w5.heap.size C0 rfl rfl 68 ZF (heap_alloc_new w5 _) HI0.out HZ0.out HO0.out ?_; rw [World.setRow_alloc_new]); rw [HW6.out]
      try rw [put_none]
      obtain ⟨p6, hp6⟩ : ∃ p, w5.heap.size = p := ⟨_, rfl⟩; rw [hp6] at HF6 ⊢; clear hp6; obtain ⟨W7, hW7⟩ : ∃ W, W6.alloc (.cells D0 70) = W := ⟨_, rfl⟩; have hb7 : Below W6.heap.size W6 W7 := by rw [← hW7]; exact (Below.refl _ _).alloc (Nat.le_refl _) _
      have hD7 : W7.heap[W6.heap.size]? = some (.cells D0 70 (0, 0)) := by rw [← hW7]; exact heap_alloc_new W6 _
      have HR7 : Hid (RowOf W7 51 fndC FndQ (some ⟨W6.heap.size, 0, none⟩) [f0]) := Lib.hid (one_rowOf (t := 70) (fr := (0, 0)) (by rw [HD0.out]; exact hD7) HQ0.out); have HO7 := Lib.hid (HO6.out.below hb7); have hs7 := HB6.out.size; have HB7 := Lib.hid (HB6.out.trans (hb7.mono hs7)); have hs7' := HB7.out.size; have HW7 := Lib.hid hW7; clear hW7 hb7 hD7; go_wp2_with (first | (refine wpList_load_row rfl 68 _ rfl p6 rfl 68 _ _ _ HF6.out Try.underlying68 rfl HI0.out ?_) | (refine wpList_build_on (by rfl) 70 _ rfl #[(0, .int .i64 0), (1, .int .i64 i), (2, .agg C0)] (by simp [Act.eval, Act.put]) _ HBF0.out ?_) | (refine wpList_slice1f rfl (.tmp 39) rfl f0 HQ0.out.2.2.1.1 D0 HD0.out rfl ?_; rw [HW7.out]) | (at_builtin; refine wpList_appendM rfl (.tmp 34) (.tmp 40) 25 rfl 70 51 fndC FndQ kinFnd (by decide) (.agg (fndC fnd0)) 104 Try.underlying25 Try.infoFnd3 rfl w.heap.size _ [] rfl HO7.out (some ⟨W6.heap.size, 0, none⟩) 1 [f0] (by rfl) HR7.out (by simp) (by unfold maxLen; simp) (by simp) hs7' ?_; intro v11 w11 hv11 hg11 _; have HV11 := Lib.hid hv11; have HB11 := Lib.hid (HB7.out.trans (HO7.out.grown hg11 hs7')); clear hv11 hg11)); clear c60; exact ⟨⟨HB11.out, .inr (.inl ⟨rfl, HV11.out⟩)⟩, by simp [intOf]⟩
    · have HOW := Lib.hid hown; have HBR := Lib.hid hBr; have zr := hBr.size; clear hown hBr; obtain ⟨W4, hW4⟩ : ∃ W, wr.alloc (.cells #[.int .i64 8, .int .i64 0] 124) = W := ⟨_, rfl⟩; have hb4 : Below wr.heap.size wr W4 := by rw [← hW4]; exact (Below.refl _ _).alloc (Nat.le_refl _) _
      have hA4 : W4.heap[wr.heap.size]? = some (.cells #[.int .i64 8, .int .i64 0] 124 (0, 0)) := by rw [← hW4]; exact heap_alloc_new wr _
      have zA4 : wr.heap.size < W4.heap.size := (Array.getElem?_eq_some_iff.1 hA4).1; have HA4 := Lib.hid hA4; have HO4 := Lib.hid (HOW.out.below hb4); have HB4 := Lib.hid (HBR.out.trans (hb4.mono zr)); have HW4 := Lib.hid hW4; clear hW4 hb4 hA4; go_upto_region 5 with (refine wpList_store_row rfl 124 _ _ rfl wr.heap.size #[.int .i64 8, .int .i64 0] rfl rfl 124 #[.int .i64 0, .int .i64 0] (heap_alloc_new wr _) HIA.out rfl rfl ?_; rw [World.setRow_alloc_new]); rw [HW4.out]
      try rw [put_none]
      obtain ⟨p, hp⟩ : ∃ p, wr.heap.size = p := ⟨_, rfl⟩; rw [hp] at HA4 zA4 zr ⊢; clear hp; have c40 : W4.cell? ⟨p, 0, none⟩ = some (.int .i64 8) := (cell_of_row _ _ _ _ _ _ HA4.out).trans rfl; have c41 : W4.cell? ⟨p, 1, none⟩ = some (.int .i64 0) := (cell_of_row _ _ _ _ _ _ HA4.out).trans rfl; go_wp2_with (refine wpList_build_on (by rfl) 65 _ rfl #[(0, .int .i64 1), (1, .int .i64 5), (2, .int .i64 2), (3, .int .i64 i), (5, .int .i64 0)] (by simp [Act.eval, Act.put]) _ HB1.out ?_); refine (HF1.out _).mono ?_; rintro e5 w5 ⟨rfl, hB5⟩; have z5 := hB5.size; obtain ⟨W6, hW6⟩ : ∃ W, w5.alloc (.cells C1 68) = W := ⟨_, rfl⟩; have hb6 : Below w5.heap.size w5 W6 := by rw [← hW6]; exact (Below.refl _ _).alloc (Nat.le_refl _) _
      have hF6 : W6.heap[w5.heap.size]? = some (.cells C1 68 (0, 0)) := by rw [← hW6]; exact heap_alloc_new w5 _
      have hb46 := hB5.trans (hb6.mono z5); have hA6 := (hb46.block p zA4).trans HA4.out; have c60 : W6.cell? ⟨p, 0, none⟩ = some (.int .i64 8) := (cell_of_row _ _ _ _ _ _ hA6).trans rfl; have HF6 := Lib.hid hF6; have HO6 := Lib.hid (HO4.out.below hb46); have HB6 := Lib.hid (HB4.out.trans (hb46.mono (by omega))); have z6 := hb46.size; have HW6 := Lib.hid hW6; clear hB5 hW6 hb6 hF6 hb46 hA6 c40 c41; go_upto_region 6 with (refine wpList_store_row rfl 68 _ _ rfl w5.heap.size C1 rfl rfl 68 ZF (heap_alloc_new w5 _) HI1.out HZ1.out HO1.out ?_; rw [World.setRow_alloc_new]); rw [HW6.out]
      try rw [put_none]
      obtain ⟨p6, hp6⟩ : ∃ p, w5.heap.size = p := ⟨_, rfl⟩; rw [hp6] at HF6 ⊢; clear hp6; obtain ⟨W7, hW7⟩ : ∃ W, W6.alloc (.cells D1 70) = W := ⟨_, rfl⟩; have hb7 : Below W6.heap.size W6 W7 := by rw [← hW7]; exact (Below.refl _ _).alloc (Nat.le_refl _) _
      have hD7 : W7.heap[W6.heap.size]? = some (.cells D1 70 (0, 0)) := by rw [← hW7]; exact heap_alloc_new W6 _
      have HR7 : Hid (RowOf W7 51 fndC FndQ (some ⟨W6.heap.size, 0, none⟩) [f1]) := Lib.hid (one_rowOf (t := 70) (fr := (0, 0)) (by rw [HD1.out]; exact hD7) HQ1.out); have HO7 := Lib.hid (HO6.out.below hb7); have hs7 := HB6.out.size; have HB7 := Lib.hid (HB6.out.trans (hb7.mono hs7)); have hs7' := HB7.out.size; have HW7 := Lib.hid hW7; clear hW7 hb7 hD7; go_wp2_with (first | (refine wpList_load_row rfl 68 _ rfl p6 rfl 68 _ _ _ HF6.out Try.underlying68 rfl HI1.out ?_) | (refine wpList_build_on (by rfl) 70 _ rfl #[(0, .int .i64 8), (1, .int .i64 i), (2, .agg C1)] (by simp [Act.eval, Act.put]) _ HBF1.out ?_) | (refine wpList_slice1f rfl (.tmp 39) rfl f1 HQ1.out.2.2.1.1 D1 HD1.out rfl ?_; rw [HW7.out]) | (at_builtin; refine wpList_appendM rfl (.tmp 34) (.tmp 40) 25 rfl 70 51 fndC FndQ kinFnd (by decide) (.agg (fndC fnd0)) 104 Try.underlying25 Try.infoFnd3 rfl w.heap.size _ [f0] rfl HO7.out (some ⟨W6.heap.size, 0, none⟩) 1 [f1] (by rfl) HR7.out (by simp) (by unfold maxLen; simp) (by simp) hs7' ?_; intro v11 w11 hv11 hg11 _; have HV11 := Lib.hid hv11; have HB11 := Lib.hid (HB7.out.trans (HO7.out.grown hg11 hs7')); clear hv11 hg11)); clear c60; exact ⟨⟨HB11.out, .inr (.inr ⟨rfl, HV11.out⟩)⟩, by simp [intOf]⟩
    · have HOW := Lib.hid hown; have HBR := Lib.hid hBr; clear hown hBr; go_wp2; go_ret; exact ⟨_, rfl, HOW.out, HBR.out⟩
end Go.Proofs.Ytoiephmngdecaaa
