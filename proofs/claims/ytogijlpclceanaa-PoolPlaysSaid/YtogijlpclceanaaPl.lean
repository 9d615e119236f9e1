/- Proved here: a pool in memory: what is known of its blocks, and what keeps it. -/
import Derived.Test.YtogijlpclceanaaQSame
import Derived.Test.YtogijlpclceanaaGeoD
import Derived.Test.YtogijlpclceanaaPoolPr
import Derived.WalkLawsBesides
namespace Go.Proofs.Ytogijlpclceanaa
open Go.Conc Go.RowKit Go.Rv Go.Shelf
set_option linter.unusedVariables false
/-- where a pool lies: its block, that of its list (with its cells), its geometry, its queues with their channels -/
structure PR where
  p : Nat
  b : Nat
  cap : Nat
  g : Geo.G
  B : Array Value
  qc : List (Nat × Nat)
def PR.cs (P : PR) : List Nat := P.qc.map (·.2)
def PR.bs (P : PR) : List Nat := P.p :: P.b :: P.qc.map (·.1) ++ P.qc.map (·.2)
/-- a pool's cells -/
def PC (P : PR) : Array Value := #[.int .i64 P.g.d, .int .i64 P.g.z, .int .i64 P.g.s, .int .i64 P.g.b, .int .i64 P.g.p, .int .i64 P.g.o, .slice (some ⟨P.b, 0, none⟩) P.qc.length P.cap]
/-- a pool whose free zones are these -/
structure PoolIs (w : World) (P : PR) (L : List Int) : Prop where
  ok : PoolM.Ok P.qc.length P.g.z L
  rt : Geo.right P.g = true
  len : (P.qc.length : Int) = P.g.d
  row : w.heap[P.p]? = some (.cells (PC P) 90 (0, 0))
  lst : w.heap[P.b]? = some (.cells P.B 33 (0, 0))
  ptr : ∀ (k q c : Nat), P.qc[k]? = some (q, c) → P.B[k]? = some (Value.pointer (some ⟨q, 0, none⟩))
  que : ∀ (k q c : Nat), P.qc[k]? = some (q, c) → QiIsQ w q c P.g.z.toNat (iV (PoolM.dl P.g.z L k))
  nd : (P.qc.map (·.2)).Nodup
theorem PoolIs.cells {w : World} {P : PR} {L : List Int} (h : PoolIs w P L) : w.cell? ⟨P.p, 6, none⟩ = some (.slice (some ⟨P.b, 0, none⟩) P.qc.length P.cap) := (cell_of_row _ _ _ _ _ _ h.row).trans rfl
theorem PoolIs.gcells {w : World} {P : PR} {L : List Int} (h : PoolIs w P L) : w.cell? ⟨P.p, 0, none⟩ = some (.int .i64 P.g.d) ∧ w.cell? ⟨P.p, 1, none⟩ = some (.int .i64 P.g.z) ∧ w.cell? ⟨P.p, 2, none⟩ = some (.int .i64 P.g.s) ∧ w.cell? ⟨P.p, 3, none⟩ = some (.int .i64 P.g.b) ∧ w.cell? ⟨P.p, 4, none⟩ = some (.int .i64 P.g.p) ∧ w.cell? ⟨P.p, 5, none⟩ = some (.int .i64 P.g.o) :=
  ⟨(cell_of_row _ _ _ _ _ _ h.row).trans rfl, (cell_of_row _ _ _ _ _ _ h.row).trans rfl, (cell_of_row _ _ _ _ _ _ h.row).trans rfl, (cell_of_row _ _ _ _ _ _ h.row).trans rfl, (cell_of_row _ _ _ _ _ _ h.row).trans rfl, (cell_of_row _ _ _ _ _ _ h.row).trans rfl⟩
theorem PoolIs.pcell {w : World} {P : PR} {L : List Int} (h : PoolIs w P L) {k q c : Nat} (hk : P.qc[k]? = some (q, c)) : w.cell? ⟨P.b, k, none⟩ = some (.pointer (some ⟨q, 0, none⟩)) := (cell_of_row _ _ _ _ _ _ h.lst).trans (h.ptr k q c hk)
theorem PoolIs.small {w : World} {P : PR} {L : List Int} (h : PoolIs w P L) : Geo.Small P.g := ((Geo.right_iff P.g).1 h.rt).1
theorem PoolIs.cap1 {w : World} {P : PR} {L : List Int} (h : PoolIs w P L) : P.g.z.toNat ≤ 4096 := by have := h.small.2.1.2; omega
theorem PoolIs.at {w : World} {P : PR} {L : List Int} (h : PoolIs w P L) {k : Nat} (hk : k < P.qc.length) : ∃ q c, P.qc[k]? = some (q, c) := ⟨_, _, List.getElem?_eq_getElem hk⟩
/-- a block that holds cells is no channel of a pool -/
theorem PoolIs.cells_ne {w : World} {P : PR} {L : List Int} (h : PoolIs w P L) {b : Nat} {C : Array Value} {t : TypeId} {fr : Nat × Nat} (hb : w.heap[b]? = some (.cells C t fr)) : b ∉ P.cs := by
  intro hm
  obtain ⟨⟨q, c⟩, hx, rfl⟩ := List.mem_map.1 hm
  obtain ⟨k, hk, hx⟩ := List.getElem_of_mem hx
  obtain ⟨s, r, hc⟩ := (h.que k q c (by rw [List.getElem?_eq_getElem hk, hx])).2
  rw [hb] at hc
  simp at hc
theorem PoolIs.p_ne {w : World} {P : PR} {L : List Int} (h : PoolIs w P L) : P.p ∉ P.cs := h.cells_ne h.row
theorem PoolIs.b_ne {w : World} {P : PR} {L : List Int} (h : PoolIs w P L) : P.b ∉ P.cs := h.cells_ne h.lst
theorem PoolIs.q_ne {w : World} {P : PR} {L : List Int} (h : PoolIs w P L) {k q c : Nat} (hk : P.qc[k]? = some (q, c)) : q ∉ P.cs := h.cells_ne (h.que k q c hk).1
theorem PoolIs.lt {w : World} {P : PR} {L : List Int} (h : PoolIs w P L) : ∀ k ∈ P.bs, k < w.heap.size := by
  intro k hk
  unfold PR.bs at hk
  rcases List.mem_append.1 hk with hk | hk
  · rcases List.mem_cons.1 hk with rfl | hk
    · exact (Array.getElem?_eq_some_iff.1 h.row).1
    · rcases List.mem_cons.1 hk with rfl | hk
      · exact (Array.getElem?_eq_some_iff.1 h.lst).1
      · obtain ⟨⟨q, c⟩, hx, rfl⟩ := List.mem_map.1 hk
        obtain ⟨k, hk, hx⟩ := List.getElem_of_mem hx
        exact (h.que k q c (by rw [List.getElem?_eq_getElem hk, hx])).lt.1
  · obtain ⟨⟨q, c⟩, hx, rfl⟩ := List.mem_map.1 hk
    obtain ⟨k, hk, hx⟩ := List.getElem_of_mem hx
    exact (h.que k q c (by rw [List.getElem?_eq_getElem hk, hx])).lt.2.1
theorem PR.p_mem (P : PR) : P.p ∈ P.bs := by simp [PR.bs]
theorem PR.b_mem (P : PR) : P.b ∈ P.bs := by simp [PR.bs]
theorem PR.q_mem {P : PR} {k q c : Nat} (hk : P.qc[k]? = some (q, c)) : q ∈ P.bs := by
  have : q ∈ P.qc.map (·.1) := List.mem_map.2 ⟨(q, c), List.mem_of_getElem? hk, rfl⟩
  simp only [PR.bs, List.mem_append, List.mem_cons]
  exact .inl (.inr (.inr this))
theorem PR.c_mem {P : PR} {k q c : Nat} (hk : P.qc[k]? = some (q, c)) : c ∈ P.cs := List.mem_map.2 ⟨(q, c), List.mem_of_getElem? hk, rfl⟩
theorem PR.cs_bs {P : PR} {k : Nat} (hk : k ∈ P.cs) : k ∈ P.bs := by
  unfold PR.bs
  exact List.mem_append.2 (.inr hk)
theorem PoolIs.only {S : List Nat} {w w' : World} {P : PR} {L : List Int} (h : PoolIs w P L) (hO : Only S w w') (hS : ∀ k ∈ S, k ∉ P.bs) : PoolIs w' P L :=
  ⟨h.ok, h.rt, h.len, hO.get h.row (fun e => hS _ e P.p_mem), hO.get h.lst (fun e => hS _ e P.b_mem), h.ptr,
    fun k q c hk => (h.que k q c hk).only hO (fun e => hS _ e (PR.q_mem hk)) (fun e => hS _ e (PR.cs_bs (PR.c_mem hk))), h.nd⟩
theorem PoolIs.below {w w' : World} {P : PR} {L : List Int} (h : PoolIs w P L) (hb : Below w.heap.size w w') : PoolIs w' P L := h.only (Only.of_below (S := []) hb) (by simp)
/-- the channels of two queues are unlike -/
theorem PoolIs.c_ne {w : World} {P : PR} {L : List Int} (h : PoolIs w P L) {i j q c q' c' : Nat} (hi : P.qc[i]? = some (q, c)) (hj : P.qc[j]? = some (q', c')) (hij : i ≠ j) : c ≠ c' := by
  intro e
  subst e
  have h1 : (P.qc.map (·.2))[i]? = some c := by rw [List.getElem?_map, hi]; rfl
  have h2 : (P.qc.map (·.2))[j]? = some c := by rw [List.getElem?_map, hj]; rfl
  obtain ⟨l1, e1⟩ := List.getElem?_eq_some_iff.1 h1
  obtain ⟨l2, e2⟩ := List.getElem?_eq_some_iff.1 h2
  exact hij ((List.getElem_inj h.nd).1 (e1.trans e2.symm))
/-- one queue is turned -/
theorem PoolIs.set {w w' : World} {P : PR} {L L' : List Int} (h : PoolIs w P L) {k q c : Nat} (hk : P.qc[k]? = some (q, c)) (hq : QiIsQ w' q c P.g.z.toNat (iV (PoolM.dl P.g.z L' k))) (hO : Only [c] w w') (ho : PoolM.Ok P.qc.length P.g.z L') (hL : ∀ j, j ≠ k → PoolM.dl P.g.z L' j = PoolM.dl P.g.z L j) : PoolIs w' P L' := by
  have hcm := PR.c_mem hk
  refine ⟨ho, h.rt, h.len, hO.get h.row (fun e => h.p_ne (by simp at e; rw [e]; exact hcm)), hO.get h.lst (fun e => h.b_ne (by simp at e; rw [e]; exact hcm)), h.ptr, fun j q' c' hj => ?_, h.nd⟩
  by_cases e : j = k
  · subst e
    rw [hk] at hj
    obtain ⟨rfl, rfl⟩ : q = q' ∧ c = c' := by simpa using hj
    exact hq
  · rw [hL j e]
    exact (h.que j q' c' hj).only hO (fun e2 => h.q_ne hj (by simp at e2; rw [e2]; exact hcm)) (fun e2 => h.c_ne hj hk e (by simpa using e2))
/-- one queue is turned, and holds what it held -/
theorem PoolIs.keep {w w' : World} {P : PR} {L : List Int} (h : PoolIs w P L) {k q c : Nat} (hk : P.qc[k]? = some (q, c)) (hq : QiIsQ w' q c P.g.z.toNat (iV (PoolM.dl P.g.z L k))) (hO : Only [c] w w') : PoolIs w' P L := h.set hk hq hO h.ok (fun _ _ => rfl)
theorem PoolIs.turn {B : Nat} {w w' : World} {P : PR} {L : List Int} (h : PoolIs w P L) (h' : PoolIs w' P L) (hO : Only P.cs w w') : Turn B P.cs w w' := by
  refine ⟨hO.os, hO.tape, hO.output, hO.size, fun k o hk hn _ => hO.get hk hn, fun k hk cp buf s r hh => ?_⟩
  obtain ⟨⟨q, c⟩, hx, rfl⟩ := List.mem_map.1 hk
  obtain ⟨j, hj, hx⟩ := List.getElem_of_mem hx
  have hjj : P.qc[j]? = some (q, c) := by rw [List.getElem?_eq_getElem hj, hx]
  obtain ⟨s1, r1, h1⟩ := (h.que j q c hjj).2
  obtain ⟨s2, r2, h2⟩ := (h'.que j q c hjj).2
  rw [h1] at hh
  injection hh with hh
  injection hh with e1 e2
  subst e1 e2
  exact ⟨s2, r2, h2⟩
theorem PoolIs.turned {B : Nat} {C : List Nat} {w w' : World} {P : PR} {L : List Int} (h : PoolIs w P L) (ht : Turn B C w w') (hC : ∀ k ∈ C, k ∈ P.cs) (hB : ∀ k ∈ P.cs, k ∈ C ∨ k < B) : PoolIs w' P L := by
  refine ⟨h.ok, h.rt, h.len, ht.block _ _ h.row (fun e => h.p_ne (hC _ e)) (.inr rfl), ht.block _ _ h.lst (fun e => h.b_ne (hC _ e)) (.inr rfl), h.ptr, fun k q c hk => ?_, h.nd⟩
  obtain ⟨h3, s1, r1, h4⟩ := h.que k q c hk
  refine ⟨ht.block q _ h3 (fun e => h.q_ne hk (hC _ e)) (.inr rfl), ?_⟩
  by_cases hm : c ∈ C
  · exact ht.chan c hm _ _ _ _ h4
  · exact ⟨s1, r1, ht.block c _ h4 hm (.inl ((hB c (PR.c_mem hk)).resolve_left hm))⟩
theorem PoolIs.abT {β : Type} {B : Nat} {C : List Nat} {P : PR} {L : List Int} (hC : ∀ k ∈ C, k ∈ P.cs) (hB : ∀ k ∈ P.cs, k ∈ C ∨ k < B) : AbT B C (fun (_ : β) W => PoolIs W P L) := fun _ _ _ h ht => h.turned ht hC hB
theorem Only.cs1 {S : List Nat} {w w' : World} {c : Nat} (h : Only [c] w w') (hc : c ∈ S) : Only S w w' := h.mono (fun x hx => .inl (by
  obtain rfl : x = c := by simpa using hx
  exact hc))
/-- a domain's number, from a zone's -/
theorem dom_in {P : PR} {w : World} {L : List Int} (h : PoolIs w P L) {zone : Int} (hz : 0 ≤ zone ∧ zone < P.g.d * P.g.z) : ∃ d : Nat, d < P.qc.length ∧ domOf P.g zone = d ∧ zone / P.g.z = d := by
  have hz' : 0 ≤ zone ∧ zone < (P.qc.length : Int) * P.g.z := by rw [h.len]; exact hz
  obtain ⟨d, h1, h2, -, -⟩ := PoolM.dom_of h.ok.z1 hz'
  exact ⟨d, h1, by unfold domOf; rw [if_pos hz, h2], h2⟩
theorem dom_out {g : Geo.G} {zone : Int} (hz : ¬ (0 ≤ zone ∧ zone < g.d * g.z)) : domOf g zone = -1 := if_neg hz
end Go.Proofs.Ytogijlpclceanaa
