/- Proved here: the contract of the pool's New; the law's anchor. -/
import Derived.Test.YtogijlpclceanaaPlGive
import Derived.Test.YtogijlpclceanaaBuild
import Derived.Deep.Cut
namespace Go.Proofs.Ytogijlpclceanaa
open Go.Conc Go.RowKit Go.Rv Go.Shelf
set_option linter.unusedVariables false
attribute [local go_sem] Oper.semAt_some
open PoolM (dl cnt Ok less allTo giveOf dropOf takeOf pairOf countOf)
set_option maxRecDepth 100000 in
set_option maxHeartbeats 1000000 in
theorem pnew_no (g : Geo.G) (hr : Geo.right g = false) (w : World) :
    Calls Try.prog 38 #[.agg (GC g)] w fun x w' => x = .returned (.tuple #[.pointer none, .int .i64 20]) ∧ Below w.heap.size w w' := by
  have HR := Lib.hid (fun W => by have := gright_any g W; rwa [hr] at this)
  have HI := Lib.hid (gsize (g := g))
  have hal := (Below.refl w.heap.size w).alloc (Nat.le_refl _) (.cells (GC g) 58)
  have hnew := heap_alloc_new w (.cells (GC g) 58)
  clear hr
  generalize GC g = C at *
  go_enter Try.func38, Try.ntmps38
  go_wp2_with (refine wpList_row_on (by rfl) 58 _ rfl w.heap.size rfl 58 _ _ _ hnew Try.underlying58 rfl HI.out ?_)
  refine (HR.out _).mono ?_
  rintro e w1 ⟨rfl, hB1⟩
  have hB2 := hal.trans (hB1.mono hal.size)
  go_wp2
  go_ret2
  exact ⟨rfl, hB2⟩
/-- a pool's cells, its list's slice being v -/
def PCv (g : Geo.G) (v : Value) : Array Value := #[.int .i64 g.d, .int .i64 g.z, .int .i64 g.s, .int .i64 g.b, .int .i64 g.p, .int .i64 g.o, v]
theorem Try.infoPool : (Try.prog.info? 90).map (fun i => (i.zero, i.size)) = some (some (.agg (PCv ⟨0, 0, 0, 0, 0, 0⟩ (.slice none 0 0))), 7) := by kernel_rfl
theorem built_pool (g : Geo.G) : Try.prog.built 90 [(0, .agg (GC g))] = some (PCv g (.slice none 0 0)) := by kernel_rfl
def qptr (x : Nat × Nat) : Value := .pointer (some ⟨x.1, 0, none⟩)
/-- the first queues of a new pool -/
def QsOk (w : World) (base n : Nat) (qc : List (Nat × Nat)) : Prop := (∀ x ∈ qc, QiIsQ w x.1 x.2 n [] ∧ base ≤ x.1 ∧ base ≤ x.2) ∧ (qc.map (·.2)).Nodup
theorem QsOk.only {S : List Nat} {w w' : World} {base n : Nat} {qc : List (Nat × Nat)} (h : QsOk w base n qc) (hO : Only S w w') (hS : ∀ x ∈ qc, x.1 ∉ S ∧ x.2 ∉ S) : QsOk w' base n qc :=
  ⟨fun x hx => ⟨(h.1 x hx).1.only hO (hS x hx).1 (hS x hx).2, (h.1 x hx).2⟩, h.2⟩
theorem QsOk.app {w : World} {base n q c : Nat} {qc : List (Nat × Nat)} (h : QsOk w base n qc) (hq : QiIsQ w q c n []) (h1 : base ≤ q) (h2 : base ≤ c) (hn : ∀ x ∈ qc, x.2 ≠ c) : QsOk w base n (qc ++ [(q, c)]) := by
  refine ⟨fun x hx => ?_, ?_⟩
  · rcases List.mem_append.1 hx with hx | hx
    · exact h.1 x hx
    · obtain rfl : x = (q, c) := by simpa using hx
      exact ⟨hq, h1, h2⟩
  · rw [List.map_append, List.nodup_append]
    refine ⟨h.2, by simp, ?_⟩
    intro a ha b hb e
    obtain ⟨x, hx, rfl⟩ := List.mem_map.1 ha
    obtain rfl : b = c := by simpa using hb
    exact hn x hx e
theorem QsOk.lt {w : World} {base n : Nat} {qc : List (Nat × Nat)} (h : QsOk w base n qc) : ∀ x ∈ qc, x.1 < w.heap.size ∧ x.2 < w.heap.size := fun x hx => ⟨(h.1 x hx).1.lt.1, (h.1 x hx).1.lt.2.1⟩
def NotQ (o : Obj) : Prop := ∀ (C : Array Value) (fr : Nat × Nat), o ≠ Obj.cells C 33 fr
def NotP (o : Obj) : Prop := ∀ (C : Array Value) (fr : Nat × Nat), o ≠ Obj.cells C 90 fr
theorem QsOk.turned {w w' : World} {base n : Nat} {qc : List (Nat × Nat)} (h : QsOk w base n qc) (hT : ∀ (k : Nat) (o : Obj), w.heap[k]? = some o → NotQ o → NotP o → w'.heap[k]? = some o) : QsOk w' base n qc := by
  refine ⟨fun x hx => ⟨?_, (h.1 x hx).2⟩, h.2⟩
  obtain ⟨h1, s, r, h2⟩ := (h.1 x hx).1
  exact ⟨hT _ _ h1 (fun C fr e => by injection e with _ e; exact absurd e (by decide)) (fun C fr e => by injection e with _ e; exact absurd e (by decide)), s, r, hT _ _ h2 (fun C fr e => by cases e) (fun C fr e => by cases e)⟩
/-- what is appended to a pool's list, and stored: all other blocks stay -/
theorem new_turn {w w4 : World} {p base : Nat} {g : Geo.G} {v v' : Value} {l l' : List Value} (hp : w.heap[p]? = some (.cells (PCv g v) 90 (0, 0))) (hown : OwnV w 33 base v l) (hv : OwnV w4 33 base v' l') (hg : w.grownBy w4 v.ownBlock) (hb : base ≤ w.heap.size) (hbp : base ≤ p) :
    w4.heap[p]? = some (.cells (PCv g v) 90 (0, 0)) ∧ (w4.setCell ⟨p, 6, none⟩ v').heap[p]? = some (.cells (PCv g v') 90 (0, 0)) ∧ OwnV (w4.setCell ⟨p, 6, none⟩ v') 33 base v' l' ∧ Below base w (w4.setCell ⟨p, 6, none⟩ v') ∧
      ∀ (k : Nat) (o : Obj), w.heap[k]? = some o → NotQ o → NotP o → (w4.setCell ⟨p, 6, none⟩ v').heap[k]? = some o := by
  have hne : v.ownBlock ≠ some p := fun e => by
    obtain ⟨-, C, hC⟩ := hown.cells e
    rw [hp] at hC
    injection hC with hC
    injection hC with _ hC
    exact absurd hC (by decide)
  have hp4 : w4.heap[p]? = some (.cells (PCv g v) 90 (0, 0)) := (hg.block p (Array.getElem?_eq_some_iff.1 hp).1 (Ne.symm hne)).trans hp
  have hs := heap_setCell_same w4 p 6 _ _ v' hp4
  have hne4 : ∀ j, v'.ownBlock = some j → j ∉ [p] := fun j e hm => by
    obtain rfl : j = p := by simpa using hm
    obtain ⟨-, C, hC⟩ := hv.cells e
    rw [hp4] at hC
    injection hC with hC
    injection hC with _ hC
    exact absurd hC (by decide)
  have hO : Only [p] w4 (w4.setCell ⟨p, 6, none⟩ v') := (Only.refl [p] w4).setCell (.inl (by simp)) _
  have hB4 : Below base w w4 := hown.grown hg hb
  refine ⟨hp4, hs, hv.only hO hne4, hB4.trans (hO.below (by simpa using hbp) (Nat.le_trans hb hg.size)), fun k o hk h1 h2 => ?_⟩
  have hk4 : w4.heap[k]? = some o := (hg.block k (Array.getElem?_eq_some_iff.1 hk).1 (fun e => by
    obtain ⟨-, C, hC⟩ := hown.cells e.symm
    rw [hk] at hC
    injection hC with hC
    exact h1 _ _ hC)).trans hk
  exact hO.get hk4 (fun hm => by
    obtain rfl : k = p := by simpa using hm
    rw [hp] at hk
    injection hk with hk
    exact h2 _ _ hk.symm)
/-- what a new pool is -/
theorem pool_new {w : World} {g : Geo.G} {p base : Nat} {v : Value} {qc : List (Nat × Nat)} (hr : Geo.right g = true) (hl : (qc.length : Int) = g.d) (hp : w.heap[p]? = some (.cells (PCv g v) 90 (0, 0)))
    (hown : OwnV w 33 base v (qc.map qptr)) (hq : QsOk w base g.z.toNat qc) (hbp : base ≤ p) : ∃ P : PR, P.p = p ∧ P.g = g ∧ PoolIs w P [] ∧ ∀ k ∈ P.bs, base ≤ k := by
  have hs := ((Geo.right_iff g).1 hr).1
  have h3 := hs.1
  obtain ⟨⟨_, hv⟩, _⟩ := hown
  rcases hv with ⟨rfl, hn⟩ | ⟨gb, cap, cur, rfl, hb, hg, hnc, hcm, hcs, htake⟩
  · rw [List.length_map] at hn
    omega
  · rw [List.length_map] at hp htake
    refine ⟨⟨p, gb, cap, g, cur, qc⟩, rfl, rfl, ⟨PoolM.Ok.nil (by have := hs.2.1.1; omega), hr, hl, hp, hg, ?_, ?_, hq.2⟩, ?_⟩
    · intro k q c hk
      obtain ⟨hk', e⟩ := List.getElem?_eq_some_iff.1 hk
      have hk2 : k < qc.length := hk'
      have hk : qc[k]? = some (q, c) := hk
      have h1 : (cur.toList.take (qc.length * 1))[k]? = (qc.map qptr)[k]? := by rw [htake]
      rw [List.getElem?_take, if_pos (by omega), List.getElem?_map, hk, Array.getElem?_toList] at h1
      exact h1
    · intro k q c hk
      exact (hq.1 (q, c) (List.mem_of_getElem? hk)).1
    · intro k hk
      unfold PR.bs at hk
      rcases List.mem_append.1 hk with hk | hk
      · rcases List.mem_cons.1 hk with rfl | hk
        · exact hbp
        · rcases List.mem_cons.1 hk with rfl | hk
          · exact hb
          · obtain ⟨x, hx, rfl⟩ := List.mem_map.1 hk
            exact (hq.1 x hx).2.1
      · obtain ⟨x, hx, rfl⟩ := List.mem_map.1 hk
        exact (hq.1 x hx).2.2
set_option maxRecDepth 100000 in
set_option maxHeartbeats 4000000 in
theorem pnew_any (g : Geo.G) (hr : Geo.right g = true) (w : World) :
    Calls Try.prog 38 #[.agg (GC g)] w fun x w' => ∃ P : PR, x = .returned (.tuple #[.pointer (some ⟨P.p, 0, none⟩), .int .i64 0]) ∧ P.g = g ∧ PoolIs w' P [] ∧ (∀ k ∈ P.bs, w.heap.size ≤ k) ∧ Below w.heap.size w w' := by
  have hs := ((Geo.right_iff g).1 hr).1
  have HR := Lib.hid (fun W => by have := gright_any g W; rwa [hr] at this)
  have HI := Lib.hid (gsize (g := g))
  obtain ⟨d, hd⟩ : ∃ d : Nat, g.d = d := ⟨g.d.toNat, by have := hs.1; omega⟩
  obtain ⟨n, hn⟩ : ∃ n : Nat, g.z = n := ⟨g.z.toNat, by have := hs.2.1; omega⟩
  have hn1 : 1 ≤ n ∧ n ≤ 64 := by have := hs.2.1; omega
  have hd1 : 3 ≤ d ∧ d ≤ 8 := by have := hs.1; omega
  have HN := Lib.hid (fun W => qi_new n W (by omega) (by omega))
  have hal := (Below.refl w.heap.size w).alloc (Nat.le_refl _) (.cells (GC g) 58)
  have hnew := heap_alloc_new w (.cells (GC g) 58)
  have HCS : Hid (∀ (W : World), W.heap[w.heap.size]? = some (.cells (GC g) 58 (0, 0)) → W.cell? ⟨w.heap.size, 0, none⟩ = some (.int .i64 (d : Nat)) ∧ W.cell? ⟨w.heap.size, 1, none⟩ = some (.int .i64 (n : Nat))) := Lib.hid (fun W hh => by have := geo_cells hh; rw [hd, hn] at this; exact ⟨this.1, this.2.1⟩)
  have hz := (zero_of_info Try.infoPool).1
  have hinfo : (Try.prog.info? 33).map (fun i => (i.zero, i.size, i.bytes)) = some (some (.pointer none), 1, 8) := by kernel_rfl
  have HIN := Lib.hid hinfo
  have HRT := Lib.hid hr
  have HHD := Lib.hid hd
  have HHN := Lib.hid hn
  have hsz : w.heap.size < (w.alloc (.cells (GC g) 58)).heap.size := by simp
  clear hinfo hr hd hn hs
  have HBU := Lib.hid (built_pool g)
  have HPS : Hid (∀ v, (Try.prog.info? 90).map (·.size) = some (PCv g v).size) := Lib.hid (fun v => (zero_of_info Try.infoPool).2)
  generalize hC : GC g = C at *
  clear hC
  go_enter Try.func38, Try.ntmps38
  go_wp2_with (refine wpList_row_on (by rfl) 58 _ rfl w.heap.size rfl 58 _ _ _ hnew Try.underlying58 rfl HI.out ?_)
  refine (HR.out _).mono ?_
  rintro e w1 ⟨rfl, hB1⟩
  have hg1 := (hB1.block w.heap.size hsz).trans hnew
  have HB1 := Lib.hid (hal.trans (hB1.mono hal.size))
  have z1 := hB1.size
  clear hB1 hal hnew
  obtain ⟨W2, hW2⟩ : ∃ W2, w1.alloc (.cells (PCv g (.slice none 0 0)) 90) = W2 := ⟨_, rfl⟩
  have hb2 : Below w1.heap.size w1 W2 := by rw [← hW2]; exact (Below.refl _ _).alloc (Nat.le_refl _) _
  have hp2 : W2.heap[w1.heap.size]? = some (.cells (PCv g (.slice none 0 0)) 90 (0, 0)) := by rw [← hW2]; exact heap_alloc_new w1 _
  have zg : w.heap.size < w1.heap.size := by omega
  have hg2 := (hb2.block w.heap.size zg).trans hg1
  have hcd : (w1.alloc (.cells (PCv g (.slice none 0 0)) 90)).cell? ⟨w.heap.size, 0, none⟩ = some (.int .i64 (d : Nat)) := by rw [hW2]; exact (HCS.out W2 hg2).1
  have HB2 := Lib.hid (HB1.out.trans (hb2.mono HB1.out.size))
  have HW2 := Lib.hid hW2
  have HP2 := Lib.hid hp2
  have HG2 := Lib.hid hg2
  have z2 : w1.heap.size < W2.heap.size := (Array.getElem?_eq_some_iff.1 hp2).1
  clear hb2 hW2 hp2 hg2
  go_wp2_with (first | (refine wpList_row_on (by rfl) 58 _ rfl w.heap.size rfl 58 _ _ _ hg1 Try.underlying58 rfl HI.out ?_) | (refine wpList_build_on (by rfl) 90 _ rfl #[(0, .agg C)] (by simp [Act.eval, Act.put]) (PCv g (.slice none 0 0)) HBU.out ?_))
  rw [HW2.out]
  obtain ⟨p, hp⟩ : ∃ p, w1.heap.size = p := ⟨_, rfl⟩
  rw [hp] at HP2 z2 zg ⊢
  clear hcd hg1 HB1 HBU z1
  have HPP := Lib.hid hp
  clear hp
  go_loopw [15] (fun i wr => ∃ (k : Nat) (qc : List (Nat × Nat)) (v : Value), k ≤ d ∧ i = .int .i64 k ∧ qc.length = k ∧ wr.heap[p]? = some (.cells (PCv g v) 90 (0, 0)) ∧ OwnV wr 33 w.heap.size v (qc.map qptr) ∧ QsOk wr w.heap.size n qc ∧ wr.heap[w.heap.size]? = some (.cells C 58 (0, 0)) ∧ Below w.heap.size w wr) (fun i _ => d - (intOf i).toNat)
  case atStart => exact ⟨0, [], .slice none 0 0, Nat.zero_le _, rfl, rfl, HP2.out, OwnV.nil _ _ _, ⟨by simp, by simp⟩, HG2.out, HB2.out⟩
  case round =>
    obtain ⟨k, qc, v, hk, rfl, hlen, hp, hown, hqs, hg, hB⟩ := hrel
    by_cases hlt : k < d
    · have hcz := (HCS.out wr hg).2
      have zp := (Array.getElem?_eq_some_iff.1 hp).1
      have zz := (Array.getElem?_eq_some_iff.1 hg).1
      have HO := Lib.hid hown
      have HQ := Lib.hid hqs
      have HPR := Lib.hid hp
      have HGR := Lib.hid hg
      have HBR := Lib.hid hB
      have HKL := Lib.hid hlen
      clear hown hqs hp hg hB hlen HP2 HG2 HB2
      go_wp2_with fail
      refine (HN.out _).mono ?_
      rintro e w3 ⟨rfl, hq3, hB3, z3⟩
      obtain ⟨c, hc⟩ : ∃ c, wr.heap.size = c := ⟨_, rfl⟩
      rw [hc] at hq3 z3 zp zz ⊢
      have hB3' := hB3.mono (show p ≤ wr.heap.size by omega)
      have hp3 := (hB3.block p (by omega)).trans HPR.out
      have HG3 := Lib.hid ((hB3.block w.heap.size (by omega)).trans HGR.out)
      have HO3 := Lib.hid (HO.out.below hB3)
      have HQ3 : Hid (QsOk w3 w.heap.size n qc) := Lib.hid (HQ.out.only (Only.of_below (S := []) hB3) (by simp))
      have HLT : Hid (∀ x ∈ qc, x.1 < c ∧ x.2 < c) := Lib.hid (fun x hx => by have := HQ.out.lt x hx; omega)
      have HB3 := Lib.hid (HBR.out.trans (hB3.mono HBR.out.size))
      have hc6 : w3.cell? ⟨p, 6, none⟩ = some v := (cell_of_row _ _ _ _ _ _ hp3).trans rfl
      obtain ⟨WA, hWA⟩ : ∃ WA, w3.alloc (.cells #[qptr (c + 1, c)] 33) = WA := ⟨_, rfl⟩
      have hbA : Below w3.heap.size w3 WA := by rw [← hWA]; exact (Below.refl _ _).alloc (Nat.le_refl _) _
      have hnA : WA.heap[w3.heap.size]? = some (.cells #[qptr (c + 1, c)] 33 (0, 0)) := by rw [← hWA]; exact heap_alloc_new w3 _
      have hpA := (hbA.block p (by omega)).trans hp3
      have HOA := Lib.hid (HO3.out.below hbA)
      have HQA : Hid (QsOk WA w.heap.size n qc) := Lib.hid (HQ3.out.only (Only.of_below (S := []) hbA) (by simp))
      have HQN : Hid (QiIsQ WA (c + 1) c n []) := Lib.hid (hq3.only (Only.of_below (S := []) hbA) (by simp) (by simp))
      have HGA := Lib.hid ((hbA.block w.heap.size (by omega)).trans HG3.out)
      have HBA := Lib.hid (HB3.out.trans (hbA.mono HB3.out.size))
      have HWA := Lib.hid hWA
      have HNA := Lib.hid hnA
      have HPA := Lib.hid hpA
      have zA := hbA.size
      have HCC := Lib.hid hc
      have HZ3 := Lib.hid z3
      have z4 : c + 2 ≤ w3.heap.size := by omega
      clear hq3 hB3 hB3' hp3 hWA hnA hpA hbA HO3 HQ3 HG3 HB3 HO HQ HPR HGR HBR hcz hc z3
      have HPA2 : Hid ((w3.alloc (.cells #[.pointer (some ⟨c + 1, 0, none⟩)] 33)).heap[p]? = some (.cells (PCv g v) 90 (0, 0))) := Lib.hid (by have := HPA.out; rwa [← HWA.out] at this)
      have HGA2 : Hid ((w3.alloc (.cells #[.pointer (some ⟨c + 1, 0, none⟩)] 33)).heap[w.heap.size]? = some (.cells C 58 (0, 0))) := Lib.hid (by have := HGA.out; rwa [← HWA.out] at this)
      have HQA2 : Hid (QsOk (w3.alloc (.cells #[.pointer (some ⟨c + 1, 0, none⟩)] 33)) w.heap.size n qc) := Lib.hid (by have := HQA.out; rwa [← HWA.out] at this)
      have HBA2 : Hid (Below w.heap.size w (w3.alloc (.cells #[.pointer (some ⟨c + 1, 0, none⟩)] 33))) := Lib.hid (by have := HBA.out; rwa [← HWA.out] at this)
      have HQN5 : Hid (∀ W, (∀ (k : Nat) (o : Obj), (w3.alloc (.cells #[.pointer (some ⟨c + 1, 0, none⟩)] 33)).heap[k]? = some o → NotQ o → NotP o → W.heap[k]? = some o) → QiIsQ W (c + 1) c n []) := Lib.hid (fun W hT => by
        have hq := HQN.out
        rw [← HWA.out] at hq
        obtain ⟨h1, s, r, h2⟩ := hq
        exact ⟨hT _ _ h1 (fun C fr e => by injection e with _ e; exact absurd e (by decide)) (fun C fr e => by injection e with _ e; exact absurd e (by decide)), s, r, hT _ _ h2 (fun C fr e => by cases e) (fun C fr e => by cases e)⟩)
      have HOA2 : Hid (OwnV (w3.alloc (.cells #[.pointer (some ⟨c + 1, 0, none⟩)] 33)) 33 w.heap.size v (qc.map qptr)) := Lib.hid (by have := HOA.out; rwa [← HWA.out] at this)
      go_wp2_with (at_builtin; refine wpList_append_one rfl (.tmp 30) (.tmp 32) 88 rfl 33 (.pointer none) 8 Try.underlying88 HIN.out rfl w.heap.size _ _ rfl HOA2.out _ (.pointer (some ⟨c + 1, 0, none⟩)) _ _ rfl (heap_alloc_new _ _) rfl (by rw [List.length_map, HKL.out]; unfold maxLen; omega) (by rw [List.length_map, HKL.out]; omega) (by simp; omega) ?_; intro v' w4 hv4 hg4; obtain ⟨sa, sn, sc, rfl⟩ : ∃ sa sn sc, v' = .slice sa sn sc := (by obtain ⟨a, c, e, -, -⟩ := hv4.shape; exact ⟨a, _, c, e⟩); obtain ⟨hp4, hp5, hown5, hB5, hT5⟩ := new_turn HPA2.out HOA2.out hv4 hg4 (by simp; omega) (by omega); have hc4 : w4.cell? ⟨p, 6, none⟩ = some v := (cell_of_row _ _ _ _ _ _ hp4).trans rfl; have hf4 := frozen_of_row _ p 6 _ _ hp4; have HP5 := Lib.hid hp5; have HOWN5 := Lib.hid hown5; have HB5 := Lib.hid hB5; have HT5 := Lib.hid hT5; clear hp4 hp5 hown5 hB5 hT5 hv4 hg4)
      have hq5 : QsOk (w4.setCell ⟨p, 6, none⟩ (.slice sa sn sc)) w.heap.size n (qc ++ [(c + 1, c)]) := (HQA2.out.turned HT5.out).app (HQN5.out _ HT5.out) (by omega) (by omega) (fun x hx => by have := HLT.out x hx; omega)
      have hg5 := HT5.out _ _ HGA2.out (fun C fr e => by injection e with _ e; exact absurd e (by decide)) (fun C fr e => by injection e with _ e; exact absurd e (by decide))
      go_roundw
      case rel => exact ⟨k + 1, qc ++ [(c + 1, c)], _, by omega, by go_num, by simp [HKL.out], HP5.out, by rw [List.map_append]; exact HOWN5.out, hq5, hg5, HBA2.out.trans HB5.out⟩
      case measure => simp [intOf]; omega
    · obtain rfl : k = d := by omega
      obtain ⟨P, rfl, rfl, hP, hbs⟩ := pool_new HRT.out (by rw [hlen]; exact HHD.out.symm) hp hown (by rw [HHN.out]; exact hqs) (by omega)
      have HPO := Lib.hid hP
      have HBS := Lib.hid hbs
      have HBB := Lib.hid hB
      clear hP hbs hB hp hown hqs hg
      go_wp2
      go_ret2
      exact ⟨P, rfl, rfl, HPO.out, HBS.out, HBB.out⟩
end Go.Proofs.Ytogijlpclceanaa
