/- Proved here: the contract of the pool's Has. -/
import Derived.Test.YtogijlpclceanaaPlAll
namespace Go.Proofs.Ytogijlpclceanaa
open Go.Conc Go.RowKit Go.Rv Go.Shelf
set_option linter.unusedVariables false
attribute [local go_sem] Oper.semAt_some
open PoolM (dl cnt Ok less allTo)
theorem AbT.pool {β : Type} {B : Nat} {P : PR} {L : List Int} (hB : ∀ k ∈ P.cs, k < B) : AbT B P.cs (fun (_ : β) W => PoolIs W P L) := PoolIs.abT (fun _ h => h) (fun k h => .inl h)
theorem pre_not {z : Int} {pre : List (Nat × Int)} {x : Nat × Int} (h : ∀ y ∈ pre, y.2 ≠ z) (hx : x.2 ≠ z) : ∀ y ∈ pre ++ [x], y.2 ≠ z := by
  intro y hy
  rcases List.mem_append.1 hy with hy | hy
  · exact h y hy
  · obtain rfl : y = x := by simpa using hy
    exact hx
set_option maxRecDepth 100000 in
set_option maxHeartbeats 4000000 in
theorem phas_any (w : World) (P : PR) (L : List Int) (h : PoolIs w P L) (z : Int) :
    Calls Try.prog 36 #[.pointer (some ⟨P.p, 0, none⟩), .int .i64 z] w fun e w' => e = .returned (.bool (decide (z ∈ L))) ∧ PoolIs w' P L ∧ Only P.cs w w' := by
  have HA := Lib.hid (fun W => pall_any (some ⟨P.p, 0, none⟩) W)
  have hlt := h.lt
  have HH := Lib.hid h
  clear h
  refine calls_of_marks Try.func36 rfl ?_
  simp only [Try.ntmps36, List.size_toArray, List.length_cons, List.length_nil, Nat.reduceAdd, Nat.reduceSub, Array.replicate_succ, Array.replicate_zero, List.push_toArray, List.append_toArray, List.nil_append, List.cons_append]
  go_wp2_with fail
  refine (HA.out _).mono ?_
  rintro e w1 ⟨rfl, rfl⟩
  obtain ⟨W0, hW0⟩ : ∃ W0, ((w.alloc (.cells #[.int .i64 z] 3)).alloc (.cells #[.bool false] 4)).alloc (.cells #[.pointer (some ⟨P.p, 0, none⟩)] 59) = W0 := ⟨_, rfl⟩
  have hO0 : Only [] w W0 := by rw [← hW0]; exact (((Only.refl [] w).alloc _).alloc _).alloc _
  have z0 : W0.heap.size = w.heap.size + 1 + 1 + 1 := by rw [← hW0]; simp
  have hb0 : W0.heap[w.heap.size]? = some (.cells #[.int .i64 z] 3 (0, 0)) := by rw [← hW0]; (repeat (first | exact alloc_new _ _ (by simp) | refine (alloc_old _ _ (by (try simp only [World.size_alloc]); omega)).trans ?_))
  have hb1 : W0.heap[w.heap.size + 1]? = some (.cells #[.bool false] 4 (0, 0)) := by rw [← hW0]; (repeat (first | exact alloc_new _ _ (by simp) | refine (alloc_old _ _ (by (try simp only [World.size_alloc]); omega)).trans ?_))
  have hb2 : W0.heap[w.heap.size + 1 + 1]? = some (.cells #[.pointer (some ⟨P.p, 0, none⟩)] 59 (0, 0)) := by rw [← hW0]; (repeat (first | exact alloc_new _ _ (by simp) | refine (alloc_old _ _ (by (try simp only [World.size_alloc]); omega)).trans ?_))
  have hsz : ((w.alloc (.cells #[.int .i64 z] 3)).alloc (.cells #[.bool false] 4)).heap.size = w.heap.size + 1 + 1 := by simp
  rw [hW0, hsz]
  clear hW0 hsz
  have hP0 : PoolIs W0 P L := HH.out.only hO0 (by simp)
  have hcs : ∀ k ∈ P.cs, k < w.heap.size := fun k hk => hlt k (PR.cs_bs hk)
  have HSQ := Lib.hid (pall1_stops 7 (w.heap.size + 1 + 1) P L W0 hb2 hP0)
  have HT : Hid (∀ k ∈ [w.heap.size + 1], k < W0.heap.size ∧ k ∉ P.bs) := Lib.hid (fun k hk => by
    obtain rfl : k = w.heap.size + 1 := by simpa using hk
    exact ⟨by omega, fun h => by have := hlt _ h; omega⟩)
  have HC : Hid (∀ k ∈ P.cs, k < W0.heap.size) := Lib.hid (fun k hk => by have := hcs k hk; omega)
  have HN : Hid (∀ i, w.heap.size ≤ i → i ∉ P.cs) := Lib.hid (fun i hi h => by have := hcs i h; omega)
  have HNB : Hid (∀ i, w.heap.size ≤ i → i ∉ P.bs) := Lib.hid (fun i hi h => by have := hlt i h; omega)
  have HCM : Hid (∀ k ∈ P.cs, k ∈ (w.heap.size + 1) :: P.cs) := Lib.hid (fun k hk => by simp [hk])
  have HI0 : Hid ((∀ y ∈ ([] : List (Nat × Int)), y.2 ≠ z) ∧ W0.heap[w.heap.size]? = some (.cells #[.int .i64 z] 3 (0, 0)) ∧ W0.heap[w.heap.size + 1]? = some (.cells #[.bool false] 4 (0, 0)) ∧ PoolIs W0 P L ∧ Only ((w.heap.size + 1) :: P.cs) W0 W0) := Lib.hid ⟨by simp, hb0, hb1, hP0, Only.refl _ _⟩
  have HAI : Hid (AbT W0.heap.size P.cs (fun (pre : List (Nat × Int)) W => (∀ y ∈ pre, y.2 ≠ z) ∧ W.heap[w.heap.size]? = some (.cells #[.int .i64 z] 3 (0, 0)) ∧ W.heap[w.heap.size + 1]? = some (.cells #[.bool false] 4 (0, 0)) ∧ PoolIs W P L ∧ Only ((w.heap.size + 1) :: P.cs) W0 W)) := Lib.hid
    ((AbT.pure _ _ (fun (pre : List (Nat × Int)) => ∀ y ∈ pre, y.2 ≠ z)).and ((AbT.row (b := w.heap.size) (fun _ => #[.int .i64 z]) (HN.out _ (by omega))).and ((AbT.row (b := w.heap.size + 1) (fun _ => #[.bool false]) (HN.out _ (by omega))).and ((AbT.pool HC.out).and (AbT.only (Nat.le_refl _) HCM.out)))))
  have HAX : Hid (∀ cx, AbT W0.heap.size P.cs (fun (pre : List (Nat × Int)) W => (cx = Code.ret ∧ z ∈ L) ∧ W.heap[w.heap.size + 1]? = some (.cells #[.bool true] 4 (0, 0)) ∧ PoolIs W P L ∧ Only ((w.heap.size + 1) :: P.cs) W0 W)) := Lib.hid (fun cx =>
    (AbT.pure _ _ (fun (pre : List (Nat × Int)) => cx = Code.ret ∧ z ∈ L)).and ((AbT.row (b := w.heap.size + 1) (fun _ => #[.bool true]) (HN.out _ (by omega))).and ((AbT.pool HC.out).and (AbT.only (Nat.le_refl _) HCM.out))))
  clear hb0 hb1 hb2 hP0 hlt
  go_wp2
  refine (wpIn_wide (n := 8)).1 (wpIn_rangeT1 rfl (by omega) (gf := 50) (lb := #[.pointer (some ⟨w.heap.size + 1 + 1, 0, none⟩)]) rfl trivial (enters_of Try.func50 (by kernel_rfl) rfl)
    HSQ.out (Below.refl _ _) (fun _ => rfl) [w.heap.size + 1] HT.out HC.out
    (fun pre W => (∀ y ∈ pre, y.2 ≠ z) ∧ W.heap[w.heap.size]? = some (.cells #[.int .i64 z] 3 (0, 0)) ∧ W.heap[w.heap.size + 1]? = some (.cells #[.bool false] 4 (0, 0)) ∧ PoolIs W P L ∧ Only ((w.heap.size + 1) :: P.cs) W0 W)
    (fun cx pre W => (cx = Code.ret ∧ z ∈ L) ∧ W.heap[w.heap.size + 1]? = some (.cells #[.bool true] 4 (0, 0)) ∧ PoolIs W P L ∧ Only ((w.heap.size + 1) :: P.cs) W0 W)
    HAI.out HAX.out HI0.out ?fr ?assign ?body ?done ?stop)
  case assign =>
    intro rr pre x W2 K2 _ hI hK2
    have HK2 := Lib.hid hK2
    clear hK2
    unfold pzV
    gi_wp2
    exact HK2.out W2 (Only.refl _ _)
  case body =>
    rintro rr pre x W2 _ hr ⟨hn, hz2, hr2, hP2, hO2⟩ hlen hsp
    have cz := cell_of_one hz2
    have cr := cell_of_one hr2
    have fr := free_of_one hr2
    have HXL : Hid (x.2 ∈ L) := Lib.hid (by
      have : x ∈ allTo P.g.z L P.qc.length := hsp.subset (by simp)
      exact (PoolM.allTo_mem.1 this).2.1)
    have HZ2 := Lib.hid hz2
    have HR2 := Lib.hid hr2
    have HP2 := Lib.hid hP2
    have HO2 := Lib.hid hO2
    have HNN := Lib.hid hn
    clear hz2 hr2 hP2 hO2 hn hlen hsp
    by_cases e : x.2 = z
    · have t1 : (x.2 == z) = true := by simpa using e
      have HE : Hid (z ∈ L) := Lib.hid (e ▸ HXL.out)
      clear e
      gi_wp2
      exact ⟨(Only.refl _ _).setCell (.inl (by simp)) _, ⟨rfl, HE.out⟩, one_setCell HR2.out, HP2.out.only ((Only.refl [w.heap.size + 1] W2).setCell (.inl (by simp)) _) (by simpa using HNB.out _ (by omega)), HO2.out.setCell (.inl (by simp)) _⟩
    · have t1 : (x.2 == z) = false := by simpa using e
      have HE := Lib.hid (pre_not HNN.out e)
      clear e
      gi_wp2
      exact ⟨Only.refl _ _, HE.out, HZ2.out, HR2.out, HP2.out, HO2.out⟩
  case done =>
    rintro D ys W2 hD rfl ⟨hn, hz2, hr2, hP2, hO2⟩ hKD
    have hno : decide (z ∈ L) = false := decide_eq_false (fun hz => by
      obtain ⟨d, hd⟩ := (hP2.ok.has z).1 hz
      exact hn _ hd rfl)
    have hc := cell_of_one hr2
    have hf := free_of_one hr2
    have HO2 : Hid (Only P.cs w W2) := Lib.hid ((hO0.mono (by simp)).trans' hO2 (by intro k hk; rcases List.mem_cons.1 hk with e | hk; exact .inr (by omega); exact .inl hk))
    have HR2 := Lib.hid hr2
    have HP2 := Lib.hid hP2
    have HKD := Lib.hid hKD
    have HNO := Lib.hid hno
    have hDz : w.heap.size + 1 + 1 < D := by omega
    clear hn hz2 hr2 hP2 hO2 hKD hno
    go_wp2
    refine leave_marks (v := .bool false) [D] _ (by simp) ?_ ?_
    · intro E hE
      obtain rfl : E = D := by simpa using hE
      exact ((Only.refl [w.heap.size + 1] _).setCell (.inl (by simp)) _).get HKD.out (by simp; omega)
    · intro W' hO'
      have hr' := hO'.get (one_setCell HR2.out) (by simp; omega)
      have hc' := cell_of_one hr'
      refine ⟨by simp [results, Try.results36, go_sem, hc'], by rw [HNO.out], ?_, ?_⟩
      · exact (HP2.out.only ((Only.refl [w.heap.size + 1] _).setCell (.inl (by simp)) _) (by simpa using HNB.out _ (by omega))).only hO' (by simpa using HNB.out _ (by omega))
      · exact (HO2.out.setCell (.inr (by simp)) _).trans' hO' (fun k hk => .inr (by
          obtain rfl : k = D := by simpa using hk
          omega))
  case stop =>
    rintro D cx pre W2 hD hsp ⟨⟨rfl, hzl⟩, hr2, hP2, hO2⟩ hKD
    refine wpIn_wide.2 ?_
    have HNO : Hid (decide (z ∈ L) = true) := Lib.hid (decide_eq_true hzl)
    have HO2 : Hid (Only P.cs w W2) := Lib.hid ((hO0.mono (by simp)).trans' hO2 (by intro k hk; rcases List.mem_cons.1 hk with e | hk; exact .inr (by omega); exact .inl hk))
    have HR2 := Lib.hid hr2
    have HP2 := Lib.hid hP2
    have HKD := Lib.hid hKD
    have hDz : w.heap.size + 1 + 1 < D := by omega
    clear hr2 hP2 hO2 hKD hzl
    go_wp2
    refine leave_marks (v := .bool true) [D] _ (by simp) (by simpa using HKD.out) ?_
    intro W' hO'
    have hr' := hO'.get HR2.out (by simp; omega)
    have hc' := cell_of_one hr'
    refine ⟨by simp [results, Try.results36, go_sem, hc'], by rw [HNO.out], ?_, ?_⟩
    · exact HP2.out.only hO' (by simpa using HNB.out _ (by omega))
    · exact HO2.out.trans' hO' (fun k hk => .inr (by
        obtain rfl : k = D := by simpa using hk
        omega))
end Go.Proofs.Ytogijlpclceanaa
