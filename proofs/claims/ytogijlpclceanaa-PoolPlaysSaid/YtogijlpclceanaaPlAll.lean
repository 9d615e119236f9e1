/- Proved here: the pool's All, and its iterator, by the law on turns. -/
import Derived.Test.YtogijlpclceanaaPlPair
import Derived.Test.YtogijlpclceanaaTurn2
import Derived.Deep.LoopGhost
namespace Go.Rv
open Go.RowKit
/-- behind the end of a function: its blocks of deferred calls alone have turned -/
theorem Turn.of_marks {B : Nat} {C ds : List Nat} {a w : World} (h : Only ds a w) (hD : ∀ D ∈ ds, B ≤ D ∧ a.heap[D]? = some (.deferred (some []))) (hC : ∀ k ∈ C, k ∉ ds) : Turn B C a w := by
  refine ⟨h.os, h.tape, h.output, h.size, fun k o hk _ hc => ?_, fun k hk cap buf s r hh => ⟨s, r, h.get hh (hC k hk)⟩⟩
  refine h.get hk (fun hm => ?_)
  obtain ⟨h1, h2⟩ := hD k hm
  rw [h2] at hk
  cases hk
  rcases hc with hc | hc
  · omega
  · simp [Obj.isCells] at hc
theorem roundIn_anyP {n m : Nat} {P : Program} {l : Nat} {f : FuncId} {tmps : Array Value} {assign body : Code} {w : World} {R : Ending → World → Prop} (h : RoundIn Fence.wide n P l f tmps assign body w R) : RoundIn Fence.wide m P l f tmps assign body w R :=
  ⟨h.1, fun c cs _ => h.2 c cs (room_wide _)⟩
end Go.Rv
namespace Go.Proofs.Ytogijlpclceanaa
open Go.Conc Go.RowKit Go.Rv Go.Shelf
set_option linter.unusedVariables false
attribute [local go_sem] Oper.semAt_some
open PoolM (dl cnt Ok less allTo)
def pzV (x : Nat × Int) : Array Value := #[.int .i64 (x.1 : Nat), .int .i64 x.2]
theorem allTo_en (z : Int) (L : List Int) (k : Nat) : allTo z L (k + 1) = allTo z L k ++ (en (dl z L k)).map (fun x => (k, x.2)) := by
  rw [PoolM.allTo_succ]
  congr 1
  unfold en enTo
  rw [List.map_map]
  apply List.ext_getElem?
  intro i
  simp only [List.getElem?_map]
  by_cases h : i < (dl z L k).length
  · simp [h]
  · simp [h]
theorem allTo_pre {z : Int} {L : List Int} {k D : Nat} (hk : k < D) {pre : List (Nat × Int)} (h : pre <+: en (dl z L k)) : allTo z L k ++ pre.map (fun x => (k, x.2)) <+: allTo z L D := by
  obtain ⟨t, ht⟩ := h
  have h1 : allTo z L (k + 1) = (allTo z L k ++ pre.map (fun x => (k, x.2))) ++ t.map (fun x => (k, x.2)) := by rw [allTo_en, ← ht, List.map_append, List.append_assoc]
  have h2 : allTo z L (k + 1) <+: allTo z L D := by
    obtain ⟨m, rfl⟩ : ∃ m, D = k + 1 + m := ⟨D - (k + 1), by omega⟩
    clear hk ht h1
    induction m with
    | zero => exact List.prefix_refl _
    | succ m ih =>
      show _ <+: allTo z L (k + 1 + m + 1)
      rw [PoolM.allTo_succ z L (k + 1 + m)]
      exact ih.trans (List.prefix_append _ _)
  rw [h1] at h2
  exact (List.prefix_append _ _).trans h2
set_option maxRecDepth 100000 in
theorem pall_any (p : Option Addr) (w : World) :
    Calls Try.prog 37 #[.pointer p] w fun e w' => e = .returned (.func (.func 50) #[] #[.pointer (some ⟨w.heap.size, 0, none⟩)]) ∧ w' = w.alloc (.cells #[.pointer p] 59) := by
  go_enter Try.func37, Try.ntmps37
  go_wp2
  go_ret
  exact ⟨rfl, rfl⟩
set_option maxRecDepth 100000 in
set_option maxHeartbeats 4000000 in
theorem pall1_stops (n : Nat) (Bp : Nat) (P : PR) (L : List Int) (w : World) (hBp : w.heap[Bp]? = some (.cells #[.pointer (some ⟨P.p, 0, none⟩)] 59 (0, 0))) (hP : PoolIs w P L) :
    SeqT Fence.wide n Try.prog 50 #[.pointer (some ⟨Bp, 0, none⟩)] pzV P.bs P.cs (fun ys => ys = allTo P.g.z L P.qc.length) (fun pre => pre <+: allTo P.g.z L P.qc.length) (P.qc.length * P.g.z.toNat) w := by
  intro r T J Jx W hW hr0 hrW hT hJ hJx hY h0
  have hBpl := (Array.getElem?_eq_some_iff.1 hBp).1
  have hzW := hW.size
  have hcp := cell_of_one ((hW.block Bp hBpl).trans hBp)
  have hbs : ∀ k ∈ P.bs, k < w.heap.size := hP.lt
  have hPW := hP.below hW
  have h8 := hP.len8
  have hal : Below W.heap.size W (W.alloc (.cells #[.func (.yield r) #[] #[]] 86)) := (Below.refl _ _).alloc (Nat.le_refl _) _
  have hbx := heap_alloc_new W (.cells #[.func (.yield r) #[] #[]] 86)
  have hcp0 := cell_of_one ((hal.block Bp (by omega)).trans ((hW.block Bp hBpl).trans hBp))
  have hP0 := hPW.below hal
  have hJ0 : J (allTo P.g.z L 0) (W.alloc (.cells #[.func (.yield r) #[] #[]] 86)) := hJ _ _ _ h0 (Turn.of_below hal)
  have c6 := hP0.cells
  have HP0 := Lib.hid hP0
  have HBX := Lib.hid hbx
  have HZW : Hid (W.heap.size ≤ (W.alloc (.cells #[.func (.yield r) #[] #[]] 86)).heap.size) := Lib.hid hal.size
  have HT : Hid (∀ k ∈ r :: T, k < W.heap.size ∧ k ∉ P.bs) := Lib.hid (fun k hk => by
    rcases List.mem_cons.1 hk with e | hk
    · rw [e]; exact ⟨hrW, fun h => by have := hbs r h; omega⟩
    · exact hT k hk)
  have HY := Lib.hid hY
  have HCW : Hid (∀ k ∈ P.cs, k < W.heap.size) := Lib.hid (fun k hk => by have := hbs k (PR.cs_bs hk); omega)
  have HJ0 := Lib.hid hJ0
  clear hW hBp hP hPW hY h0 hP0 hal hbx hcp hJ0
  refine callsIn_wide.2 (calls_of_marks Try.func50 rfl ?_)
  simp only [Try.ntmps50, List.size_toArray, List.length_cons, List.length_nil, Nat.reduceAdd, Nat.reduceSub, Array.replicate_succ, Array.replicate_zero, List.push_toArray, List.append_toArray, List.nil_append, List.cons_append]
  go_wp2
  refine wp_loop_ghost_k (fun (m : Nat) (a' : Act) (w' : World) => ∃ (u3 u4 u5 u6 u12 u13 u14 u15 u16 u17 u18 u19 u20 u21 u22 u23 u24 u25 u26 : Value) (ds : List Nat), a' = { tmps := ((Value.func (Fn.yield r) #[] #[]) :: (Value.pointer (some { block := Bp, off := 0 })) :: (Value.pointer (some { block := W.heap.size, off := 0 })) :: u3 :: u4 :: u5 :: u6 :: (Value.pointer (some { block := P.p, off := 0 })) :: (Value.pointer (some { block := P.p, off := 0 })) :: (Value.pointer (some { block := P.p, off := 6 })) :: (Value.slice (some { block := P.b, off := 0 }) P.qc.length P.cap) :: (Value.int IntKind.i64 ↑P.qc.length) :: u12 :: u13 :: u14 :: u15 :: u16 :: u17 :: u18 :: u19 :: u20 :: u21 :: u22 :: u23 :: u24 :: u25 :: u26 :: []).toArray, defers := marks ds } ∧ (∃ (k : Nat), k ≤ P.qc.length ∧ m = P.qc.length - k ∧ u12 = .int .i64 k ∧ J (allTo P.g.z L k) w' ∧ PoolIs w' P L ∧ w'.heap[W.heap.size]? = some (.cells #[.func (.yield r) #[] #[]] 86 (0, 0)) ∧ W.heap.size < w'.heap.size ∧ ds.Nodup ∧ ∀ D ∈ ds, W.heap.size < D ∧ w'.heap[D]? = some (.deferred (some [])))) P.qc.length ?start ?round
  case start => exact ⟨_, _, _, _, _, _, _, _, _, _, _, _, _, _, _, _, _, _, _, [], rfl, 0, Nat.zero_le _, rfl, rfl, HJ0.out, HP0.out, HBX.out, by simp, by simp, by simp⟩
  case round =>
    intro m a' wr hinv JJ KK hJJ hKK
    obtain ⟨u3, hinv⟩ := hinv
    obtain ⟨u4, hinv⟩ := hinv
    obtain ⟨u5, hinv⟩ := hinv
    obtain ⟨u6, hinv⟩ := hinv
    obtain ⟨u12, hinv⟩ := hinv
    obtain ⟨u13, hinv⟩ := hinv
    obtain ⟨u14, hinv⟩ := hinv
    obtain ⟨u15, hinv⟩ := hinv
    obtain ⟨u16, hinv⟩ := hinv
    obtain ⟨u17, hinv⟩ := hinv
    obtain ⟨u18, hinv⟩ := hinv
    obtain ⟨u19, hinv⟩ := hinv
    obtain ⟨u20, hinv⟩ := hinv
    obtain ⟨u21, hinv⟩ := hinv
    obtain ⟨u22, hinv⟩ := hinv
    obtain ⟨u23, hinv⟩ := hinv
    obtain ⟨u24, hinv⟩ := hinv
    obtain ⟨u25, hinv⟩ := hinv
    obtain ⟨u26, hinv⟩ := hinv
    obtain ⟨ds, ha, hinv⟩ := hinv
    subst ha
    obtain ⟨k, hk, rfl, rfl, hJk, hPk, hbk, hzk, hnd, hds⟩ := hinv
    have HJJ := Lib.hid hJJ
    have HKK := Lib.hid hKK
    have HDS := Lib.hid hds
    have HND := Lib.hid hnd
    have HPK := Lib.hid hPk
    have HBK := Lib.hid hbk
    clear hJJ hKK hds hnd hbk
    by_cases hlt : k < P.qc.length
    · obtain ⟨q, c, hq⟩ := hPk.at hlt
      have cp := hPk.pcell hq
      have hcm := PR.c_mem hq
      have HCM := Lib.hid hcm
      have hcW := HCW.out c hcm
      have HQQ := Lib.hid (hPk.que k q c hq)
      have HQL : Hid ((dl P.g.z L k).length ≤ P.g.z.toNat) := Lib.hid (hPk.ok.dl_len k)
      have HQC := Lib.hid (hPk.cap1)
      have HA := Lib.hid (fun W => q_all (some ⟨q, 0, none⟩) W)
      clear hPk
      go_wp2_with fail
      refine (HA.out _).mono ?_
      rintro e w1 ⟨rfl, rfl⟩
      obtain ⟨WL, hWL⟩ : ∃ WL, (wr.alloc (.cells #[.int .i64 (k : Nat)] 3)).alloc (.cells #[.pointer (some ⟨q, 0, none⟩)] 33) = WL := ⟨_, rfl⟩
      have hOL : Only [] wr WL := by rw [← hWL]; exact ((Only.refl [] wr).alloc _).alloc _
      have zL : WL.heap.size = wr.heap.size + 1 + 1 := by rw [← hWL]; simp
      have hbd : WL.heap[wr.heap.size]? = some (.cells #[.int .i64 (k : Nat)] 3 (0, 0)) := by rw [← hWL]; (repeat (first | exact alloc_new _ _ (by simp) | refine (alloc_old _ _ (by (try simp only [World.size_alloc]); omega)).trans ?_))
      have hbp : WL.heap[wr.heap.size + 1]? = some (.cells #[.pointer (some ⟨q, 0, none⟩)] 33 (0, 0)) := by rw [← hWL]; (repeat (first | exact alloc_new _ _ (by simp) | refine (alloc_old _ _ (by (try simp only [World.size_alloc]); omega)).trans ?_))
      have hsz : (wr.alloc (.cells #[.int .i64 (k : Nat)] 3)).heap.size = wr.heap.size + 1 := by simp
      rw [hWL, hsz]
      clear hWL hsz
      have hQL := HQQ.out.only hOL (by simp) (by simp)
      have hPL := HPK.out.only hOL (by simp)
      have hJL : J (allTo P.g.z L k ++ [].map (fun x : Nat × Int => (k, x.2))) WL := by simpa using hJ _ _ _ hJk (Turn.of_only hOL)
      have hyL := hOL.get HBK.out (by simp)
      have hdL : ∀ E ∈ ds, W.heap.size < E ∧ WL.heap[E]? = some (.deferred (some [])) := fun E hE => ⟨(HDS.out E hE).1, hOL.get (HDS.out E hE).2 (by simp)⟩
      have hEc : ∀ E ∈ ds, E < WL.heap.size ∧ E ∉ [c] := fun E hE => ⟨(Array.getElem?_eq_some_iff.1 (hdL E hE).2).1, fun h => by
        obtain rfl : E = c := by simpa using h
        have := (HDS.out _ hE).1
        omega⟩
      have hcL : ∀ k ∈ P.cs, k < WL.heap.size := fun k hk => by have := HCW.out k hk; omega
      have HSQ := Lib.hid (qall1_stops 7 (by omega) (wr.heap.size + 1) q c P.g.z.toNat (dl P.g.z L k) WL (cell_of_one hbp) hQL HQL.out HQC.out)
      have HI : Hid (AbT WL.heap.size [c] (fun (pre : List (Nat × Int)) W' => J (allTo P.g.z L k ++ pre.map (fun x => (k, x.2))) W' ∧ PoolIs W' P L ∧ W'.heap[W.heap.size]? = some (.cells #[.func (.yield r) #[] #[]] 86 (0, 0)) ∧ W'.heap[wr.heap.size]? = some (.cells #[.int .i64 (k : Nat)] 3 (0, 0)) ∧ wr.heap.size < W'.heap.size ∧ ∀ E ∈ ds, W'.heap[E]? = some (.deferred (some [])))) := Lib.hid (by
        rintro s A W' ⟨a1, a2, a3, a4, a5, a6⟩ ht
        exact ⟨hJ _ A W' a1 (ht.mono (by omega) (by intro x hx; obtain rfl : x = c := by simpa using hx
                                                    exact HCM.out) hcL), a2.turned ht (by intro x hx; obtain rfl : x = c := by simpa using hx
                                                                                          exact HCM.out) (fun x hx => .inr (hcL x hx)), ht.block _ _ a3 (by simp; omega) (.inr rfl), ht.block _ _ a4 (by simp; omega) (.inr rfl), by have := ht.size; omega, fun E hE => ht.block E _ (a6 E hE) (hEc E hE).2 (.inl (hEc E hE).1)⟩)
      have HX : Hid (∀ cx, AbT WL.heap.size [c] (fun (pre : List (Nat × Int)) W' => cx = Code.ret ∧ Jx (allTo P.g.z L k ++ pre.map (fun x => (k, x.2))) W' ∧ W.heap.size < W'.heap.size ∧ ∀ E ∈ ds, W'.heap[E]? = some (.deferred (some [])))) := Lib.hid (by
        rintro cx s A W' ⟨a1, a2, a5, a6⟩ ht
        exact ⟨a1, hJx _ A W' a2 (ht.mono (by omega) (by intro x hx; obtain rfl : x = c := by simpa using hx
                                                         exact HCM.out) hcL), by have := ht.size; omega, fun E hE => ht.block E _ (a6 E hE) (hEc E hE).2 (.inl (hEc E hE).1)⟩)
      have H0 : Hid (J (allTo P.g.z L k ++ [].map (fun x : Nat × Int => (k, x.2))) WL ∧ PoolIs WL P L ∧ WL.heap[W.heap.size]? = some (.cells #[.func (.yield r) #[] #[]] 86 (0, 0)) ∧ WL.heap[wr.heap.size]? = some (.cells #[.int .i64 (k : Nat)] 3 (0, 0)) ∧ wr.heap.size < WL.heap.size ∧ ∀ E ∈ ds, WL.heap[E]? = some (.deferred (some []))) := Lib.hid ⟨hJL, hPL, hyL, hbd, by omega, fun E hE => (hdL E hE).2⟩
      have HTL : Hid (∀ x ∈ r :: T, x < WL.heap.size ∧ x ∉ ([] : List Nat)) := Lib.hid (fun x hx => ⟨by have := (HT.out x hx).1; omega, by simp⟩)
      have HLN : Hid (∀ (pre : List (Nat × Int)) (x : Nat × Int), pre ++ [x] <+: en (dl P.g.z L k) → (allTo P.g.z L k ++ pre.map (fun x => (k, x.2))).length < P.qc.length * P.g.z.toNat ∧ (allTo P.g.z L k ++ pre.map (fun x => (k, x.2))) ++ [(k, x.2)] <+: allTo P.g.z L P.qc.length) := Lib.hid (fun pre x hp => by
        have h1 := allTo_pre (D := P.qc.length) hlt hp
        rw [List.map_append, ← List.append_assoc] at h1
        have h2 := h1.length_le
        have h3 := HPK.out.ok.all_len
        have h4 := HPK.out.ok.len
        rw [List.length_append] at h2
        simp only [List.map_cons, List.map_nil, List.length_cons, List.length_nil] at h2
        exact ⟨by omega, h1⟩)
      have HLE : Hid (allTo P.g.z L k ++ (en (dl P.g.z L k)).map (fun x => (k, x.2)) = allTo P.g.z L (k + 1)) := Lib.hid (allTo_en _ _ _).symm
      have HZ := Lib.hid zL
      clear hQL hPL hJL hyL hbd hbp hOL hdL hJk zL
      go_wp2
      refine (wpIn_wide (n := 8)).1 (wpIn_rangeT1 rfl (by omega) (gf := 42) (lb := #[.pointer (some ⟨wr.heap.size + 1, 0, none⟩)]) rfl trivial (enters_of Try.func42 (by kernel_rfl) rfl)
        HSQ.out (Below.refl _ _) (fun _ => rfl) (r :: T) HTL.out (by simp; have := HZ.out; omega)
        (fun pre W' => J (allTo P.g.z L k ++ pre.map (fun x => (k, x.2))) W' ∧ PoolIs W' P L ∧ W'.heap[W.heap.size]? = some (.cells #[.func (.yield r) #[] #[]] 86 (0, 0)) ∧ W'.heap[wr.heap.size]? = some (.cells #[.int .i64 (k : Nat)] 3 (0, 0)) ∧ wr.heap.size < W'.heap.size ∧ ∀ E ∈ ds, W'.heap[E]? = some (.deferred (some [])))
        (fun cx pre W' => cx = Code.ret ∧ Jx (allTo P.g.z L k ++ pre.map (fun x => (k, x.2))) W' ∧ W.heap.size < W'.heap.size ∧ ∀ E ∈ ds, W'.heap[E]? = some (.deferred (some [])))
        HI.out HX.out H0.out ?fr ?assign ?body ?done ?stop)
      case assign =>
        intro rr pre x W2 K2 _ hI hK2
        have HK2 := Lib.hid hK2
        clear hK2
        unfold ixV
        gi_wp2
        exact HK2.out W2 (Only.refl _ _)
      case body =>
        rintro rr pre x W2 _ hr ⟨hJ2, hP2, hy2, hd2, hz2, hE2⟩ hlen hsp
        have cy := cell_of_one hy2
        have cd := cell_of_one hd2
        obtain ⟨hl2, hs2⟩ := HLN.out pre x hsp
        obtain ⟨fn, tmps, assign, body, hyy, hR⟩ := HY.out _ (k, x.2) W2 hJ2 hl2 hs2
        have hy : (Instr.yield r #[.int .i64 (k : Nat), .int .i64 x.2]).run Try.prog W2 = .ok (.round r fn tmps assign body) W2 := hyy
        have HR := Lib.hid (roundIn_anyP (m := 5) hR)
        have HAPP : Hid ((allTo P.g.z L k ++ pre.map (fun x => (k, x.2))) ++ [(k, x.2)] = allTo P.g.z L k ++ (pre ++ [x]).map (fun x => (k, x.2))) := Lib.hid (by rw [List.map_append, ← List.append_assoc]; rfl)
        have HKE : Hid (∀ W3, Only (r :: T) W2 W3 → PoolIs W3 P L ∧ W3.heap[W.heap.size]? = some (.cells #[.func (.yield r) #[] #[]] 86 (0, 0)) ∧ W3.heap[wr.heap.size]? = some (.cells #[.int .i64 (k : Nat)] 3 (0, 0)) ∧ wr.heap.size < W3.heap.size ∧ ∀ E ∈ ds, W3.heap[E]? = some (.deferred (some []))) := Lib.hid (fun W3 hO => ⟨hP2.only hO (fun x hx => (HT.out x hx).2), hO.get hy2 (fun h => by have := (HT.out _ h).1; omega), hO.get hd2 (fun h => by have := (HT.out _ h).1; omega), by have := hO.size; omega, fun E hE => hO.get (hE2 E hE) (fun h => by have h5 := (HT.out _ h).1; have := (HDS.out E hE).1; omega)⟩)
        clear hyy hR hJ2 hP2 hy2 hd2 hE2 hl2 hs2 hsp
        gi_wp2_with fail
        refine RoundIn.mono (F := Fence.wide.inRound rr) HR.out ?_
        rintro e W3 ⟨hO3, (⟨rfl, hJ3⟩ | ⟨rfl, hJx3⟩)⟩
        · obtain ⟨k1, k2, k3, k4, k5⟩ := HKE.out W3 hO3
          have HK5 := Lib.hid k5
          clear k5
          gi_wp2
          exact ⟨hO3, by rw [← HAPP.out]; exact hJ3, k1, k2, k3, k4, HK5.out⟩
        · obtain ⟨k1, k2, k3, k4, k5⟩ := HKE.out W3 hO3
          have HK5 := Lib.hid k5
          clear k5 k1
          gi_wp2
          exact ⟨hO3, rfl, by rw [← HAPP.out]; exact hJx3, by omega, HK5.out⟩
      case done =>
        rintro D ys W2 hD rfl ⟨hJ2, hP2, hy2, hd2, hz2, hE2⟩ hKD
        rw [HLE.out] at hJ2
        have HR : Hid (J (allTo P.g.z L (k + 1)) W2 ∧ PoolIs W2 P L ∧ W2.heap[W.heap.size]? = some (.cells #[.func (.yield r) #[] #[]] 86 (0, 0)) ∧ W.heap.size < W2.heap.size ∧ (D :: ds).Nodup ∧ ∀ E ∈ D :: ds, W.heap.size < E ∧ W2.heap[E]? = some (.deferred (some []))) := Lib.hid ⟨hJ2, hP2, hy2, by omega, List.nodup_cons.2 ⟨fun hm => by have := (hEc D hm).1; omega, HND.out⟩, fun E hE => by
          rcases List.mem_cons.1 hE with e | hm
          · rw [e]; exact ⟨by have := HZ.out; omega, hKD⟩
          · exact ⟨(HDS.out E hm).1, hE2 E hm⟩⟩
        clear hJ2 hP2 hy2 hd2 hE2 hKD
        go_wp2
        refine HKK.out _ _ (Handed.intro (P.qc.length - (k + 1)) (by omega) (HJJ.out _ _ _ ?_))
        exact ⟨_, _, _, _, _, _, _, _, _, _, _, _, _, _, _, _, _, _, _, D :: ds, rfl, k + 1, by omega, rfl, by go_num, HR.out⟩
      case stop =>
        rintro D cx pre W2 hD hsp ⟨rfl, hJ2, hz2, hE2⟩ hKD
        refine wpIn_wide.2 ?_
        have HDD : Hid (∀ E ∈ D :: ds, W.heap.size ≤ E ∧ W2.heap[E]? = some (.deferred (some []))) := Lib.hid (fun E hE => by
          rcases List.mem_cons.1 hE with e | hm
          · rw [e]; exact ⟨by have := HZ.out; omega, hKD⟩
          · exact ⟨by have := (HDS.out E hm).1; omega, hE2 E hm⟩)
        have HNN : Hid ((D :: ds).Nodup) := Lib.hid (List.nodup_cons.2 ⟨fun hm => by have := (hEc D hm).1; omega, HND.out⟩)
        have HSP := Lib.hid (allTo_pre (D := P.qc.length) hlt hsp)
        have HJ2 := Lib.hid hJ2
        clear hJ2 hE2 hKD
        go_wp2
        refine leave_marks (v := .tuple #[]) (D :: ds) _ HNN.out (fun E hE => (HDD.out E hE).2) ?_
        intro W' hO
        exact ⟨results_none rfl _ _ _, ⟨_, rfl⟩, .inr ⟨_, HSP.out, hJx _ _ _ HJ2.out (Turn.of_marks hO HDD.out (fun x hx h => by have h1 := (HDD.out x h).1; have := HCW.out x hx; omega))⟩⟩
    · obtain rfl : k = P.qc.length := by omega
      have HJk := Lib.hid hJk
      clear hJk hPk
      go_wp2
      refine leave_marks (v := .tuple #[]) ds _ HND.out (fun E hE => (HDS.out E hE).2) ?_
      intro W' hO
      exact ⟨results_none rfl _ _ _, ⟨_, rfl⟩, .inl ⟨_, rfl, hJ _ _ _ HJk.out (Turn.of_marks hO (fun E hE => ⟨by have := (HDS.out E hE).1; omega, (HDS.out E hE).2⟩) (fun x hx h => by have h1 := (HDS.out x h).1; have := HCW.out x hx; omega))⟩⟩
end Go.Proofs.Ytogijlpclceanaa
