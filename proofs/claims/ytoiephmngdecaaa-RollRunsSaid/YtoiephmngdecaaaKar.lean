/- Proved here: the records of a list, by their numbers, and the zones in which they were found (roll's records); snap's part: the body of another frame; the map's All; Laws over any program: ranges over functions (Turn), where a round's frame is known but for one block that its assignment has laid. -/
import Derived.Great.BuildSlice
import Derived.LoopTactic
import Derived.Test.YtoiephmngdecaaaKae
import Derived.Test.YtoiephmngdecaaaKal
import Derived.Test.YtoiephmngdecaaaKam
import Derived.Test.YtoiephmngdecaaaKan
import Derived.Test.YtoiephmngdecaaaKao
import Derived.Test.YtoiephmngdecaaaKap
import Derived.Test.YtoiephmngdecaaaKaq
namespace Go.Proofs.Ytoiephmngdecaaa
open Go.RowKit Go.Rv Rl Frm
set_option linter.unusedVariables false
attribute [local go_sem] Oper.semAt_some
theorem built_rec (e : En.E) (z o : Int) (h : EBody e) : Try.prog.built 102 [(0, .agg (EC e)), (1, .int .i64 z), (2, .int .i64 o)] = some (recC ⟨e, z, o⟩) := by
  obtain ⟨k, f, c, bl, m, t, l⟩ := e; obtain ⟨fn, rfl⟩ := list_fn l 32 h.1; kernel_rfl
theorem filled_rec (r : Rec) (h : RecQ r) (ie : Array Value) (h0 : ie = recC rec0) : Instr.fill (fun i => some (i * 40, 40)) ((Array.range (1 * 40)).map (ie[· % 40]!)) [(0, .agg (recC r))] = some (recC r) := by
  obtain ⟨⟨k, f, c, bl, m, t, l⟩, z, o⟩ := r; obtain ⟨fn, rfl⟩ := list_fn l 32 h.1; subst h0; kernel_rfl
/-- a slice of one record is made -/
theorem wpList_slice1r {w : World} {ops : Array Oper} {rest : List Oper} {o : Oper} {a : Act} {Q : Exit → Act → World → Prop} (hg : o.guard = none) (x : Operand) (ho : o.op = .buildSlice 100 1 #[(0, x)]) (r : Rec) (hq : RecQ r) (X : Array Value) (hX : recC r = X) (hx : a.eval x = .agg X)
    (h : wpList Try.prog ops Q rest (a.put o.dst (.slice (some ⟨w.heap.size, 0, none⟩) 1 1)) (w.alloc (.cells X 102))) : wpList Try.prog ops Q (o :: rest) a w := by
  subst hX; have hi := Try.infoRec
  cases hie : Try.prog.info? 102 with
  | none => rw [hie] at hi; cases hi
  | some ie =>
    rw [hie, Option.map_some, Option.some.injEq, Prod.mk.injEq] at hi; obtain ⟨hz, hs⟩ := hi; refine wpList_buildSlice hg 100 102 1 #[(0, x)] ho (recC r) ie (.agg (recC rec0)) Try.underlying100 hie hz (by rw [hs]; decide) (by rw [hs]; decide) ?_ h; rw [hs]; have h1 := filled_rec r hq _ rfl; simp only [List.map_toArray, List.map_cons, List.map_nil, hx]; exact h1
theorem Try.infoRecs : (Try.prog.info? 100).map (fun i => (i.zero, i.size)) = some (some (.slice none 0 0), 1) := by kernel_rfl
namespace Rl
theorem recs_take {g : Geo.G} {epoch next : Int} {l : List Fnd} {k : Nat} {f : Fnd} (h : l[k]? = some f) : recs g epoch next (l.take (k + 1)) = recs g epoch next (l.take k) ++ (recF g epoch next f).toList := by
  rw [List.take_add_one, h, recs_append]; congr 1
end Rl
set_option maxRecDepth 100000 in
set_option maxHeartbeats 32000000 in
theorem rrecords_any (w : World) (p le ll ce cl : Nat) (g : Geo.G) (es : List BE) (lv : List Int) (h : BmIs w p le ll ce cl g es lv) (gen epoch next : Int) (a : Option Addr) (fs : List Fnd) (cap : Nat) (hI : RowOf w 51 fndC FndQ a fs) (hl : fs.length ≤ 1000) :
    Calls Try.prog 27 #[.agg (SnC gen epoch next p), .slice a fs.length cap] w fun e w' => ∃ mb u V, e = .returned (.tuple #[.map (some mb), u]) ∧ OwnM w' 3 1 iC (fun _ => True) w.heap.size u (Lib.compact (sortedI (Rl.zones (recs g epoch next fs)))) ∧ ByIs w' w.heap.size mb (recs g epoch next fs) V ∧ Below w.heap.size w w' := by
  have HGM : Hid (∀ W, Below w.heap.size w W → Calls Try.prog 29 #[.pointer (some ⟨p, 0, none⟩)] W fun x w' => x = .returned (.agg (GC g)) ∧ Below W.heap.size W w') := Lib.hid (fun W hW => bgeom_any W p le ll ce cl g es lv (h.below hW)); have HRC := Lib.hid (fun (f : Fnd) (W : World) (hq : FndQ f) => rrecord_any g epoch f W hq); have HI := Lib.hid hI; have hzf := (zero_of_info Try.infoFnd).1; have hze := (zero_of_info Try.infoEntry).1; have HZL := Lib.hid (zero_of_info Try.infoRecs).1; have hmk : ∀ W : World, (Instr.makeMap 89 none).run Try.prog W = .ok (.map (some W.heap.size)) (W.alloc (.map #[] 0)) := fun W => rfl
  have HIF := Lib.hid (fun (f : Fnd) (hq : FndQ f) => size_fnd hq); have HIL : Hid (∀ f, FndQ f → (Try.prog.info? 70).map (·.size) = some (fndC f).toList.length) := Lib.hid (fun f hq => size_fnd hq); have HZF : Hid (∀ f, FndQ f → (fndC fnd0).size = (fndC f).size) := Lib.hid (fun f hq => by rw [kinFnd.size f hq]; rfl); have HOF := Lib.hid (fun f hq => kinFnd.one f hq); have HIE := Lib.hid (fun (e : En.E) (hq : EBody e) => size_ent hq.1); have HZE : Hid (∀ e, EBody e → (EC En.E.zero).size = (EC e).size) := Lib.hid (fun e hq => by rw [EC_size, EC_size, hq.1]; rfl); have HOE := Lib.hid (fun (e : En.E) (hq : EBody e) => EC_one e); have HSI := Lib.hid (snsize gen epoch next p); obtain ⟨RK, hRK⟩ : ∃ RK : Nat → List (Int × Rec), (fun k => recs g epoch next (fs.take k)) = RK := ⟨_, rfl⟩; have HR0 : Hid (RK 0 = []) := Lib.hid (by rw [← hRK]; rfl); have HRN : Hid (RK fs.length = recs g epoch next fs) := Lib.hid (by rw [← hRK]; show recs g epoch next (fs.take fs.length) = _; rw [List.take_length]); have HRL : Hid (∀ k, (RK k).length ≤ k) := Lib.hid (fun k => by rw [← hRK]; exact Nat.le_trans (recs_length _ _ _ _) (List.length_take_le k fs)); have HRS : Hid (∀ k f, fs[k]? = some f → RK (k + 1) = RK k ++ (recF g epoch next f).toList) := Lib.hid (fun k f hf => by rw [← hRK]; exact recs_take hf)
  have HBD : Hid (∀ f, FndQ f → EBody ((recE g epoch f).getD En.E.zero)) := Lib.hid (fun f hq => by
    cases hre : recE g epoch f with
    | none => exact zero_ebody
    | some e => exact (by have := readE_body f.fr hq.2.2.1; unfold recE at hre; split at hre; simp only [Option.some.injEq] at hre; rw [hre] at this; exact this; cases hre))
  obtain ⟨RE, hRE⟩ : ∃ RE, recs g epoch next fs = RE := ⟨_, rfl⟩; rw [hRE] at HRN; rw [hRE]; obtain ⟨n, hn⟩ : ∃ n, fs.length = n := ⟨_, rfl⟩; have HN := Lib.hid hn; rw [hn] at HRN hl ⊢; obtain ⟨W1, hW1⟩ : ∃ W, w.alloc (.cells (SnC gen epoch next p) 29) = W := ⟨_, rfl⟩; have hb1 : Below w.heap.size w W1 := by rw [← hW1]; exact (Below.refl _ _).alloc (Nat.le_refl _) _
  have hs1 : W1.heap[w.heap.size]? = some (.cells (SnC gen epoch next p) 29 (0, 0)) := by rw [← hW1]; exact heap_alloc_new w _
  have zs1 : w.heap.size < W1.heap.size := (Array.getElem?_eq_some_iff.1 hs1).1; obtain ⟨W2, hW2⟩ : ∃ W, W1.alloc (.map #[] 0) = W := ⟨_, rfl⟩; have hb2 : Below W1.heap.size W1 W2 := by rw [← hW2]; exact (Below.refl _ _).alloc (Nat.le_refl _) _
  have hy2 : ByIs W2 w.heap.size W1.heap.size [] (fun _ => .slice none 0 0) := by rw [← hW2]; exact ByIs.start W1 (by omega)
  have HW1 := Lib.hid hW1; have HW2 := Lib.hid hW2; have HY2 := Lib.hid hy2; have HS2 := Lib.hid ((hb2.block _ zs1).trans hs1); have HB2 := Lib.hid (hb1.trans (hb2.mono (Nat.le_of_lt zs1))); have zb2 := hb2.size; obtain ⟨SX, hSX⟩ : ∃ X, SnC gen epoch next p = X := ⟨_, rfl⟩; have HSX : Hid (∀ (W : World) (b : Nat), W.heap[b]? = some (.cells SX 29 (0, 0)) → W.cell? ⟨b, 1, none⟩ = some (.int .i64 epoch) ∧ W.cell? ⟨b, 2, none⟩ = some (.int .i64 next) ∧ W.cell? ⟨b, 3, none⟩ = some (.pointer (some ⟨p, 0, none⟩))) := Lib.hid (fun W b hh => by rw [← hSX] at hh; exact (sn_cells hh).2); obtain ⟨GX, hGX⟩ : ∃ X, GC g = X := ⟨_, rfl⟩; rw [hSX] at HW1 HS2 HSI ⊢; rw [hGX] at HGM HRC; obtain ⟨EZ, hEZ⟩ : ∃ Z, EC En.E.zero = Z := ⟨_, rfl⟩; rw [hEZ] at hze HZE; obtain ⟨FZ, hFZ⟩ : ∃ Z, fndC fnd0 = Z := ⟨_, rfl⟩; rw [hFZ] at hzf HZF; clear h hI hRK hRE hn hW1 hb1 hs1 hW2 hb2 hy2 hSX hGX hEZ hFZ; go_enter Try.func27, Try.ntmps27; go_upto_region 1 with (fail); rw [HW1.out]; go_upto_region 2 with (fail); rw [HW2.out]; clear hmk; obtain ⟨mb, hmb⟩ : ∃ mb, W1.heap.size = mb := ⟨_, rfl⟩; rw [hmb] at HY2 zb2 zs1 ⊢; clear hmb; go_wp2; go_loopw [7, 15] (fun x u wr => ∃ (k : Nat) (V : Int → Value) (v : Value), k ≤ n ∧ u = .int .i64 k ∧ v = x ∧ OwnM wr 3 1 iC (fun _ => True) w.heap.size v (Rl.zones (RK k)) ∧ ByIs wr w.heap.size mb (RK k) V ∧ wr.heap[w.heap.size]? = some (.cells SX 29 (0, 0)) ∧ Below w.heap.size w wr) (fun _ u _ => n - (intOf u).toNat)
  case atStart => exact ⟨0, _, _, Nat.zero_le _, rfl, rfl, by rw [HR0.out]; exact OwnM.nil _ _ _ _ _ _, by rw [HR0.out]; exact HY2.out, HS2.out, HB2.out⟩
  case round =>
    obtain ⟨k, V, v, hk, rfl, rfl, hown, hby, hsn, hBr⟩ := hrel; have HBR := Lib.hid hBr; have HOW := Lib.hid hown
    have HBY := Lib.hid hby
    have HSN := Lib.hid hsn; have zr := hBr.size; have HSB0 : Hid (w.heap.size < wr.heap.size) := Lib.hid (Array.getElem?_eq_some_iff.1 hsn).1; clear hBr hown hby hsn; by_cases hlt : k < n
    · obtain ⟨f, hf⟩ : ∃ f, fs[k]? = some f := ⟨_, List.getElem?_eq_getElem (by rw [HN.out]; exact hlt)⟩; have hq := HI.out.all f (List.mem_of_getElem? hf); obtain ⟨ab, ao, rfl, -, -, -⟩ := HI.out.at hf; have HGF := Lib.hid (Rl2.rowOf_range (HI.out.below HBR.out) kinFnd.size hf); have hrs := HRS.out k f hf; have hEB := HBD.out f hq; have hwf : (Lit.int .i64 f.fr.seq).wf = true := hq.2.2.2.2.2.2.2; obtain ⟨x, hx⟩ : ∃ x, (recE g epoch f).getD En.E.zero = x := ⟨_, rfl⟩; obtain ⟨rb, hrb⟩ : ∃ b, (recE g epoch f).isSome = b := ⟨_, rfl⟩
      have hcase : (rb = false ∧ RK (k + 1) = RK k) ∨ (rb = true ∧ decide (f.fr.seq < next) = true ∧ RK (k + 1) = RK k) ∨ (rb = true ∧ decide (f.fr.seq < next) = false ∧ RK (k + 1) = RK k ++ [(f.fr.seq, ⟨x, f.zone, f.off⟩)]) := by
        rw [hrs, ← hrb, ← hx]; unfold recF
        cases hre : recE g epoch f with
        | none => exact .inl ⟨rfl, by simp⟩
        | some e =>
          by_cases hs : f.fr.seq < next
          · exact .inr (.inl ⟨rfl, decide_eq_true hs, by simp [hs]⟩)
          · exact .inr (.inr ⟨rfl, decide_eq_false hs, by simp [hs]⟩)
      have hrc := fun W => HRC.out f W hq
      rw [hx, hrb] at hrc; have HRCF := Lib.hid hrc; rw [hx] at hEB; have HCASE := Lib.hid hcase; have HFC : Hid (∀ (W : World) (b : Nat), W.heap[b]? = some (.cells (fndC f) 70 (0, 0)) → W.cell? ⟨b, 0, none⟩ = some (.int .i64 f.zone) ∧ W.cell? ⟨b, 1, none⟩ = some (.int .i64 f.off) ∧ W.cell? ⟨b, 6, none⟩ = some (.int .i64 f.fr.seq)) := Lib.hid (fun W b hh => ⟨(fnd_cells hh).1, (fnd_cells hh).2.1, (fnd_cells hh).2.2.2.2.2⟩); have HIF1 := Lib.hid (HIF.out f hq); have HIL1 := Lib.hid (HIL.out f hq); have HZF1 := Lib.hid (HZF.out f hq); have HOF1 := Lib.hid (HOF.out f hq); have HIE1 := Lib.hid (HIE.out x hEB); have HZE1 := Lib.hid (HZE.out x hEB); have HOE1 := Lib.hid (HOE.out x hEB); have HRQ : Hid (RecQ ⟨x, f.zone, f.off⟩) := Lib.hid hEB; have HBLT := Lib.hid (built_rec x f.zone f.off hEB); have HRX := Lib.hid (size_rec (r := ⟨x, f.zone, f.off⟩) hEB); obtain ⟨CF, hCF⟩ : ∃ C, fndC f = C := ⟨_, rfl⟩; rw [hCF] at HGF HRCF HFC HIF1 HIL1 HZF1 HOF1; obtain ⟨zn, hzn⟩ : ∃ z, f.zone = z := ⟨_, rfl⟩; obtain ⟨fo, hfo⟩ : ∃ z, f.off = z := ⟨_, rfl⟩; obtain ⟨sq, hsq⟩ : ∃ z, f.fr.seq = z := ⟨_, rfl⟩; rw [hzn, hfo, hsq] at HFC; rw [hzn, hfo, hsq] at HCASE; rw [hzn, hfo] at HRQ HBLT HRX; rw [hsq] at hwf; obtain ⟨CE, hCE⟩ : ∃ C, EC x = C := ⟨_, rfl⟩; rw [hCE] at HRCF HIE1 HZE1 HOE1 HBLT; obtain ⟨rr, hrr⟩ : ∃ r : Rec, (⟨x, zn, fo⟩ : Rec) = r := ⟨_, rfl⟩; have hrz : rr.zone = zn := by rw [← hrr]
      rw [hrr] at HCASE HRQ HBLT HRX; obtain ⟨CR, hCR⟩ : ∃ C, recC rr = C := ⟨_, rfl⟩; rw [hCR] at HBLT HRX; have HRZ := Lib.hid hrz; have HCR := Lib.hid hCR; have HWF := Lib.hid hwf; clear hf hq hrs hEB hx hrb hcase hrc hCF hzn hfo hsq hCE hrr hCR hrz hwf; obtain ⟨W3, hW3⟩ : ∃ W, wr.alloc (.cells CF 70) = W := ⟨_, rfl⟩; have hb3 : Below wr.heap.size wr W3 := by rw [← hW3]; exact (Below.refl _ _).alloc (Nat.le_refl _) _
      have hf3 : W3.heap[wr.heap.size]? = some (.cells CF 70 (0, 0)) := by rw [← hW3]; exact heap_alloc_new wr _
      have zf3 : wr.heap.size < W3.heap.size := (Array.getElem?_eq_some_iff.1 hf3).1; have HF3 := Lib.hid hf3; have HSN3 := Lib.hid ((hb3.block _ HSB0.out).trans HSN.out); have HBY3 := Lib.hid (HBY.out.below hb3); have HOW3 := Lib.hid (HOW.out.below hb3); have HB3 := Lib.hid (HBR.out.trans (hb3.mono zr)); have HW3 := Lib.hid hW3; clear hW3 hb3 hf3; go_upto_region 6 with (first | (refine wpList_load_mid rfl 70 _ rfl ab (ao + k * 51) rfl CF.toList _ HGF.out Try.underlying70 rfl HIL1.out ?_) | (refine wpList_store_row rfl 70 _ _ rfl wr.heap.size CF rfl rfl 70 FZ (heap_alloc_new wr _) HIF1.out HZF1.out HOF1.out ?_; rw [World.setRow_alloc_new])); rw [HW3.out, put_none]; have HTE : Hid (∀ V', Below wr.heap.size wr V' → True) := Lib.hid (fun _ _ => trivial); clear HTE; obtain ⟨E, hE⟩ : ∃ E, wr.heap.size = E := ⟨_, rfl⟩; have hwE : w.heap.size < E := by have := HSB0.out; omega
      rw [hE] at HF3 zf3 ⊢; clear hE; obtain ⟨C0, hC0⟩ : ∃ C, w.heap.size = C := ⟨_, rfl⟩; rw [hC0] at HSN3 hwE HOW3 HBY3 HB3 HGM ⊢; have HKF : Hid (∀ W, Below W3.heap.size W3 W → W.heap[E]? = some (.cells CF 70 (0, 0))) := Lib.hid (fun W hB => (hB.block E zf3).trans HF3.out); have HKS : Hid (∀ W, Below W3.heap.size W3 W → W.heap[C0]? = some (.cells SX 29 (0, 0))) := Lib.hid (fun W hB => (hB.block C0 (by omega)).trans HSN3.out); have HKG : Hid (∀ W, Below W3.heap.size W3 W → Calls Try.prog 29 #[.pointer (some ⟨p, 0, none⟩)] W fun x w' => x = .returned (.agg GX) ∧ Below W.heap.size W w') := Lib.hid (fun W hB => HGM.out W (HB3.out.trans (hB.mono HBY3.out.hB.2))); have zC3 : C0 ≤ W3.heap.size := by omega
      refine wp_region_conf8 12 [Fact.eq (.pointer (some ⟨C0, 3, none⟩)), Fact.eq (.pointer (some ⟨p, 0, none⟩)), Fact.eq (.agg GX), Fact.eq (.pointer (some ⟨C0, 1, none⟩)), Fact.eq (.int .i64 epoch), Fact.eq (.agg CF), Fact.eq (.tuple #[.agg CE, .bool rb]), Fact.eq (.tuple #[.agg CE, .bool rb]), Fact.eq (.agg CE), Fact.eq (.bool rb), Fact.eq undef, Fact.eq undef] 10 11 EZ CE 65 ?raA (by kernel_rfl) (by kernel_rfl) (by kernel_rfl) ?rahA ?rahs ?raho ?rahend
      case rahA =>
        intro vv; simp only [putRules, Nat.reduceAdd]; rfl
      case rahs =>
        intro j u W g hj hg hr hp
        match j, hj with
        | 0, _ => exact hp
        | 1, _ => exact hp
        | 2, _ => exact hp
        | 3, _ => exact hp
        | 4, _ => exact hp
        | 5, _ => exact hp
        | 6, _ => exact hp
        | 7, _ => exact hp
        | 8, _ => exact hp
        | 9, _ => exact hp
        | 10, _ => exact hp
        | 11, _ => exact hp
      case raho =>
        refine ⟨?_, ?_, ?_, ?_, ?_, ?_, ?_, ?_, ?_, ?_, ?_, ?_, trivial⟩
        · intro vv W K hB hd HK; simp only [conf8Rules] at HK; clear hd; go_wp2; refine HK.out _ _ (Below.refl _ _) ?_; rfl
        · intro vv W K hB hd HK; simp only [confRules, conf8Rules, cond7] at hd HK; have h0 := hd; clear hd; simp only [h0] at HK ⊢; clear h0; obtain ⟨-, -, c9⟩ := HSX.out W C0 (HKS.out W hB); go_wp2; refine HK.out _ _ (Below.refl _ _) ?_; rfl
        · intro vv W K hB hd HK; simp only [confRules, conf8Rules, cond7] at hd HK; have h1 := hd; clear hd; simp only [h1] at HK ⊢; clear h1; go_wp2_with (refine (HKG.out _ hB).mono ?_; rintro e w9 ⟨rfl, hB9⟩); refine HK.out _ _ hB9 ?_; rfl
        · intro vv W K hB hd HK; simp only [conf8Rules] at HK; clear hd; go_wp2; refine HK.out _ _ (Below.refl _ _) ?_; rfl
        · intro vv W K hB hd HK; simp only [confRules, conf8Rules, cond7] at hd HK; have h3 := hd; clear hd; simp only [h3] at HK ⊢; clear h3; obtain ⟨c9, -, -⟩ := HSX.out W C0 (HKS.out W hB); go_wp2; refine HK.out _ _ (Below.refl _ _) ?_; rfl
        · intro vv W K hB hd HK; simp only [conf8Rules] at HK; clear hd; refine wpList_load_row rfl 70 _ rfl E rfl 70 _ _ _ (HKF.out W hB) Try.underlying70 rfl HIF1.out ?_; refine HK.out _ _ (Below.refl _ _) ?_; rfl
        · intro vv W K hB hd HK; simp only [confRules, conf8Rules, cond7] at hd HK; obtain ⟨h2, h4, h5, _⟩ := hd; simp only [h2, h4, h5] at HK ⊢; clear h2 h4 h5; go_wp2_with (refine (HRCF.out _).mono ?_; rintro e w9 ⟨rfl, hB9⟩); refine HK.out _ _ hB9 ?_; rfl
        · intro vv W K hB hd HK; simp only [confRules, conf8Rules, cond7] at hd HK; have h6 := hd; clear hd; simp only [h6] at HK ⊢; clear h6; go_wp2; refine HK.out _ _ (Below.refl _ _) ?_; rfl
        · intro vv W K hB hd HK; simp only [confRules, conf8Rules, cond7] at hd HK; have h7 := hd; clear hd; simp only [h7] at HK ⊢; clear h7; go_wp2; refine HK.out _ _ (Below.refl _ _) ?_; rfl
        · intro vv W K hB hd HK; simp only [confRules, conf8Rules, cond7] at hd HK; have h7 := hd; clear hd; simp only [h7] at HK ⊢; clear h7; go_wp2; refine HK.out _ _ (Below.refl _ _) ?_; rfl
        · intro vv W K hB hd HK; simp only [] at HK; clear hd; go_wp2; refine HK.out _ _ hB.size ((Below.refl _ _).alloc (Nat.le_refl _) _) (heap_alloc_new _ _)
        · intro vv W K g hB hg hr hp hd HK; simp only [confRules, conf8Rules, cond7] at hd HK; obtain ⟨h8, h6, h0, h1, h2, h3, h4, h5, _, h7, _⟩ := hd; simp only [hp, h8, h6, h0, h1, h2, h3, h4, h5, h7] at HK ⊢; clear h8 h6 h0 h1 h2 h3 h4 h5 h7; go_wp2_with (refine wpList_store_row rfl 65 _ _ rfl g CE rfl rfl 65 EZ hr HIE1.out HZE1.out HOE1.out ?_); refine HK.out _ _ rfl ?_; rfl
      case rahend =>
      intro vv W g10 hB hf e10 l10 r10; have e9 := hf 9 (by decide) (by decide); simp only [conf8Rules] at e9; simp only [e9, e10, dropRules]; clear hf e10 e9; go_upto_region 7 with (fail); obtain ⟨W4, hW4⟩ : ∃ W4, W = W4 := ⟨_, rfl⟩; have HB4 := Lib.hid (HB3.out.trans (hB.mono zC3)); have HF4 := Lib.hid (HKF.out W hB); have HSN4 := Lib.hid (HKS.out W hB); have HBY4 := Lib.hid (HBY3.out.below hB); have HOW4 := Lib.hid (HOW3.out.below hB); have HE4 := Lib.hid r10; have hEg : E < g10 := by omega
      rw [hW4] at HB4 HF4 HSN4 HBY4 HOW4 HE4 ⊢; clear hW4 hB r10 HKF HKS HKG; obtain ⟨s1, s2, -⟩ := HSX.out W4 C0 HSN4.out; obtain ⟨f1, f2, f3⟩ := HFC.out W4 E HF4.out; rcases HCASE.out with ⟨rfl, hst⟩ | ⟨rfl, t1, hst⟩ | ⟨rfl, t1, hst⟩
      · have HST := Lib.hid hst; clear hst s1 s2 f1 f2 f3; go_wp2; have hfo := HOW4.out; rw [← HST.out] at hfo; have hfb := HBY4.out; rw [← HST.out] at hfb; refine ⟨⟨_, _, _, _, _, ⟨k + 1, by omega, ?_, hfo, ⟨V, hfb⟩, HSN4.out, HB4.out⟩, rfl, rfl, rfl, rfl, rfl⟩, by simp [intOf]; omega⟩; go_num
      · have HST := Lib.hid hst; clear hst; go_wp2; have hfo := HOW4.out; rw [← HST.out] at hfo; have hfb := HBY4.out; rw [← HST.out] at hfb; refine ⟨⟨_, _, _, _, _, ⟨k + 1, by omega, ?_, hfo, ⟨V, hfb⟩, HSN4.out, HB4.out⟩, rfl, rfl, rfl, rfl, rfl⟩, by simp [intOf]; omega⟩; go_num
      · have HST := Lib.hid hst; clear hst; go_upto_region 8 with (fail); clear s1 s2 f1 f2 f3 t1; obtain ⟨a1, cap1, hv1, hr1, hc1, hc2, hb1, -⟩ := HBY4.out.at sq; obtain ⟨n1, hn1⟩ : ∃ n, (atSeq (RK k) sq).length = n := ⟨_, rfl⟩; have hn1b : n1 ≤ 1000 := by have := atSeq_length (RK k) sq; have := HRL.out k; omega
        rw [hn1] at hv1; have HN1 := Lib.hid hn1; have HV1 := Lib.hid hv1; obtain ⟨SB, hSB⟩ : ∃ s, (V sq).ownBlock.toList = s := ⟨_, rfl⟩; have HSBM : Hid (∀ x ∈ SB, (V sq).ownBlock = some x) := Lib.hid (fun x hx => by rw [← hSB] at hx; simpa using hx); have HSBK : Hid (∀ x ∈ SB, ∃ C, W4.heap[x]? = some (.cells C 102 (0, 0))) := Lib.hid (fun x hx => ((HBY4.out.hv sq).base_le (HSBM.out x hx)).2); have HGO : Hid (∀ V1 V2, V1.grownBy V2 (V sq).ownBlock → Only SB V1 V2) := Lib.hid (fun V1 V2 hg => (Only.refl _ _).grown hg (fun k hk => .inl (by rw [← hSB, hk]; simp))); have HNF : Hid (E ∉ SB ∧ C0 ∉ SB ∧ g10 ∉ SB ∧ mb ∉ SB) := Lib.hid ⟨fun hm => by obtain ⟨C, hC⟩ := HSBK.out _ hm; exact cells_ty_ne hC HF4.out (by decide) rfl, fun hm => by obtain ⟨C, hC⟩ := HSBK.out _ hm; exact cells_ty_ne hC HSN4.out (by decide) rfl, fun hm => by obtain ⟨C, hC⟩ := HSBK.out _ hm; exact cells_ty_ne hC HE4.out (by decide) rfl, fun hm => by obtain ⟨C, hC⟩ := HSBK.out _ hm; obtain ⟨es, clock, hmm⟩ := HBY4.out.hm.obj; exact map_ne_cells hmm hC rfl⟩
        have hSW : ∀ x ∈ SB, x < W4.heap.size := fun x hx => by obtain ⟨C, hC⟩ := HSBK.out x hx; exact (Array.getElem?_eq_some_iff.1 hC).1
        have HKF : Hid (∀ W, Only SB W4 W → W.cell? ⟨E, 0, none⟩ = some (.int .i64 zn) ∧ W.cell? ⟨E, 1, none⟩ = some (.int .i64 fo) ∧ W.cell? ⟨E, 6, none⟩ = some (.int .i64 sq)) := Lib.hid (fun W hO => HFC.out W E (hO.get HF4.out HNF.out.1)); have HKE : Hid (∀ W, Only SB W4 W → W.heap[g10]? = some (.cells CE 65 (0, 0))) := Lib.hid (fun W hO => hO.get HE4.out HNF.out.2.2.1); have HKM : Hid (∀ W, Only SB W4 W → MapI W Try.prog 3 (.slice none 0 0) mb (RK k).length V) := Lib.hid (fun W hO => HBY4.out.hm.only hO HNF.out.2.2.2); have HOLD := HBY4.out.hv sq; have HOLDH := Lib.hid HOLD; have hzE : W4.heap.size = W4.heap.size := rfl; clear HOLD hzE hSB hr1 hc1 hc2 hb1 hn1 hv1; refine wp_region_conf11 SB 17 [FactS.eq (.map (some mb)), FactS.eq (.pointer (some ⟨E, 2, none⟩)), FactS.eq (.pointer (some ⟨E, 6, none⟩)), FactS.eq (.int .i64 sq), FactS.eq (.map (some mb)), FactS.eq (.pointer (some ⟨E, 2, none⟩)), FactS.eq (.pointer (some ⟨E, 6, none⟩)), FactS.eq (.int .i64 sq), FactS.eq (.slice a1 n1 cap1), FactS.eq (.agg CE), FactS.eq (.pointer (some ⟨E, 0, none⟩)), FactS.eq (.int .i64 zn), FactS.eq (.pointer (some ⟨E, 1, none⟩)), FactS.eq (.int .i64 fo), FactS.eq (.agg CR), FactS.rowSl W4.heap.size CR 102 hSW, FactS.eq undef] 16 (fun V' => OwnM V' 102 40 recC RecQ C0 (.slice a1 n1 cap1) (atSeq (RK k) sq)) (fun u V' => OwnM V' 102 40 recC RecQ C0 u (atSeq (RK k) sq ++ [rr]) ∧ (u.ownBlock = (V sq).ownBlock ∨ ∃ b, u.ownBlock = some b ∧ W4.heap.size ≤ b)) ?rbA (by kernel_rfl) (by kernel_rfl) (by kernel_rfl) ?rbhA ?rbh0 ?rbhb ?rbhg ?rbho ?rbhend
        case rbhA =>
          intro vv; simp only [putRules, Nat.reduceAdd]; rfl
        case rbh0 =>
          rw [← HV1.out]; exact HOLDH.out.below (Below.refl _ _).drew
        case rbhb =>
          intro V1 V2 h1 h2; exact h1.below h2
        case rbhg =>
          intro u V1 V2 h1 h2; exact ⟨h1.1.below h2, h1.2⟩
        case rbho =>
          refine ⟨?_, ?_, ?_, ?_, ?_, ?_, ?_, ?_, ?_, ?_, ?_, ?_, ?_, ?_, ?_, ?_, ?_, trivial⟩
          · intro vv W K hO hd HK; simp only [confRules, conf6Rules] at HK; clear hd; go_wp2; refine HK.out _ _ (Below.refl _ _) ?_; rfl
          · intro vv W K hO hd HK; simp only [confRules, conf6Rules] at HK; clear hd; go_wp2; refine HK.out _ _ (Below.refl _ _) ?_; rfl
          · intro vv W K hO hd HK; simp only [confRules, conf6Rules] at hd HK; have h1 := hd; clear hd; simp only [h1] at HK ⊢; clear h1; go_wp2; refine HK.out _ _ (Below.refl _ _) ?_; rfl
          · intro vv W K hO hd HK; simp only [confRules, conf6Rules] at hd HK; have h2 := hd; clear hd; simp only [h2] at HK ⊢; clear h2; obtain ⟨-, -, c9⟩ := HKF.out W hO; go_wp2; refine HK.out _ _ (Below.refl _ _) ?_; rfl
          · intro vv W K hO hd HK; simp only [confRules, conf6Rules] at HK; clear hd; go_wp2; refine HK.out _ _ (Below.refl _ _) ?_; rfl
          · intro vv W K hO hd HK; simp only [confRules, conf6Rules] at HK; clear hd; go_wp2; refine HK.out _ _ (Below.refl _ _) ?_; rfl
          · intro vv W K hO hd HK; simp only [confRules, conf6Rules] at hd HK; have h5 := hd; clear hd; simp only [h5] at HK ⊢; clear h5; go_wp2; refine HK.out _ _ (Below.refl _ _) ?_; rfl
          · intro vv W K hO hd HK; simp only [confRules, conf6Rules] at hd HK; have h6 := hd; clear hd; simp only [h6] at HK ⊢; clear h6; obtain ⟨-, -, c9⟩ := HKF.out W hO; go_wp2; refine HK.out _ _ (Below.refl _ _) ?_; rfl
          · intro vv W K hO hd HK; simp only [confRules, conf6Rules] at hd HK; obtain ⟨h4, h7⟩ := hd; simp only [h4, h7] at HK ⊢; clear h4 h7; refine wpList_lookupI rfl (.tmp 43) (.tmp 46) 89 rfl 3 100 Try.underlying3 Try.underlying89 (.slice none 0 0) HZL.out mb (RK k).length V rfl (HKM.out W hO) sq rfl HWF.out ?_; rw [HV1.out]; refine HK.out _ _ (Below.refl _ _) ?_; rfl
          · intro vv W K hO hd HK; simp only [confRules, conf6Rules] at HK; clear hd; refine wpList_load_row rfl 65 _ rfl g10 rfl 65 _ _ _ (HKE.out W hO) Try.underlying65 rfl HIE1.out ?_; refine HK.out _ _ (Below.refl _ _) ?_; rfl
          · intro vv W K hO hd HK; simp only [confRules, conf6Rules] at HK; clear hd; go_wp2; refine HK.out _ _ (Below.refl _ _) ?_; rfl
          · intro vv W K hO hd HK; simp only [confRules, conf6Rules] at hd HK; have h10 := hd; clear hd; simp only [h10] at HK ⊢; clear h10; obtain ⟨c9, -, -⟩ := HKF.out W hO; go_wp2; refine HK.out _ _ (Below.refl _ _) ?_; rfl
          · intro vv W K hO hd HK; simp only [confRules, conf6Rules] at HK; clear hd; go_wp2; refine HK.out _ _ (Below.refl _ _) ?_; rfl
          · intro vv W K hO hd HK; simp only [confRules, conf6Rules] at hd HK; have h12 := hd; clear hd; simp only [h12] at HK ⊢; clear h12; obtain ⟨-, c9, -⟩ := HKF.out W hO; go_wp2; refine HK.out _ _ (Below.refl _ _) ?_; rfl
          · intro vv W K hO hd HK; simp only [confRules, conf6Rules] at hd HK; obtain ⟨h9, h11, h13⟩ := hd; simp only [h9, h11, h13] at HK ⊢; clear h9 h11 h13; refine wpList_build_on (by rfl) 102 _ rfl #[(0, .agg CE), (1, .int .i64 zn), (2, .int .i64 fo)] (by simp [Act.eval]) _ HBLT.out ?_; refine HK.out _ _ (Below.refl _ _) ?_; rfl
          · intro vv W K hO hd HK; simp only [confRules, conf6Rules] at hd HK; have h14 := hd; clear hd; simp only [h14] at HK ⊢; clear h14; refine wpList_slice1r rfl (.tmp 53) rfl rr HRQ.out CR HCR.out rfl ?_; refine HK.out _ _ ((Below.refl _ _).alloc (Nat.le_refl _) _) ?_; exact ⟨_, rfl, hO.size, heap_alloc_new _ _⟩
          · intro vv W K hO hI hd HK; simp only [confRules, conf6Rules] at hd HK; obtain ⟨h8, ⟨g15, h15, b15, z15⟩⟩ := hd; simp only [h8, h15] at HK ⊢; clear h8 h15; have HRX1 : Hid (RowOf W 40 recC RecQ (some ⟨g15, 0, none⟩) [rr]) := Lib.hid (one_rowOf (t := 102) (fr := (0, 0)) (by rw [HCR.out]; exact z15) HRQ.out); have HI9 := Lib.hid hI; have HSZ9 := Lib.hid hO.size; go_wp2_with (at_builtin; refine wpList_appendM rfl (.tmp 47) (.tmp 54) 100 rfl 102 40 recC RecQ kinRec (by decide) (.agg (recC rec0)) 96 Try.underlying100 Try.infoRec3 rfl C0 _ (atSeq (RK k) sq) rfl HI9.out (some ⟨g15, 0, none⟩) 1 [rr] (by rfl) HRX1.out (by simp) (by have := HN1.out; unfold maxLen; simp; omega) (by have := HN1.out; simp; omega) (by have := HSZ9.out; have := HBY4.out.hB.2; omega) ?_; intro v9 w9 hv9 hg9 hx9); exact HK.out _ _ (HGO.out _ _ (by rw [HV1.out]; exact hg9)) ⟨hv9, by rw [HV1.out]; rcases hx9 with e | e; exact .inl e; exact .inr ⟨_, e, hO.size⟩⟩
        case rbhend =>
        intro vv W hO hf hG; have e0 := hf 0 (by decide) (by rfl); simp only [conf6Rules] at e0; have e3 := hf 3 (by decide) (by rfl); simp only [conf6Rules] at e3; simp only [e0, e3, dropRules]; clear hf e0 e3; obtain ⟨u6, hu6⟩ : ∃ u, vv 16 = u := ⟨_, rfl⟩; rw [hu6] at hG; refine wpList_mapUpdateI rfl (.tmp 39) (.tmp 42) (.tmp 55) 89 rfl 3 100 Try.underlying3 Try.underlying89 (.slice none 0 0) mb (RK k).length V rfl (HKM.out W hO) (by have := HRL.out k; unfold maxLen; omega) sq rfl HWF.out ?_; intro w8 hM8 hg8; have hM8' : MapI w8 Try.prog 3 (.slice none 0 0) mb ((RK k).length + 1) (putV V sq u6) := by rw [← hu6]; exact hM8
        have hby8 := HBY4.out.put hO HSBM.out hG.1 hG.2 hM8' hg8; rw [← HST.out] at hby8
        have hne8 : ∀ k, (some mb : Option Nat) = some k → k ≠ E ∧ k ≠ C0 := fun k hk => by
          obtain ⟨es, clock, hmm⟩ := HBY4.out.hm.obj; simp only [Option.some.injEq] at hk; subst hk; exact ⟨map_ne_cells hmm HF4.out, map_ne_cells hmm HSN4.out⟩
        have hF8 : w8.heap[E]? = some (.cells CF 70 (0, 0)) := by
          have h1 := hO.get HF4.out HNF.out.1; exact (hg8.block E (Array.getElem?_eq_some_iff.1 h1).1 (fun e => (hne8 E e.symm).1 rfl)).trans h1
        have hS8 : w8.heap[C0]? = some (.cells SX 29 (0, 0)) := by
          have h1 := hO.get HSN4.out HNF.out.2.1; exact (hg8.block C0 (Array.getElem?_eq_some_iff.1 h1).1 (fun e => (hne8 C0 e.symm).2 rfl)).trans h1
        have hO8 : OwnM w8 3 1 iC (fun _ => True) C0 v (Rl.zones (RK k)) := by
          have h1 := HOW4.out.only hO (fun k hk hm => by
            obtain ⟨-, C, hC⟩ := HOW4.out.base_le hk; obtain ⟨C', hC'⟩ := HSBK.out _ hm; exact cells_ty_ne hC hC' (by decide) rfl)
          refine h1.kept hg8 ?_
          cases hb : v.ownBlock with
          | none => exact .inl rfl
          | some j =>
            refine .inr (fun e => ?_); obtain ⟨-, C, hC⟩ := h1.base_le hb; obtain ⟨es, clock, hmm⟩ := HBY4.out.hm.obj; simp only [Option.some.injEq] at e; exact map_ne_cells (hO.get hmm HNF.out.2.2.2) hC e.symm
        have hB8 : Below C0 w w8 := HB4.out.trans ((hO.below (fun x hx => ((HBY4.out.hv sq).base_le (HSBM.out x hx)).1) HBY4.out.hB.2).trans (Below.of_grown hg8 (Nat.le_trans HBY4.out.hB.2 hO.size) (fun k hk => by simp only [Option.some.injEq] at hk; subst hk; exact HBY4.out.hB.1))); have hz8 : Rl.zones (RK (k + 1)) = Rl.zones (RK k) ++ [zn] := by rw [HST.out]; unfold Rl.zones; rw [List.map_append]; simp only [List.map_cons, List.map_nil]; rw [HRZ.out]
        have c8 := (HFC.out w8 E hF8).1; have HBY8 := Lib.hid hby8; have HS8 := Lib.hid hS8; have HO8 := Lib.hid hO8; have HB8 := Lib.hid hB8; have HZ8 := Lib.hid hz8; have HZL8 : Hid ((Rl.zones (RK k)).length ≤ 1000) := Lib.hid (by unfold Rl.zones; rw [List.length_map]; have := HRL.out k; omega); clear hG hM8 hM8' hg8 hby8 hne8 hF8 hS8 hO8 hB8 hz8 hO hu6 HKF HKE HKM; have HA8 := Lib.hid ((Below.refl w8.heap.size w8).alloc (Nat.le_refl _) (.cells #[.int .i64 zn] 3)); have HOA := Lib.hid (HO8.out.below HA8.out); have HRA := Lib.hid (add_one_int w8 3 zn); go_wp2_with (at_builtin; refine wpList_appendM rfl (.tmp 56) (.tmp 59) 33 rfl 3 1 iC (fun _ => True) kinI (by decide) (.int .i64 0) 8 Try.underlying33 Try.infoInt3 rfl C0 _ (Rl.zones (RK k)) rfl HOA.out (some ⟨w8.heap.size, 0, none⟩) 1 [zn] (by rfl) HRA.out (by simp) (by have := HZL8.out; unfold maxLen; simp; omega) (by have := HZL8.out; simp; omega) (by have := HBY8.out.hB.2; simp; omega) ?_; intro v11 w11 hv11 hg11 _; have hB11 := (HB8.out.trans (HA8.out.mono HBY8.out.hB.2)).trans (HOA.out.grown hg11 (by have := HBY8.out.hB.2; simp; omega)); have hby11 := (HBY8.out.below HA8.out).kept hg11 (fun k hk => (HOA.out.base_le hk).2); have hs11 : w11.heap[C0]? = some (.cells SX 29 (0, 0)) := (hg11.block C0 (by have := HBY8.out.hB.2; have := (Array.getElem?_eq_some_iff.1 HS8.out).1; simp; omega) (fun e => by obtain ⟨-, C, hC⟩ := HOA.out.base_le e.symm; exact cells_ty_ne hC ((HA8.out.block C0 (Array.getElem?_eq_some_iff.1 HS8.out).1).trans HS8.out) (by decide) rfl)).trans ((HA8.out.block C0 (Array.getElem?_eq_some_iff.1 HS8.out).1).trans HS8.out)); rw [← HZ8.out] at hv11; refine ⟨⟨_, _, _, _, _, ⟨k + 1, by omega, ?_, hv11, ⟨_, hby11⟩⟩, rfl, rfl, rfl, rfl, rfl⟩, by simp [intOf]; omega⟩; go_num
    · obtain rfl : k = n := by omega
      have hown := HOW.out; have hby := HBY.out
      rw [HRN.out] at hown hby
      have hzl : (Rl.zones RE).length ≤ 1000 := by unfold Rl.zones; rw [List.length_map, ← HRN.out]; have := HRL.out k; omega
      have HSO := Lib.hid (sort_own hown (by omega)); have HOWN := Lib.hid hown
      have HBYN := Lib.hid hby
      have HZLN := Lib.hid hzl; clear hown hby hzl; go_wp2_with fail; refine HSO.out.mono ?_; rintro e1 w1 ⟨rfl, ho1, hg1⟩; have hby1 := HBYN.out.kept hg1 (fun k hk => (HOWN.out.base_le hk).2); have hB1 := HBR.out.trans (HOWN.out.grown hg1 HBYN.out.hB.2); have HCO := Lib.hid (compact_own ho1 (by rw [sortedI_length]; have := HZLN.out; omega)); have HO1 := Lib.hid ho1; have HBY1 := Lib.hid hby1; have HB1 := Lib.hid hB1; clear ho1 hg1 hby1 hB1; go_wp2_with fail; refine HCO.out.mono ?_; rintro e2 w2 ⟨u2, rfl, ho2, hg2⟩; have hby2 := HBY1.out.kept hg2 (fun k hk => (HO1.out.base_le hk).2); have hB2 := HB1.out.trans (HO1.out.grown hg2 HBY1.out.hB.2); have HO2 := Lib.hid ho2; have HBY2 := Lib.hid hby2; have HB2' := Lib.hid hB2; clear ho2 hg2 hby2 hB2; go_wp2
      go_ret2
      exact ⟨mb, u2, V, rfl, HO2.out, HBY2.out, HB2'.out⟩
end Go.Proofs.Ytoiephmngdecaaa
namespace Sn
open Go.Proofs.Ytoiephmngdecaaa
end Sn
namespace Go.Proofs.Ytoiephmngdecaaa
open Go.RowKit Go.Rv
set_option linter.unusedVariables false
attribute [local go_sem] Oper.semAt_some
end Go.Proofs.Ytoiephmngdecaaa
namespace Go.Proofs.Ytoiephmngdecaaa
open Go.RowKit Go.Rv Go.Shelf
set_option linter.unusedVariables false
attribute [local go_sem] Oper.semAt_some
set_option maxRecDepth 100000 in
theorem eall_any (a : Option Addr) (n c : Nat) (w : World) :
    Calls Try.prog 38 #[.slice a n c] w fun e w' => e = .returned (.func (.func 57) #[] #[.pointer (some ⟨w.heap.size, 0, none⟩)]) ∧ w' = w.alloc (.cells #[.slice a n c] 115) := by
  go_enter Try.func38, Try.ntmps38; go_wp2; go_ret; exact ⟨rfl, rfl⟩
set_option maxRecDepth 100000 in
theorem ball_any (w : World) (p : Nat) (a : Option Addr) (n c : Nat) (h : w.cell? ⟨p, 6, none⟩ = some (.slice a n c)) :
    Calls Try.prog 16 #[.pointer (some ⟨p, 0, none⟩)] w fun e w' => e = .returned (.func (.func 57) #[] #[.pointer (some ⟨w.heap.size, 0, none⟩)]) ∧ w' = w.alloc (.cells #[.slice a n c] 115) := by
  have HA := Lib.hid (eall_any a n c w); go_enter Try.func16, Try.ntmps16; go_wp2_with fail; refine HA.out.mono ?_; rintro e w1 ⟨rfl, rfl⟩; go_wp2; go_ret; exact ⟨rfl, rfl⟩
end Go.Proofs.Ytoiephmngdecaaa
namespace Go.Rv
open Go.RowKit
set_option linter.unusedVariables false
variable {F : Fence} {n : Nat} {P : Program}
theorem wpIn_rangeT2 {α : Type} {g : Operand} {ps : Array Tmp} {assign body : Code} {Q : Exit → Act → World → Prop} {a : Act} {w : World}
    (hro : F.round = none) (h1 : 1 ≤ n) {gf : Nat} {lb : Array Value} (hg : a.eval g = .func (.func gf) #[] lb) (hFg : F.fn gf) (eg : ∀ args w, (callFunc gf args).run P w = .ok (.enter gf args) w)
    {encs : α → Array Value} {R C : List Nat} {S Sp : List α → Prop} {N : Nat} {w0 : World} (hseq : SeqT F (n - 1) P gf lb encs R C S Sp N w0) (hb0 : Below w0.heap.size w0 w) (hps : ∀ x, (encs x).size = ps.size)
    (T : List Nat) (hT : ∀ k ∈ T, k < w.heap.size ∧ k ∉ R) (hC : ∀ k ∈ C, k < w.heap.size)
    (I : List α → World → Prop) (Ix : Code → List α → World → Prop) (hI : AbT w.heap.size C I) (hIx : ∀ c, AbT w.heap.size C (Ix c)) (h0 : I [] w) (fr : α → Nat → Act) (Bx : α → Nat → World → Prop) (hBx : ∀ x b, AbT w.heap.size C (fun (_ : Unit) W => Bx x b W))
    (hassign : ∀ (l : Nat) (pre : List α) (x : α) (W : World) (K : Act → World → Prop), w.heap.size ≤ l → I pre W → (∀ b W', Only [] W W' → Bx x b W' → K (fr x b) W') →
      assign.wpIn (F.inRound l) (n - 1 - 1) P (Exit.then K (fun _ _ _ => False)) { tmps := (ps.zip (encs x)).foldl (fun t (p, v) => t.setIfInBounds p v) a.tmps, defers := [] } W)
    (hbody : ∀ (l : Nat) (pre : List α) (x : α) (b : Nat) (W : World), w.heap.size ≤ l → (∃ r, W.heap[l]? = some (.loop r)) → I pre W → Bx x b W → pre.length < N → Sp (pre ++ [x]) → body.wpIn (F.inRound l) (n - 1 - 1) P (postT T I Ix (pre ++ [x]) W) (fr x b) W)
    (hdone : ∀ (D : Nat) (xs : List α) (W : World), w.heap.size ≤ D → S xs → I xs W → W.heap[D]? = some (.deferred (some [])) → Q .normal { a with defers := { target := .collected D, args := #[] } :: a.defers } W)
    (hstop : ∀ (D : Nat) (c : Code) (pre : List α) (W : World), w.heap.size ≤ D → Sp pre → Ix c pre W → W.heap[D]? = some (.deferred (some [])) → c.wpIn F n P Q { a with defers := { target := .collected D, args := #[] } :: a.defers } W) :
    (Code.rangeFunc g ps assign body).wpIn F n P Q a w :=
  wpIn_rangeT hro h1 hg hFg eg hseq hb0 hps T hT hC I Ix hI hIx h0 (fun x a' W => ∃ b, a' = fr x b ∧ Bx x b W) (fun x a' s A W h ht => by obtain ⟨b, h1, h2⟩ := h; exact ⟨b, h1, hBx x b s A W h2 ht⟩) (fun l pre x W K hl hi hK => hassign l pre x W K hl hi (fun b W' hO hb => hK _ W' hO ⟨b, rfl, hb⟩))
    (fun l pre x a' W hl hr hi e hlen hsp => by obtain ⟨b, rfl, hb⟩ := e; exact hbody l pre x b W hl hr hi hb hlen hsp) hdone hstop
end Go.Rv
