/- Proved here: the document's Record says what roll's Record says; a list, as the document has it (the laws' found). -/
import Derived.LoopTactic
import Derived.Test.YtoiephmngdecaaaKax
import Derived.Test.YtoiephmngdecaaaKaz
namespace Go.Proofs.Ytoiephmngdecaaa
open Go.RowKit Go.Rv Rl Frm
set_option linter.unusedVariables false
theorem holdsG_17 {g : Geo.G} (hr : Geo.right g = true) (z o : Int) : holdsG g z o = hold17 g z o := by
  unfold holdsG hold17; rw [hr, Bool.true_and]; unfold Geo.inB; rw [Bool.and_assoc]; congr 1; congr 1
  · exact decide_eq_decide.2 ⟨fun h => by omega, fun h => by omega⟩
  · congr 1; exact decide_eq_decide.2 ⟨fun h => by omega, fun h => by omega⟩
theorem hold17_dom {g : Geo.G} {z o : Int} (h : hold17 g z o = true) : 0 ≤ z ∧ z < g.d * g.z ∧ domOf g z = z / g.z := by
  unfold hold17 at h; simp only [Bool.and_eq_true, decide_eq_true_eq] at h; exact ⟨h.1, h.2.1, if_pos ⟨h.1, h.2.1⟩⟩
theorem rrec17_any (g : Geo.G) (hgr : Geo.right g = true) (epoch : Int) (f : Fnd) (w : World) (hq : FndQ f) :
    Calls Try.prog 18 #[.agg (GC g), .int .i64 epoch, .agg (fndC f)] w fun e w' => e = .returned (.tuple #[.agg (EC ((recE g epoch f).getD En.E.zero)), .bool (recE g epoch f).isSome]) ∧ Below w.heap.size w w' := by
  have hqq := hq; obtain ⟨-, -, hbd, -⟩ := hq; have hs := ((Geo.right_iff g).1 hgr).1; have hcase := readE_cases f.fr hbd; have hob : EBody (En.ofE f.fr.kind f.fr.body).1 := ofE_body hbd.1 hbd.2
  have hright : (En.ofE f.fr.kind f.fr.body).2 = 0 → En.right (En.ofE f.fr.kind f.fr.body).1 = true := by
    unfold En.ofE; split
    · intro _; assumption
    · intro h; cases h
  obtain ⟨r, hr⟩ : ∃ r, En.ofE f.fr.kind f.fr.body = r := ⟨_, rfl⟩; have hof := fun W => rof_any f.fr.kind f.fr.body W hbd.1 hbd.2
  rw [hr] at hcase hob hright hof; unfold RofPost at hof; obtain ⟨rb, hrb⟩ : ∃ b, (recE g epoch f).isSome = b := ⟨_, rfl⟩
  have hnone : (readE f.fr).2 ≠ 0 → rb = false := fun h => by
    rw [← hrb]; unfold recE; rw [if_neg (fun hh => h hh.1)]; rfl
  have hsome : readE f.fr = (r.1, 0) → recE g epoch f = if f.fr.epoch = epoch ∧ f.fr.zone = f.zone ∧ f.fr.off = f.off ∧ Rl.lies g f r.1 = true then some r.1 else none := fun h => by
    unfold recE; rw [h]; simp
  have hres : EC ((recE g epoch f).getD En.E.zero) = if rb = true then EC r.1 else EC En.E.zero := by
    by_cases h0 : (readE f.fr).2 = 0
    · have h1 : readE f.fr = (r.1, 0) := by
        rcases hcase with ⟨-, h⟩ | ⟨-, -, h⟩ | ⟨-, -, -, h⟩ | ⟨-, -, -, -, h⟩ | ⟨-, -, -, -, h, -⟩
        · rw [h] at h0; cases h0
        · rw [h] at h0; cases h0
        · rw [h] at h0; cases h0
        · rw [h] at h0; cases h0
        · exact h
      rw [← hrb, hsome h1]; split <;> rfl
    · have h1 := hnone h0; rw [h1] at hrb
      have h2 : recE g epoch f = none := by
        cases h : recE g epoch f with
        | none => rfl
        | some e => rw [h] at hrb; cases hrb
      rw [h2, h1]; rfl
  rw [hres, hrb]; refine rrec17_core w (fndC f) (FC f.fr) (EC r.1) g epoch f.zone f.off f.fr.kind f.fr.zone f.fr.off f.fr.epoch f.fr.seq r.1.first r.1.count r.1.block r.1.many r.1.mate g.z g.b (decide (r.2 = 0)) (rightF f.fr) (hold17 g f.zone f.off) (hold17 g r.1.mate f.off) rb (FC f.fr).toList (byteCells f.fr.body).toList
    ?_ ?_ ?_ ?_ (by simp) (size_f16 hqq) (size_f3 hbd.1) (by rw [Array.length_toList]; exact size_f3 hbd.1) (by rw [Array.length_toList]; exact size_body hbd.1) (size_re hob.1) (by rw [EC_size, EC_size, hob.1]; rfl) (EC_one _) (by rw [FC_size, FC_size, hbd.1]; rfl) (FC_one _) ?_ (fun W => rfright_any f.fr W) (fun W => hold17_any g _ _ W hs) (fun W => hold17_any g _ _ W hs) ?_ ?_ hs.2.1 ?_
  · intro W b h; obtain ⟨c0, c1, -⟩ := fnd_cells h; exact ⟨c0, c1, fnd_range h⟩
  · intro W b h; obtain ⟨c0, c1, c2, c3, c4⟩ := frame_cells h; refine ⟨c0, c1, c2, c3, c4, fun j v hv => ?_⟩
    rw [cell_of_row _ _ _ _ _ _ h, ← hv, Array.getElem?_toList]; unfold FC; rw [Array.getElem?_append_right (by simp)]; simp
  · intro W b h; obtain ⟨-, c1, c2, c3, c4, c5⟩ := ent_cells h; exact ⟨c1, c2, c3, c4, c5⟩
  · intro W b h; obtain ⟨-, c1, -, c3, -⟩ := geo_cells h; exact ⟨c1, c3⟩
  · intro W; rw [Array.toArray_toList]; exact hof W
  · intro h; obtain ⟨a, b, c, m, t2, he, h1, h2, h3, h4, h5, h6⟩ := En.right_nat (hright (of_decide_eq_true h)); rw [he]; simp only; omega
  · intro h; obtain ⟨h1, h2, -⟩ := hold17_dom h; have := (Geo.dz_bd hs).2; omega
  · rcases hcase with ⟨h1, h⟩ | ⟨h0, h1, h⟩ | ⟨h0, h1, h2, h⟩ | ⟨h0, h1, h2, h3, h⟩ | ⟨h0, h1, h2, h3, h, -⟩
    · exact .inl ⟨decide_eq_false h1, hnone (by rw [h]; decide)⟩
    · exact .inr (.inl ⟨decide_eq_true h0, h1, hnone (by rw [h]; decide)⟩)
    · exact .inr (.inr (.inl ⟨decide_eq_true h0, h1, decide_eq_true h2, hnone (by rw [h]; decide)⟩))
    · exact .inr (.inr (.inr (.inl ⟨decide_eq_true h0, h1, decide_eq_false h2, decide_eq_true h3, hnone (by rw [h]; decide)⟩)))
    · have hs2 := hsome h
      have hb : rb = decide (f.fr.epoch = epoch ∧ f.fr.zone = f.zone ∧ f.fr.off = f.off ∧ Rl.lies g f r.1 = true) := by
        rw [← hrb, hs2]; split
        · rename_i hh; rw [decide_eq_true hh]; rfl
        · rename_i hh; rw [decide_eq_false hh]; rfl
      obtain ⟨a, b, c, m, t2, he, k1, k2, k3, k4, k5, k6⟩ := En.right_nat (hright h0); have em : 0 ≤ r.1.many := by rw [he]; exact Int.natCast_nonneg _
      have hlies : Rl.lies g f r.1 = (hold17 g f.zone f.off && (hold17 g r.1.mate f.off && (decide (domOf g f.zone ≠ domOf g r.1.mate) && decide (r.1.block + max r.1.many 1 ≤ g.b)))) := by
        unfold Rl.lies; rw [holdsG_17 hgr, holdsG_17 hgr]
      rw [hlies] at hb; by_cases e1 : f.fr.epoch = epoch
      · by_cases e2 : f.fr.zone = f.zone
        · by_cases e3 : f.fr.off = f.off
          · refine .inr (.inr (.inr (.inr (.inr (.inr (.inr ⟨decide_eq_true h0, h1, decide_eq_false h2, decide_eq_false h3, by simp [e1], by simp [e2], by simp [e3], ?_⟩)))))); cases j1 : hold17 g f.zone f.off
            · exact .inl ⟨rfl, by rw [hb, j1]; simp⟩
            · cases j2 : hold17 g r.1.mate f.off
              · exact .inr (.inl ⟨rfl, rfl, by rw [hb, j2]; simp⟩)
              · have d1 := (hold17_dom j1).2.2; have d2 := (hold17_dom j2).2.2; rw [j1, j2, d1, d2] at hb; by_cases j3 : f.zone / g.z = r.1.mate / g.z
                · exact .inr (.inr (.inl ⟨rfl, rfl, by simp [j3], by rw [hb]; simp [j3]⟩))
                · by_cases j4 : g.b ≤ r.1.block
                  · exact .inr (.inr (.inr (.inl ⟨rfl, rfl, by simp [j3], decide_eq_true j4, by rw [hb]; simp; omega⟩)))
                  · by_cases j5 : g.b < r.1.block + r.1.many
                    · exact .inr (.inr (.inr (.inr (.inl ⟨rfl, rfl, by simp [j3], decide_eq_false j4, decide_eq_true j5, by rw [hb]; simp; omega⟩))))
                    · exact .inr (.inr (.inr (.inr (.inr ⟨rfl, rfl, by simp [j3], decide_eq_false j4, decide_eq_false j5, by rw [hb]; simp [e1, e2, e3, j3]; omega⟩))))
          · exact .inr (.inr (.inr (.inr (.inr (.inr (.inl ⟨decide_eq_true h0, h1, decide_eq_false h2, decide_eq_false h3, by simp [e1], by simp [e2], by simp [e3], by rw [hb]; simp [e3]⟩))))))
        · exact .inr (.inr (.inr (.inr (.inr (.inl ⟨decide_eq_true h0, h1, decide_eq_false h2, decide_eq_false h3, by simp [e1], by simp [e2], by rw [hb]; simp [e2]⟩)))))
      · exact .inr (.inr (.inr (.inr (.inl ⟨decide_eq_true h0, h1, decide_eq_false h2, decide_eq_false h3, by simp [e1], by rw [hb]; simp [e1]⟩))))
end Go.Proofs.Ytoiephmngdecaaa
namespace Go.Proofs.Ytoiephmngdecaaa
open Go.RowKit Go.Rv Rl Frm
set_option linter.unusedVariables false
attribute [local go_sem] Oper.semAt_some
theorem Try.infoF163 : (Try.prog.info? 61).map (fun i => (i.zero, i.size, i.bytes)) = some (some (.agg (fndC fnd0)), 51, 104) := by kernel_rfl
theorem built_f16 (z o : Int) (f : Fr) (h : f.body.length = 44) : Try.prog.built 61 [(0, .int .i64 z), (1, .int .i64 o), (2, .agg (FC f))] = some (fndC ⟨z, o, f⟩) := by
  obtain ⟨k, z1, o1, e, s, l⟩ := f; obtain ⟨fn, rfl⟩ := list_fn l 44 h; kernel_rfl
/-- a slice of one that was found, as the document has it -/
theorem wpList_slice1d {w : World} {ops : Array Oper} {rest : List Oper} {o : Oper} {a : Act} {Q : Exit → Act → World → Prop} (hg : o.guard = none) (x : Operand) (ho : o.op = .buildSlice 48 1 #[(0, x)]) (r : Fnd) (hq : r.fr.body.length = 44) (X : Array Value) (hX : fndC r = X) (hx : a.eval x = .agg X)
    (h : wpList Try.prog ops Q rest (a.put o.dst (.slice (some ⟨w.heap.size, 0, none⟩) 1 1)) (w.alloc (.cells X 61))) : wpList Try.prog ops Q (o :: rest) a w := by
  subst hX; have hi := Try.infoF16
  cases hie : Try.prog.info? 61 with
  | none => rw [hie] at hi; cases hi
  | some ie =>
    rw [hie, Option.map_some, Option.some.injEq, Prod.mk.injEq] at hi; obtain ⟨hz, hs⟩ := hi; refine wpList_buildSlice hg 48 61 1 #[(0, x)] ho (fndC r) ie (.agg (fndC fnd0)) Try.underlying48 hie hz (by rw [hs]; decide) (by rw [hs]; decide) ?_ h; rw [hs]; have h1 := filled_fnd r hq _ rfl; simp only [List.map_toArray, List.map_cons, List.map_nil, hx]; exact h1
set_option maxRecDepth 100000 in
set_option maxHeartbeats 16000000 in
theorem found_any (w : World) (a2 : Option Addr) (l2 : List Fnd) (c2 : Nat) (hI : RowOf w 51 fndC FndQ a2 l2) (hl : l2.length ≤ 1000) :
    Calls Try.prog 15 #[.slice a2 l2.length c2] w fun e w' => ∃ u, e = .returned u ∧ OwnM w' 61 51 fndC FndQ w.heap.size u l2 ∧ Below w.heap.size w w' := by
  have HI := Lib.hid hI; have hzf := (zero_of_info Try.infoFnd).1; obtain ⟨n2, hn2⟩ : ∃ n, l2.length = n := ⟨_, rfl⟩; have HN2 := Lib.hid hn2; rw [hn2] at hl ⊢; clear hI hn2; go_enter Try.func15, Try.ntmps15; go_upto_region 3 with (fail); go_loopw [3, 8] (fun x u wr => ∃ (k : Nat) (v : Value), k ≤ n2 ∧ u = .int .i64 k ∧ v = x ∧ OwnM wr 61 51 fndC FndQ w.heap.size v (l2.take k) ∧ Below w.heap.size w wr) (fun _ u _ => n2 - (intOf u).toNat)
  case atStart => exact ⟨0, _, Nat.zero_le _, rfl, rfl, OwnM.nil _ _ _ _ _ _, Below.refl _ _⟩
  case round =>
    obtain ⟨k, v, hk, rfl, rfl, hown, hBr⟩ := hrel; have zr := hBr.size; have HOW := Lib.hid hown; have HBR := Lib.hid hBr; clear hown hBr; by_cases hlt : k < n2
    · obtain ⟨f, hf⟩ : ∃ f, l2[k]? = some f := ⟨_, List.getElem?_eq_getElem (by rw [HN2.out]; exact hlt)⟩; have hq := HI.out.all f (List.mem_of_getElem? hf); obtain ⟨ab, ao, rfl, -, -, -⟩ := HI.out.at hf; have HGF := Lib.hid (Rl2.rowOf_range (HI.out.below HBR.out) kinFnd.size hf); have HTK : Hid (l2.take (k + 1) = l2.take k ++ [f]) := Lib.hid (by rw [List.take_add_one, hf]; rfl); have HIF1 := Lib.hid (size_fnd hq); have HIL1 : Hid ((Try.prog.info? 70).map (·.size) = some (fndC f).toList.length) := Lib.hid (size_fnd hq); have HZF1 : Hid ((fndC fnd0).size = (fndC f).size) := Lib.hid (by rw [kinFnd.size f hq]; rfl); have HOF1 := Lib.hid (kinFnd.one f hq); have HLF : Hid ((l2.take k).length ≤ 1000) := Lib.hid (by rw [List.length_take]; omega); have HQ := Lib.hid hq; have HB16 := Lib.hid (built_f16 f.zone f.off f.fr hq.2.2.1.1); have HIX : Hid ((Try.prog.info? 68).map (·.size) = some (FC f.fr).toList.length) := Lib.hid (by rw [Array.length_toList]; exact size_frm hq.2.2.1.1); obtain ⟨W5, hW5⟩ : ∃ W, wr.alloc (.cells (fndC f) 70) = W := ⟨_, rfl⟩; have hb5 : Below wr.heap.size wr W5 := by rw [← hW5]; exact (Below.refl _ _).alloc (Nat.le_refl _) _
      have hf5 : W5.heap[wr.heap.size]? = some (.cells (fndC f) 70 (0, 0)) := by rw [← hW5]; exact heap_alloc_new wr _
      have c0 := (fnd_cells hf5).1; have c1 := (fnd_cells hf5).2.1; have HRG := Lib.hid (fnd_range hf5); have HO5 := Lib.hid (HOW.out.below hb5); have HB5 := Lib.hid (HBR.out.trans (hb5.mono zr)); have z5 := hb5.size; obtain ⟨W6, hW6⟩ : ∃ W, W5.alloc (.cells (fndC f) 61) = W := ⟨_, rfl⟩; have hb6 : Below W5.heap.size W5 W6 := by rw [← hW6]; exact (Below.refl _ _).alloc (Nat.le_refl _) _
      have hf6 : W6.heap[W5.heap.size]? = some (.cells (fndC f) 61 (0, 0)) := by rw [← hW6]; exact heap_alloc_new W5 _
      have HR6 : Hid (RowOf W6 51 fndC FndQ (some ⟨W5.heap.size, 0, none⟩) [f]) := Lib.hid (one_rowOf (t := 61) (fr := (0, 0)) hf6 hq); have HO6 := Lib.hid (HO5.out.below hb6); have hs6 : w.heap.size ≤ W6.heap.size := by have h1 := hb6.size; omega
      have HB6 := Lib.hid (HB5.out.trans (hb6.mono (by omega))); have hfe : f = ⟨f.zone, f.off, f.fr⟩ := rfl; obtain ⟨CF, hCF⟩ : ∃ C, fndC f = C := ⟨_, rfl⟩; have hb16 := HB16.out; rw [← hfe, hCF] at hb16; have HB17 := Lib.hid hb16; rw [hCF] at hW5 hW6 HGF HIF1 HIL1 HZF1 HOF1; have HW5 := Lib.hid hW5; have HW6 := Lib.hid hW6; have HCF := Lib.hid hCF; obtain ⟨zn, hzn⟩ : ∃ z, f.zone = z := ⟨_, rfl⟩; obtain ⟨of, hof⟩ : ∃ z, f.off = z := ⟨_, rfl⟩; obtain ⟨FX, hFX⟩ : ∃ X, (FC f.fr).toList = X := ⟨_, rfl⟩; have hfa : (.agg (FC f.fr) : Value) = .agg FX.toArray := by rw [← hFX]
      rw [hzn] at c0; rw [hof] at c1; rw [hzn, hof, hfa] at HB17; rw [hFX] at HRG HIX; obtain ⟨FZ, hFZ⟩ : ∃ Z, fndC fnd0 = Z := ⟨_, rfl⟩; rw [hFZ] at hzf HZF1; clear hf hq hb5 hf5 hW5 hb6 hf6 hW6 hfe hCF hb16 hzn hof hFX hfa HB16 hFZ; go_upto_region 5 with (first | (refine wpList_load_mid rfl 70 _ rfl ab (ao + k * 51) rfl CF.toList _ HGF.out Try.underlying70 rfl HIL1.out ?_) | (refine wpList_store_row rfl 70 _ _ rfl wr.heap.size CF rfl rfl 70 FZ (heap_alloc_new wr _) HIF1.out HZF1.out HOF1.out ?_; rw [World.setRow_alloc_new])); rw [HW5.out]
      try rw [put_none]
      go_wp2_with (first | (refine wpList_load_mid rfl 68 _ rfl wr.heap.size 2 rfl FX _ HRG.out Try.underlying68 rfl HIX.out ?_) | (refine wpList_build_on (by rfl) 61 _ rfl #[(0, .int .i64 zn), (1, .int .i64 of), (2, .agg FX.toArray)] (by simp [Act.eval, Act.put]) _ HB17.out ?_) | (refine wpList_slice1d rfl (.tmp 19) rfl f HQ.out.2.2.1.1 CF HCF.out rfl ?_; rw [HW6.out]) | (at_builtin; refine wpList_appendM rfl (.tmp 12) (.tmp 20) 48 rfl 61 51 fndC FndQ kinFnd (by decide) (.agg (fndC fnd0)) 104 Try.underlying48 Try.infoF163 rfl w.heap.size _ (l2.take k) rfl HO6.out (some ⟨W5.heap.size, 0, none⟩) 1 [f] (by rfl) HR6.out (by simp) (by have := HLF.out; unfold maxLen; simp; omega) (by have := HLF.out; simp; omega) hs6 ?_; intro v11 w11 hv11 hg11 _; have HV11 := Lib.hid hv11; have HB11 := Lib.hid (HB6.out.trans (HO6.out.grown hg11 hs6)); clear hv11 hg11)); clear c0 c1; have hv := HV11.out; rw [← HTK.out] at hv
      first | exact ⟨⟨k + 1, _, by omega, by go_num, rfl, hv, HB11.out⟩, by simp [intOf]; omega⟩ | (refine ⟨⟨_, _, _, ⟨k + 1, by omega, ?_, hv, HB11.out⟩, rfl, rfl, rfl⟩, by simp [intOf]; omega⟩; go_num)
    · obtain rfl : k = n2 := by omega
      have hown := HOW.out; rw [List.take_of_length_le (by rw [HN2.out]; exact Nat.le_refl _)] at hown; have HOF := Lib.hid hown; clear hown; go_wp2; go_ret; exact ⟨_, rfl, HOF.out, HBR.out⟩
end Go.Proofs.Ytoiephmngdecaaa
