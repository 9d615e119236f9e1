/- Proved here, one behind the other: Proved here: a map's entries, one by one (slices.All), for rounds that write cells of their own; Laws over any program, inside a round: things are appended to a row of the call's own; a slice is built out of its parts; Proved here: a snapshot that is made of a geometry and a list of entries, both ways (the law's 'made'); Plain facts on mixed frames; a store of a thing into a row of things; what 'made' tells, whatever its arguments; Proved here: the items of the laws on snapshots, as they come in. -/
import Derived.LoopTactic
import Derived.Maps.OwnIn
import Derived.Great.BuildSlice
import Derived.WalkLawsBesides
import Derived.Deep.MidRow
import Derived.Test.YtjnneoejnpephaaBa
import Derived.Test.YtjnneoejnpephaaBc
import Derived.Test.YtjnneoejnpephaaBn
import Derived.Test.YtjnneoejnpephaaBs
namespace Go.Proofs.Ytjnneoejnpephaa
open Go.RowKit Go.Rv Go.Shelf
set_option linter.unusedVariables false
attribute [local go_sem] Oper.semAt_some
set_option maxRecDepth 100000 in
set_option maxHeartbeats 4000000 in
theorem eallK_stops (n : Nat) (hn : 1 ≤ n) (B rb : Nat) (a : Option Addr) (cp : Nat) (es : List BE) (w : World) (hB : w.cell? ⟨B, 0, none⟩ = some (.slice a es.length cp)) (hR : RowOf w 6 BEC (fun _ => True) a es) (hrb : ∀ x, a = some x → x.block = rb) (hrl : rb < w.heap.size) (hl : es.length ≤ 100000) :
    SeqK Fence.wide n Try.prog 92 #[.pointer (some ⟨B, 0, none⟩)] ieV [rb] (fun ys => ys = es.zipIdx) (fun pre => pre <+: es.zipIdx) es.length w := by
  intro r J Jx W hW hr0 hrW hJ hJx hY h0
  have hBW : W.cell? ⟨B, 0, none⟩ = some (.slice a es.length cp) := (hW.cell (p := ⟨B, 0, none⟩) (block_lt_of_cell hB)).trans hB
  have HR := Lib.hid (hR.below hW)
  have hz := (zero_of_info Try.infoEnt).1
  have HIE := Lib.hid (fun e => esize e)
  have HON := Lib.hid (fun e => BEC_one e)
  have HSZ : Hid (∀ e : BE, (BEC BE.zero).size = (BEC e).size) := Lib.hid (fun e => by rw [BEC_size, BEC_size])
  have hzW := hW.size
  clear hR hB hW
  refine callsIn_of_wp Try.func92 rfl trivial ?_ rfl
  simp only [Try.ntmps92, List.size_toArray, List.length_cons, List.length_nil, Nat.reduceAdd, Nat.reduceSub, Array.replicate_succ, Array.replicate_zero, List.push_toArray, List.append_toArray, List.nil_append, List.cons_append]
  gi_wp2
  gi_loopw [7] (fun i wr => ∃ k : Nat, k ≤ es.length ∧ i = .int .i64 k ∧ J (es.take k).zipIdx wr ∧ RowOf wr 6 BEC (fun _ => True) a es ∧ W.heap.size ≤ wr.heap.size) (fun i _ => es.length - (intOf i).toNat)
  case atStart => exact ⟨0, Nat.zero_le _, rfl, h0, HR.out, Nat.le_refl _⟩
  case round =>
    obtain ⟨k, hk, rfl, hJk, hrow, hzr⟩ := hrel
    by_cases hlt : k < es.length
    · obtain ⟨x, hx⟩ : ∃ x, es[k]? = some x := ⟨_, List.getElem?_eq_getElem hlt⟩
      obtain ⟨b, o, rfl, hbl, -, d0, d1, d2, d3, d4, d5⟩ := hrow.ent6 hx
      have HBB : Hid (b = rb) := Lib.hid (hrb _ rfl)
      have HS := Lib.hid (zip_take es hx)
      have HP : Hid ((es.take k).zipIdx ++ [(x, k)] <+: es.zipIdx) := Lib.hid (by rw [← HS.out]; exact zip_full es _)
      obtain ⟨WA, hWA⟩ : ∃ WA, wr.alloc (.cells (BEC x) 46) = WA := ⟨_, rfl⟩
      have hba : Below wr.heap.size wr WA := by rw [← hWA]; exact (Below.refl wr.heap.size wr).alloc (Nat.le_refl _) _
      have hop : WA.heap[wr.heap.size]? = some (.cells (BEC x) 46 (0, 0)) := by rw [← hWA]; exact heap_alloc_new wr _
      have hJA := hJ _ _ _ hJk ((Turn.of_below hba : Turn W.heap.size [] wr WA))
      have HRA := Lib.hid (hrow.below hba)
      have zA := hba.size
      obtain ⟨fn, tmps, assign, body, hy', hRd⟩ := hY (es.take k).zipIdx (x, k) WA hJA (by rw [zip_len _ hk]; exact hlt) HP.out
      have hy : (Instr.yield r #[.int .i64 (k : Nat), .agg (BEC x)]).run Try.prog WA = .ok (.round r fn tmps assign body) WA := hy'
      have HWA := Lib.hid hWA
      have HOP := Lib.hid hop
      have HRD := Lib.hid hRd
      clear hx hy' hJk hrow hba hop hJA hWA hRd
      gi_wp2_with (first | (refine wpListIn_store_row (by rfl) 46 _ _ rfl wr.heap.size (BEC x) rfl rfl 46 (BEC BE.zero) (heap_alloc_new wr _) (HIE.out _) (HSZ.out _) (HON.out _) ?_; rw [World.setRow_alloc_new, HWA.out]; clear d0 d1 d2 d3 d4 d5) | (refine wpListIn_row_on (by rfl) 46 _ rfl wr.heap.size rfl 46 _ _ _ HOP.out Try.underlying46 rfl (HIE.out _) ?_))
      refine HRD.out.mono ?_
      rintro e W3 ⟨hO3, (⟨rfl, hJ3⟩ | ⟨rfl, hJx3⟩)⟩
      · have HRW : Hid (RowOf W3 6 BEC (fun _ => True) (some ⟨b, o, none⟩) es) := Lib.hid (by
          rcases HRA.out with h | ⟨b', o', e, hb', hc⟩
          · exact .inl h
          · cases e
            refine .inr ⟨b, o, rfl, Nat.lt_of_lt_of_le hb' hO3.size, fun k x hk => ⟨fun j hj => ?_, trivial⟩⟩
            rw [← (hc k x hk).1 j hj]
            exact World.cell?_of_block (hO3.rows b (by simp [HBB.out])))
        have z3 := hO3.size
        clear hy
        gi_wp2
        go_roundw
        case rel => exact ⟨k + 1, by omega, by go_num, by rw [HS.out]; exact hJ3, HRW.out, by omega⟩
        case measure => simp [intOf]; omega
      · clear hy
        gi_wp2
        refine bodyPost_ret (results_none rfl _ _ _) rfl ?_
        exact ⟨⟨_, rfl⟩, .inr ⟨_, HP.out, hJx3⟩⟩
    · obtain rfl : k = es.length := by omega
      rw [List.take_length] at hJk
      gi_wp2
      go_end0
      exact ⟨⟨_, rfl⟩, .inl ⟨_, rfl, hJk⟩⟩
end Go.Proofs.Ytjnneoejnpephaa
namespace Go.Rv
open Go.RowKit
set_option linter.unusedVariables false
theorem wpListIn_appendM {α : Type} {F : Fence} {m : Nat} {P : Program} {w : World} {ops : Array Oper} {rest : List Oper} {o : Oper} {a : Act} {Q' : Exit → Act → World → Prop} (hgd : o.guard = none) (s x : Operand) (t : TypeId)
    (ho : o.op = .call { callee := .builtin .append, args := #[s, x], argTypes := #[t, t] })
    (e : TypeId) (n : Nat) (X : α → Array Value) (Q : α → Prop) (hK : Kin n X Q) (h0 : 0 < n) (z : Value) (bytes : Nat) (ht : P.underlying t = some (.slice e)) (hinfo : (P.info? e).map (fun i => (i.zero, i.size, i.bytes)) = some (some z, n, bytes)) (hzs : z.cells.size = n)
    (base : Nat) (v : Value) (xs : List α) (hs : a.eval s = v) (hown : OwnM w e n X Q base v xs) (ad : Addr) (cap : Nat) (ms : List α) (hx : a.eval x = .slice (some ad) ms.length cap) (hm : RowOf w n X Q (some ad) ms)
    (h63 : xs.length + ms.length ≤ maxLen) (hbytes : (xs.length + ms.length) * bytes ≤ 140737488355328) (hbase : base ≤ w.heap.size)
    (h : ∀ v' w', OwnM w' e n X Q base v' (xs ++ ms) → w.grownBy w' v.ownBlock → (v'.ownBlock = v.ownBlock ∨ v'.ownBlock = some w.heap.size) → wpListIn F m P ops Q' rest (a.put o.dst v') w') : wpListIn F m P ops Q' (o :: rest) a w := by
  obtain ⟨i0, hi, hz0, hz1, hz2⟩ := info_parts hinfo
  have hq : ∀ y ∈ ms, Q y := hm.all
  refine wpListIn_append_own_at w hgd s x t ho base e i0 z n bytes ht hi hz0 hz1 hz2 hzs h0 v xs.length _ hs hown.1 ad ms.length cap (flatM X ms) hx (flatM_length fun y hy => hK.size y (hq y hy)) ?_ ?_ h63 hbytes hbase ?_
  · intro j u hu
    have hj : j < ms.length * n := by
      have := (List.getElem?_eq_some_iff.1 hu).1
      rwa [flatM_length fun y hy => hK.size y (hq y hy)] at this
    obtain ⟨y, hy⟩ : ∃ y, ms[j / n]? = some y := ⟨_, List.getElem?_eq_getElem (by rwa [Nat.div_lt_iff_lt_mul h0])⟩
    obtain ⟨b, o, e, hb, hc, -⟩ := hm.at hy
    cases e
    have h1 := hc (j % n) (Nat.mod_lt _ h0)
    have h2 := flatM_at (fun y hy => hK.size y (hq y hy)) hy (Nat.mod_lt j h0)
    rw [Nat.div_add_mod' j n] at h2
    rw [add_lit, ← hu, h2, ← h1, Nat.add_assoc, Nat.div_add_mod' j n]
  · intro u hu
    simp only [flatM, List.mem_flatMap] at hu
    obtain ⟨y, hy, hu⟩ := hu
    have := hK.one y (hq y hy)
    rw [Array.all_eq_true_iff_forall_mem] at this
    exact this u (by simpa using hu)
  · intro v' w' h1 h2 _ h4
    refine h v' w' ⟨by rw [List.length_append, flatM_app]; exact h1, fun y hy => ?_⟩ h2 h4
    rcases List.mem_append.1 hy with hy | hy
    · exact hown.2 y hy
    · exact hq y hy
theorem wpListIn_buildSlice {F : Fence} {m : Nat} {P : Program} {ops : Array Oper} {rest : List Oper} {o : Oper} {a : Act} {w : World} {Q : Exit → Act → World → Prop} (hg : o.guard = none) (t e : TypeId) (len : Nat) (parts : Array (Nat × Operand)) (ho : o.op = .buildSlice t len parts)
    (cells : Array Value) (ie : TypeInfo) (z : Value)
    (hu : P.underlying t = some (.slice e)) (hie : P.info? e = some ie) (hz : ie.zero = some z) (hsmall : ¬ len * ie.size > 2 ^ 24) (hpos : ¬ len * ie.size = 0)
    (hf : Instr.fill (fun i => some (i * ie.size, ie.size)) ((Array.range (len * ie.size)).map (z.cells[· % z.cells.size]!)) (parts.map fun (i, x) => (i, a.eval x)).toList = some cells)
    (h : wpListIn F m P ops Q rest (a.put o.dst (.slice (some ⟨w.heap.size, 0, none⟩) len len)) (w.alloc (.cells cells e))) : wpListIn F m P ops Q (o :: rest) a w := by
  refine wpListIn_plain hg fun K hK => ?_
  unfold Oper.wpIn
  refine ⟨by simp [Oper.about, ho], ?_⟩
  rw [Oper.semAt_plain F _ _ (by rw [ho]; intro c hc'; cases hc')]
  simp only [execOp, ho, Sem.run_bind, run_buildSlice w t e len _ cells ie z hu hie hz hsmall hpos hf, Result.andThen_ok]
  exact hK _ _ h
/-- a row of the call's own abides turns -/
theorem OwnM.turn {α : Type} {B : Nat} {a w : World} {e : TypeId} {n : Nat} {X : α → Array Value} {Q : α → Prop} {base : Nat} {v : Value} {xs : List α} (h : OwnM a e n X Q base v xs) (ht : Turn B [] a w) : OwnM w e n X Q base v xs := by
  obtain ⟨⟨h1, hr⟩, hl⟩ := h
  refine ⟨⟨h1, ?_⟩, hl⟩
  rcases hr with hr | ⟨g, cap, cur, rfl, hg, hh, r⟩
  · exact .inl hr
  · exact .inr ⟨g, cap, cur, rfl, hg, ht.block g _ hh (by simp) (.inr rfl), r⟩
end Go.Rv
namespace Go.Rv
open Go.RowKit
theorem Keeps.grown {R : List Nat} {a w w' : World} {row : Option Nat} (h : Keeps R a w) (hg : w.grownBy w' row) (hR : ∀ k ∈ R, k < w.heap.size) (hr : ∀ k, row = some k → k ∉ R ∧ ∀ o, w.heap[k]? = some o → o.isCells = true) : Keeps R a w' :=
  ⟨Nat.le_trans h.size hg.size, fun k hk => (hg.block k (hR k hk) (fun e => (hr k e.symm).1 hk)).trans (h.rows k hk), fun k o hk ho => by
    have h1 := h.others k o hk ho
    refine (hg.block k (Array.getElem?_eq_some_iff.1 h1).1 (fun e => ?_)).trans h1
    have h2 := (hr k e.symm).2 o h1
    rw [ho] at h2; cases h2⟩
theorem Keeps.setCell {R : List Nat} {a w : World} (h : Keeps R a w) {p : Addr} (hp : p.block ∉ R) (u : Value) : Keeps R a (w.setCell p u) :=
  h.trans ⟨by simp [World.setCell], fun k hk => Below.heap_setCell w p u k (fun e => hp (by rw [← e]; exact hk)), fun k o hk ho => (KeepsOthers.setCell w p u).same k o hk ho⟩
theorem Keeps.of_below {R : List Nat} {a w : World} (h : Below a.heap.size a w) (hR : ∀ k ∈ R, k < a.heap.size) : Keeps R a w :=
  ⟨h.size, fun k hk => h.block k (hR k hk), fun k _ hk _ => (h.block k (Array.getElem?_eq_some_iff.1 hk).1).trans hk⟩
end Go.Rv
namespace Sn
open Go.Proofs.Ytjnneoejnpephaa
/-- entries that are set, one behind the other -/
def setAll (g : Geo.G) (es : List BE) (l : List (Int × BE)) : List BE := l.foldl (fun es x => setEs g es x.1 x.2) es
def made (g : Geo.G) (l : List (Int × BE)) (gen epoch next : Int) : S := ⟨gen, epoch, next, g, setAll g (List.replicate g.b.toNat BE.zero) l⟩
theorem setAll_ok {g : Geo.G} : ∀ {l : List (Int × BE)} {es : List BE}, (∀ x ∈ l, Op64 x) → MapOk g es → MapOk g (setAll g es l)
  | [], es, _, h => h
  | x :: l, es, hl, h => setAll_ok (l := l) (fun y hy => hl y (by simp [hy])) (setEs_ok h (hl x (by simp)).2 x.1)
theorem setAll_take {g : Geo.G} {es : List BE} {l : List (Int × BE)} {k : Nat} {x : Int × BE} (h : l[k]? = some x) : setAll g es (l.take (k + 1)) = setEs g (setAll g es (l.take k)) x.1 x.2 := by
  unfold setAll
  rw [List.take_add_one, h, List.foldl_append]
  rfl
end Sn
namespace Go.Rv
open Go.RowKit
theorem rres_cct {P : Program} {fn : Func} {p p2 q0 : Tmp} {ty ty2 : TypeId} (h : fn.results = #[.cell p ty, .cell p2 ty2, .tmp q0]) (tmps : Array Value) (w : World) (g g2 : Nat) (t t2 : TypeId) (cs cs2 : Array Value) (fr fr2 : Nat × Nat) (d d2 : TypeDesc)
    (hp : tmps.getD p undef = .pointer (some ⟨g, 0, none⟩)) (hg : w.heap[g]? = some (.cells cs t fr)) (hu : P.underlying ty = some d) (hd : (match d with | .struct _ | .array _ _ => true | _ => false) = true) (hi : (P.info? ty).map (·.size) = some cs.size)
    (hp2 : tmps.getD p2 undef = .pointer (some ⟨g2, 0, none⟩)) (hg2 : w.heap[g2]? = some (.cells cs2 t2 fr2)) (hu2 : P.underlying ty2 = some d2) (hd2 : (match d2 with | .struct _ | .array _ _ => true | _ => false) = true) (hi2 : (P.info? ty2).map (·.size) = some cs2.size) :
    (results fn tmps).run P w = .ok (.tuple #[.agg cs, .agg cs2, tmps.getD q0 undef]) w := by
  have hp' : tmps[p]?.getD undef = .pointer (some ⟨g, 0, none⟩) := by simpa using hp
  have hp2' : tmps[p2]?.getD undef = .pointer (some ⟨g2, 0, none⟩) := by simpa using hp2
  simp [results, h, hp', hp2', asAddr, run_loadVar_row w g t ty cs fr d hg hu hd hi, run_loadVar_row w g2 t2 ty2 cs2 fr2 d2 hg2 hu2 hd2 hi2]
end Go.Rv
namespace Go.Proofs.Ytjnneoejnpephaa
open Go.RowKit Go.Rv Go.Shelf
set_option linter.unusedVariables false
attribute [local go_sem] Oper.semAt_some
/-- the cells of the document's snapshot -/
def RC (gen epoch next : Int) (g : Geo.G) (v : Value) : Array Value := #[.int .i64 gen, .int .i64 epoch, .int .i64 next, .int .i64 g.d, .int .i64 g.z, .int .i64 g.s, .int .i64 g.b, .int .i64 g.p, .int .i64 g.o, v]
def RZ : Array Value := RC 0 0 0 ⟨0, 0, 0, 0, 0, 0⟩ (.slice none 0 0)
theorem Try.infoRS : (Try.prog.info? 32).map (fun i => (i.zero, i.size)) = some (some (.agg RZ), 10) := by kernel_rfl
theorem rssize (gen epoch next : Int) (g : Geo.G) (v : Value) : (Try.prog.info? 32).map (·.size) = some (RC gen epoch next g v).size := (zero_of_info Try.infoRS).2
theorem built_rs (a b c : Int) (g : Geo.G) : Try.prog.built 32 [(0, .int .i64 a), (1, .int .i64 b), (2, .int .i64 c), (3, .agg (GC g))] = some (RC a b c g (.slice none 0 0)) := by kernel_rfl
theorem built_rsz : Try.prog.built 32 [] = some RZ := by kernel_rfl
theorem built_snm (a b c : Int) (p : Nat) : Try.prog.built 28 [(0, .int .i64 a), (1, .int .i64 b), (2, .int .i64 c), (3, .pointer (some ⟨p, 0, none⟩))] = some (SnC a b c p) := by kernel_rfl
theorem kinR : Kin 6 BEC (fun _ => True) := ⟨fun e _ => BEC_size e, fun e _ => BEC_one e⟩
theorem Try.infoIt12 : (Try.prog.info? 48).map (fun i => (i.zero, i.size)) = some (some (.agg (opC (0, BE.zero))), 7) := by kernel_rfl
theorem filled_re (x : BE) (ie : Array Value) (h0 : ie = BEC BE.zero) : Instr.fill (fun i => some (i * 6, 6)) ((Array.range (1 * 6)).map (ie[· % 6]!)) [(0, .agg (BEC x))] = some (BEC x) := by
  subst h0
  obtain ⟨a, b, c, d, e, f⟩ := x
  kernel_rfl
theorem Try.infoReZ : (Try.prog.info? 104).map (fun i => (i.zero, i.size)) = some (some (.agg (BEC BE.zero)), 6) := by kernel_rfl
/-- a slice of one of the document's entries is made -/
theorem wpListIn_slice1e {F : Fence} {m : Nat} {w : World} {ops : Array Oper} {rest : List Oper} {o : Oper} {a : Act} {Q : Exit → Act → World → Prop} (hg : o.guard = none) (x : Operand) (ho : o.op = .buildSlice 30 1 #[(0, x)]) (f : BE) (hx : a.eval x = .agg (BEC f))
    (h : wpListIn F m Try.prog ops Q rest (a.put o.dst (.slice (some ⟨w.heap.size, 0, none⟩) 1 1)) (w.alloc (.cells (BEC f) 104))) : wpListIn F m Try.prog ops Q (o :: rest) a w := by
  have hi := Try.infoReZ
  cases hie : Try.prog.info? 104 with
  | none => rw [hie] at hi; cases hi
  | some ie =>
    rw [hie, Option.map_some, Option.some.injEq, Prod.mk.injEq] at hi
    obtain ⟨hz, hs⟩ := hi
    refine wpListIn_buildSlice hg 30 104 1 #[(0, x)] ho (BEC f) ie (.agg (BEC BE.zero)) Try.underlying30 hie hz (by rw [hs]; decide) (by rw [hs]; decide) ?_ h
    rw [hs]
    have h1 := filled_re f _ rfl
    simp only [List.map_toArray, List.map_cons, List.map_nil, hx]
    exact h1
theorem BmIs.turn {B : Nat} {w w' : World} {p le ll ce cl : Nat} {g : Geo.G} {es : List BE} {lv : List Int} (h : BmIs w p le ll ce cl g es lv) (ht : Turn B [] w w') : BmIs w' p le ll ce cl g es lv := by
  obtain ⟨hp, ⟨L, h1, h2⟩, ⟨V, h3, h4⟩, h5, h6⟩ := h
  exact ⟨ht.block p _ hp (by simp) (.inr rfl), ⟨L, ht.block le _ h1 (by simp) (.inr rfl), h2⟩, ⟨V, ht.block ll _ h3 (by simp) (.inr rfl), h4⟩, h5, h6⟩
theorem zip_fst' (es : List BE) : es.zipIdx.map (·.1) = es := by simp
set_option maxRecDepth 100000 in
set_option maxHeartbeats 16000000 in
theorem made12_core (g : Geo.G) (n : Nat) (hbn : g.b = n) (hr : Geo.right g = true) (a : Option Addr) (l : List (Int × BE)) (cp : Nat) (gen epoch next : Int) (w : World) (hI : RowOf w 7 opC Op64 a l) (hl : l.length ≤ 60) :
    Calls Try.prog 16 #[.agg (GC g), .slice a l.length cp, .int .i64 gen, .int .i64 epoch, .int .i64 next] w fun e w' => ∃ p le ll v, e = .returned (.tuple #[.agg (SnC gen epoch next p), .agg (RC gen epoch next g v), .bool true]) ∧ SnIs w' p le ll n (nz g) (Sn.made g l gen epoch next) ∧ OwnM w' 104 6 BEC (fun _ => True) w.heap.size v (Sn.made g l gen epoch next).es ∧ (w.heap.size ≤ p ∧ w.heap.size ≤ le ∧ w.heap.size ≤ ll) ∧ Below w.heap.size w w' := by
  have hgt : g.b.toNat = n := by rw [hbn]; rfl
  have hs := ((Geo.right_iff g).1 hr).1
  have hn2 : n ≤ 256 := by have := hs.2.2.2.1.2; omega
  have HRT := Lib.hid hr
  have HN : Hid (∀ W, Calls Try.prog 44 #[.agg (GC g)] W fun x w' => ∃ p le ll, x = .returned (.tuple #[.pointer (some ⟨p, 0, none⟩), .int .i64 0]) ∧ BmIs w' p le ll n (nz g) g (List.replicate n BE.zero) (liveL (nz g) (List.replicate n BE.zero)) ∧ W.heap.size ≤ p ∧ W.heap.size ≤ le ∧ W.heap.size ≤ ll ∧ Below W.heap.size W w') := Lib.hid (fun W => by have := bnew_any g hr W; rwa [hgt] at this)
  have HM0 : Hid (MapOk g (List.replicate n BE.zero)) := Lib.hid (by have := mapOk_new g hr; rwa [hgt] at this)
  have HMD : Hid (Sn.made g l gen epoch next = ⟨gen, epoch, next, g, Sn.setAll g (List.replicate n BE.zero) l⟩) := Lib.hid (by unfold Sn.made; rw [hgt])
  have HI := Lib.hid hI
  have HGI := Lib.hid (gsize (g := g))
  have HSI : Hid ((Try.prog.info? 28).map (·.size) = some SZ.size) := Lib.hid (zero_of_info Try.infoSnz).2
  have HRI := Lib.hid (fun gen epoch next v => rssize gen epoch next g v)
  have HII : Hid (∀ x : Int × BE, (Try.prog.info? 48).map (·.size) = some (opC x).size) := Lib.hid (fun x => (zero_of_info Try.infoIt12).2)
  have HIL : Hid (∀ x : Int × BE, (Try.prog.info? 48).map (·.size) = some (opC x).toList.length) := Lib.hid (fun x => (zero_of_info Try.infoIt12).2)
  have HIE := Lib.hid (fun e => esize e)
  have HIEL : Hid (∀ e : BE, (Try.prog.info? 46).map (·.size) = some (BEC e).toList.length) := Lib.hid (fun e => by rw [Array.length_toList]; exact esize e)
  have HON := Lib.hid (fun e => BEC_one e)
  have HOO := Lib.hid (fun x => opC_one x)
  have HZO : Hid (∀ x : Int × BE, (opC (0, BE.zero)).size = (opC x).size) := Lib.hid (fun x => rfl)
  have HSZ : Hid (∀ e : BE, (BEC BE.zero).size = (BEC e).size) := Lib.hid (fun e => by rw [BEC_size, BEC_size])
  have HBR := Lib.hid (built_rs gen epoch next g)
  have HRO : Hid ((RC gen epoch next g (.slice none 0 0)).all (·.oneCell') = true) := Lib.hid (by simp [RC, Value.oneCell'])
  have hzo := (zero_of_info Try.infoIt12).1
  have hzs := (zero_of_info Try.infoSnz).1
  have hzr := (zero_of_info Try.infoRS).1
  have hz := (zero_of_info Try.infoEnt).1
  have HIR : Hid ((Try.prog.info? 104).map (fun i => (i.zero, i.size, i.bytes)) = some (some (.agg (BEC BE.zero)), 6, 48)) := Lib.hid (by kernel_rfl)
  have HST := Lib.hid (fun (W : World) (p le ll : Nat) (es : List BE) hM hW (k : Int) e hn => bset_any W p le ll n (nz g) g es hr hM hW k e hn)
  have t1 : decide (60 < (l.length : Int)) = false := decide_eq_false (by omega)
  obtain ⟨XZ, hXZ⟩ : ∃ XZ, SZ = XZ := ⟨_, rfl⟩
  obtain ⟨XR, hXR⟩ : ∃ XR, RZ = XR := ⟨_, rfl⟩
  have HZS : Hid (∀ p, XZ.size = (SnC gen epoch next p).size) := Lib.hid (fun p => by rw [← hXZ]; rfl)
  have HZR : Hid (∀ v, XR.size = (RC gen epoch next g v).size) := Lib.hid (fun v => by rw [← hXR]; rfl)
  rw [hXZ] at HSI hzs
  rw [hXR] at hzr
  have hB0 : Below w.heap.size w (((w.alloc (.cells (GC g) 23)).alloc (.cells XZ 28)).alloc (.cells XR 32)) := (((Below.refl _ _).alloc (Nat.le_refl _) _).alloc (by simp) _).alloc (by simp; omega) _
  obtain ⟨W0, hW0⟩ : ∃ W0, ((w.alloc (.cells (GC g) 23)).alloc (.cells XZ 28)).alloc (.cells XR 32) = W0 := ⟨_, rfl⟩
  have hG0 : W0.heap[w.heap.size]? = some (.cells (GC g) 23 (0, 0)) := by rw [← hW0, alloc_old _ _ (by simp; omega), alloc_old _ _ (by simp)]; exact alloc_new _ _ rfl
  have hZ0 : W0.heap[w.heap.size + 1]? = some (.cells XZ 28 (0, 0)) := by rw [← hW0, alloc_old _ _ (by simp)]; exact alloc_new _ _ (by simp)
  have hR0 : W0.heap[w.heap.size + 2]? = some (.cells XR 32 (0, 0)) := by rw [← hW0]; exact alloc_new _ _ (by simp)
  rw [hW0] at hB0
  have HW0 := Lib.hid hW0
  have z0 : w.heap.size + 2 < W0.heap.size := (Array.getElem?_eq_some_iff.1 hR0).1
  have HZ0 := Lib.hid hZ0
  have HR0 := Lib.hid hR0
  have HG0 := Lib.hid hG0
  clear hI hs hr hgt hW0 hZ0 hR0 hXZ hXR hbn
  obtain ⟨GX, hGX⟩ : ∃ GX, GC g = GX := ⟨_, rfl⟩
  rw [hGX] at HN HGI HBR hG0 HG0 HW0 ⊢
  clear hGX
  refine calls_of_marks Try.func16 rfl ?_
  simp only [Try.ntmps16, List.size_toArray, List.length_cons, List.length_nil, Nat.reduceAdd, Nat.reduceSub, Array.replicate_succ, Array.replicate_zero, List.push_toArray, List.append_toArray, List.nil_append, List.cons_append]
  go_upto_region 1 with (fail)
  rw [show ((w.alloc (.cells GX 23)).alloc (.cells XZ 28)).alloc (.cells XR 32) = W0 from HW0.out]
  go_wp2_with (refine wpList_row_on (by rfl) 23 _ rfl w.heap.size rfl 23 _ _ _ hG0 Try.underlying23 rfl HGI.out ?_)
  refine (HN.out _).mono ?_
  rintro e1 w1 ⟨p, le, ll, rfl, hbm1, q1, q2, q3, hB1⟩
  have HBM1 := Lib.hid hbm1
  have hlt1 := hbm1.lt
  have z1 := hB1.size
  have HG1 := Lib.hid ((hB1.block w.heap.size (by omega)).trans HG0.out)
  have HZ1 := Lib.hid ((hB1.block (w.heap.size + 1) (by omega)).trans HZ0.out)
  have HR1 := Lib.hid ((hB1.block (w.heap.size + 2) (by omega)).trans HR0.out)
  have HB1 := Lib.hid (hB0.trans (hB1.mono hB0.size))
  clear hG0 hB0 hbm1 hB1
  go_wp2
  clear t1
  go_loopw [40] (fun u wr => ∃ (k : Nat) (es : List BE), k ≤ l.length ∧ u = .int .i64 k ∧ es = Sn.setAll g (List.replicate n BE.zero) (l.take k) ∧ MapOk g es ∧ BmIs wr p le ll n (nz g) g es (liveL (nz g) es) ∧ Only [le, ll] w1 wr) (fun u _ => l.length - (intOf u).toNat)
  case atStart => exact ⟨0, _, Nat.zero_le _, rfl, rfl, HM0.out, HBM1.out, Only.refl _ _⟩
  case round =>
    obtain ⟨k, es, hk, rfl, hes, hM, hbm, hO⟩ := hrel
    have HES := Lib.hid hes
    have HM := Lib.hid hM
    have HBM := Lib.hid hbm
    have HO := Lib.hid hO
    have zr := hO.size
    clear hes hM hbm hO
    by_cases hlt : k < l.length
    · obtain ⟨x, hx⟩ : ∃ x, l[k]? = some x := ⟨_, List.getElem?_eq_getElem hlt⟩
      obtain ⟨b, o, rfl, hbl, -, h64⟩ := HI.out.at hx
      have hrow : RowOf wr 7 opC Op64 (some ⟨b, o, none⟩) l := (HI.out.below HB1.out).only HO.out (fun y hy => by cases hy; simp; omega)
      have hrg := hrow.range hx rfl
      have HTK : Hid (setEs g es x.1 x.2 = Sn.setAll g (List.replicate n BE.zero) (l.take (k + 1))) := Lib.hid (by rw [Sn.setAll_take hx, ← HES.out])
      have HMN := Lib.hid (setEs_ok HM.out h64.2 x.1)
      obtain ⟨blk, e⟩ := x
      have HEW := Lib.hid h64.2
      have hil := HIL.out (blk, e)
      have hic := HII.out (blk, e)
      have hoc := HOO.out (blk, e)
      have hzc := HZO.out (blk, e)
      obtain ⟨XL, hXL⟩ : ∃ XL, (opC (blk, e)).toList = XL := ⟨_, rfl⟩
      have hXC : opC (blk, e) = XL.toArray := by rw [← hXL]
      rw [hXL] at hrg hil
      rw [hXC] at hic hoc hzc
      have HGX := Lib.hid hrg
      have HIX := Lib.hid hil
      have HIC := Lib.hid hic
      have HOC := Lib.hid hoc
      have HZC := Lib.hid hzc
      obtain ⟨W2, hW2⟩ : ∃ W2, wr.alloc (.cells XL.toArray 48) = W2 := ⟨_, rfl⟩
      have hb2 : Below wr.heap.size wr W2 := by rw [← hW2]; exact (Below.refl _ _).alloc (Nat.le_refl _) _
      have hX2 : W2.heap[wr.heap.size]? = some (.cells XL.toArray 48 (0, 0)) := by rw [← hW2]; exact heap_alloc_new wr _
      have c0 : W2.cell? ⟨wr.heap.size, 0, none⟩ = some (.int .i64 blk) := by rw [cell_of_row _ _ _ _ _ _ hX2, ← hXC]; rfl
      have hre : W2.rangeAt wr.heap.size 1 (BEC e).toList := by
        intro j v hv
        have hj : j < 6 := by have := (List.getElem?_eq_some_iff.1 hv).1; rwa [Array.length_toList, BEC_size] at this
        rw [cell_of_row _ _ _ _ _ _ hX2, ← hXC, ← hv]
        match j, hj with
        | 0, _ => rfl
        | 1, _ => rfl
        | 2, _ => rfl
        | 3, _ => rfl
        | 4, _ => rfl
        | 5, _ => rfl
      have hiel := HIEL.out e
      obtain ⟨EL, hEL⟩ : ∃ EL, (BEC e).toList = EL := ⟨_, rfl⟩
      have hEC : BEC e = EL.toArray := by rw [← hEL]
      have HSE := Lib.hid (HST.out W2 p le ll es HM.out (HBM.out.below hb2) blk e HEW.out)
      rw [hEL] at hre hiel
      rw [hEC] at HSE
      have HRE := Lib.hid hre
      have HIEL' := Lib.hid hiel
      have HO2 := Lib.hid (HO.out.trans (Only.of_below (S := [le, ll]) hb2))
      have HW2 := Lib.hid hW2
      clear hx h64 hrow hrg hil hic hoc hzc hXL hXC hb2 hW2 hX2 hre hiel hEL hEC
      go_upto_region 7 with (first | (refine wpList_load_mid rfl 48 _ rfl b (o + k * 7) rfl XL _ HGX.out Try.underlying48 rfl HIX.out ?_) | (refine wpList_store_row rfl 48 _ _ rfl wr.heap.size XL.toArray rfl rfl 48 (opC (0, BE.zero)) (heap_alloc_new wr _) HIC.out HZC.out HOC.out ?_; rw [World.setRow_alloc_new]))
      rw [HW2.out]
      go_wp2_with (refine wpList_load_mid rfl 46 _ rfl wr.heap.size 1 rfl EL _ HRE.out Try.underlying46 rfl HIEL'.out ?_)
      refine HSE.out.mono ?_
      rintro e3 w3 ⟨rfl, hbm3, hO3⟩
      have HBM3 := Lib.hid hbm3
      have HO3 := Lib.hid (HO2.out.trans hO3)
      clear hbm3 hO3 c0
      go_wp2
      go_roundw
      case rel => exact ⟨k + 1, _, by omega, by go_num, HTK.out, HMN.out, HBM3.out, HO3.out⟩
      case measure => simp [intOf]; omega
    · obtain rfl : k = l.length := by omega
      have HEF : Hid (es = Sn.setAll g (List.replicate n BE.zero) l) := Lib.hid (by have := HES.out; rwa [List.take_of_length_le (Nat.le_refl _)] at this)
      have hGr := HO.out.get HG1.out (by simp; omega)
      have HZr := Lib.hid (HO.out.get HZ1.out (by simp; omega))
      have HRr := Lib.hid (HO.out.get HR1.out (by simp; omega))
      have HBr := Lib.hid (HB1.out.trans (HO.out.below (B := w.heap.size) (by simp; omega) HB1.out.size))
      have hel : es.length = n := by have h1 := HM.out.len; have h2 := HM0.out.len; rw [List.length_replicate] at h2; omega
      obtain ⟨sb, hsb⟩ : ∃ sb, wr.heap.size = sb := ⟨_, rfl⟩
      obtain ⟨W2, hW2⟩ : ∃ W2, wr.alloc (.cells (RC gen epoch next g (.slice none 0 0)) 32) = W2 := ⟨_, rfl⟩
      have hb2 : Below wr.heap.size wr W2 := by rw [← hW2]; exact (Below.refl _ _).alloc (Nat.le_refl _) _
      have hS2 : W2.heap[sb]? = some (.cells (RC gen epoch next g (.slice none 0 0)) 32 (0, 0)) := by rw [← hW2, ← hsb]; exact heap_alloc_new wr _
      have HS2 := Lib.hid hS2
      have HZ2 := Lib.hid ((hb2.block (w.heap.size + 1) (by omega)).trans HZr.out)
      have HR2 := Lib.hid ((hb2.block (w.heap.size + 2) (by omega)).trans HRr.out)
      have HBM2 := Lib.hid (HBM.out.below hb2)
      have HB2 := Lib.hid (HBr.out.trans (hb2.mono HBr.out.size))
      have z2 : sb < W2.heap.size := (Array.getElem?_eq_some_iff.1 hS2).1
      have HW2 := Lib.hid hW2
      have HSB := Lib.hid hsb
      have zsb : w1.heap.size ≤ sb := by omega
      clear hb2 hW2 hS2 hsb
      go_upto_region 10 with (first | (refine wpList_row_on (by rfl) 23 _ rfl w.heap.size rfl 23 _ _ _ hGr Try.underlying23 rfl HGI.out ?_) | (refine wpList_build_on (by rfl) 32 _ rfl #[(0, .int .i64 gen), (1, .int .i64 epoch), (2, .int .i64 next), (3, .agg GX)] (by simp [Act.eval, Act.put]) (RC gen epoch next g (.slice none 0 0)) HBR.out ?_) | (refine wpList_store_row rfl 32 _ _ rfl wr.heap.size (RC gen epoch next g (.slice none 0 0)) rfl rfl 32 XR (heap_alloc_new wr _) (HRI.out _ _ _ _) (HZR.out _) HRO.out ?_; rw [World.setRow_alloc_new]))
      rw [HW2.out, HSB.out]
      have HAL := Lib.hid (ball_any W2 p _ _ _ HBM2.out.cells.1)
      rw [hel] at HAL
      obtain ⟨W3, hW3⟩ : ∃ W3, W2.alloc (.cells #[.slice (some ⟨le, 0, none⟩) n n] 108) = W3 := ⟨_, rfl⟩
      have hb3 : Below W2.heap.size W2 W3 := by rw [← hW3]; exact (Below.refl _ _).alloc (Nat.le_refl _) _
      have hsl : W3.heap[W2.heap.size]? = some (.cells #[.slice (some ⟨le, 0, none⟩) n n] 108 (0, 0)) := by rw [← hW3]; exact heap_alloc_new W2 _
      have hbm3 := HBM2.out.below hb3
      have hlt3 := hbm3.lt
      have HSTP : Hid _ := Lib.hid (eallK_stops 7 (by omega) W2.heap.size le (some ⟨le, 0, none⟩) n es W3 (by rw [hel]; exact cell_of_one hsl) hbm3.rows (fun x e => by cases e; rfl) hlt3.2.1 (by omega))
      have HBM3 := Lib.hid hbm3
      have HS3 := Lib.hid ((hb3.block sb z2).trans HS2.out)
      have HZ3 := Lib.hid ((hb3.block (w.heap.size + 1) (by omega)).trans HZ2.out)
      have HR3 := Lib.hid ((hb3.block (w.heap.size + 2) (by omega)).trans HR2.out)
      have HB3 := Lib.hid (HB2.out.trans (hb3.mono HB2.out.size))
      have z3 : W2.heap.size < W3.heap.size := (Array.getElem?_eq_some_iff.1 hsl).1
      have HW3 := Lib.hid hW3
      clear hb3 hsl hbm3 hW3 hGr
      go_wp2_with fail
      refine HAL.out.mono ?_
      rintro e4 w4 ⟨rfl, rfl⟩
      rw [HW3.out]
      go_wp2
      refine (wpIn_wide (n := 8)).1 (wpIn_rangeK2 (encs := ieV) rfl (by omega) (gf := 92) (lb := #[.pointer (some ⟨W2.heap.size, 0, none⟩)]) rfl trivial (enters_of Try.func92 (by kernel_rfl) rfl)
        HSTP.out (Below.refl _ _) (fun _ => rfl) (by simp; omega)
        (fun pre W => ∃ v, W.heap[sb]? = some (.cells (RC gen epoch next g v) 32 (0, 0)) ∧ OwnM W 104 6 BEC (fun _ => True) W3.heap.size v (pre.map (·.1)) ∧ Only [sb] W3 W)
        (fun cx pre W => False)
        (fun pre A W h ht => by obtain ⟨v, h1, h2, h3⟩ := h; exact ⟨v, ht.block sb _ h1 (by simp) (.inr rfl), h2.turn ht, (AbT.only (β := Unit) (C := []) (S := [sb]) (w₀ := W3) (Nat.le_refl _) (by simp)) () A W h3 ht⟩)
        (fun cx pre A W h _ => h) ⟨.slice none 0 0, HS3.out, OwnM.nil _ _ _ _ _ _, Only.refl _ _⟩
        ?fr (fun x Be W' => W'.heap[Be]? = some (.cells (BEC x.1) 46 (0, 0))) (fun x Be => AbT.row (fun _ => BEC x.1) (by simp)) ?assign ?body ?done ?stop)
      case assign =>
        intro rr pre x W4 K _ hI hK
        have HK4 := Lib.hid hK
        clear hK
        unfold ieV
        gi_wp2_with (refine wpListIn_store_row (by rfl) 46 _ _ rfl W4.heap.size (BEC x.1) rfl rfl 46 (BEC BE.zero) (heap_alloc_new W4 _) (HIE.out _) (HSZ.out _) (HON.out _) ?_; rw [World.setRow_alloc_new])
        obtain ⟨Be, hBe⟩ : ∃ Be, W4.heap.size = Be := ⟨_, rfl⟩
        have hn := heap_alloc_new W4 (.cells (BEC x.1) 46)
        rw [hBe] at hn ⊢
        exact HK4.out Be _ ((Only.refl _ _).alloc _) hn
      case body =>
        rintro rr pre x Be W4 _ hrr ⟨v, hS, hown, hO⟩ hE hlen hsp
        obtain ⟨av, cv, rfl, hrv, -, hc1, hc2, hxv⟩ := hown.shape kinR
        have c9 : W4.cell? ⟨sb, 9, none⟩ = some (.slice av (pre.map (·.1)).length cv) := (cell_of_row _ _ _ _ _ _ hS).trans rfl
        have f9 := frozen_of_row _ sb 9 _ _ hS
        have zO := hO.size
        have hle : le < W4.heap.size := by omega
        have hpl : pre.length + 1 ≤ 300 := by omega
        have HOWN := Lib.hid hown
        have HS := Lib.hid hS
        have HO := Lib.hid hO
        have HE := Lib.hid hE
        have HXV := Lib.hid hxv
        obtain ⟨W5, hW5⟩ : ∃ W5, W4.alloc (.cells (BEC x.1) 104) = W5 := ⟨_, rfl⟩
        have hb5 : Below W4.heap.size W4 W5 := by rw [← hW5]; exact (Below.refl _ _).alloc (Nat.le_refl _) _
        have hX5 : W5.heap[W4.heap.size]? = some (.cells (BEC x.1) 104 (0, 0)) := by rw [← hW5]; exact heap_alloc_new W4 _
        have HROW : Hid (RowOf W5 6 BEC (fun _ => True) (some ⟨W4.heap.size, 0, none⟩) [x.1]) := Lib.hid (one_rowOf hX5 trivial)
        have HOWN5 := Lib.hid (HOWN.out.below hb5)
        have hS5 := (hb5.block sb (by omega)).trans HS.out
        have HS5 := Lib.hid hS5
        have HB5 := Lib.hid hb5
        have HW5 := Lib.hid hW5
        have z5 := hb5.size
        have hbase : W3.heap.size ≤ W5.heap.size := by omega
        obtain ⟨L0, hL0⟩ : ∃ L0, pre.map (·.1) = L0 := ⟨_, rfl⟩
        have hl0 : L0.length + [x.1].length ≤ 300 := by rw [← hL0]; simpa using hpl
        have HL0 := Lib.hid hL0
        rw [hL0] at HOWN HOWN5 HXV c9 HS5
        have HLN := Lib.hid hl0
        clear hS hO hE hxv hown hrv hc1 hlen hsp hrr hb5 hX5 hW5 hS5 hl0 hpl hL0
        gi_wp2_with (first | (refine wpListIn_row_on (by rfl) 46 _ rfl Be rfl 46 _ _ _ HE.out Try.underlying46 rfl (HIE.out _) ?_) | (refine wpListIn_slice1e rfl (.tmp 62) rfl x.1 rfl ?_; rw [HW5.out]) | (refine wpListIn_appendM rfl (.tmp 61) (.tmp 63) 30 rfl 104 6 BEC (fun _ => True) kinR (by decide) (.agg (BEC BE.zero)) 48 Try.underlying30 HIR.out rfl W3.heap.size (.slice av L0.length cv) L0 rfl HOWN5.out ⟨W4.heap.size, 0, none⟩ 1 [x.1] rfl HROW.out (by have := HLN.out; unfold maxLen; omega) (by have := HLN.out; omega) hbase ?_; intro v6 w6 hv6 hg6 hat6; obtain ⟨a6, c6, rfl, hr6, -, hd1, hd2, hx6⟩ := hv6.shape kinR; have HV6 := Lib.hid hv6; have HG6 := Lib.hid hg6; have HAT6 := Lib.hid hat6; have hs6 := HOWN5.out.grown hg6 hbase; have hS6 := (hs6.block sb (by omega)).trans HS5.out; have HS6 := Lib.hid hS6; have HB6 := Lib.hid hs6; have c6' : w6.cell? ⟨sb, 9, none⟩ = some (.slice av L0.length cv) := (cell_of_row _ _ _ _ _ _ hS6).trans rfl; have f6' := frozen_of_row _ sb 9 _ _ hS6; clear hv6 hg6 hat6 hs6 hS6 hr6 hd1 hx6))
        have hown6 : (.slice av L0.length cv : Value).ownBlock = none ∨ ∃ k, (.slice av L0.length cv : Value).ownBlock = some k ∧ W3.heap.size ≤ k ∧ ∃ C, W5.heap[k]? = some (.cells C 104 (0, 0)) := by
          cases hk : (.slice av L0.length cv : Value).ownBlock with
          | none => exact .inl rfl
          | some k =>
            obtain ⟨k1, k2⟩ := HOWN5.out.base_le hk
            exact .inr ⟨k, rfl, k1, k2⟩
        have hOx : Only [sb] W3 w6 := (HO.out.trans (Only.of_below (S := [sb]) HB5.out)).grown HG6.out (fun k hk => by
          rcases hown6 with h | ⟨j, h, h1, -⟩
          · rw [h] at hk; cases hk
          · rw [h] at hk; cases hk; exact .inr h1)
        have hKx : Keeps [le] W4 w6 := (Keeps.of_below HB5.out (by simp; omega)).grown HG6.out (by simp; omega) (fun k hk => by
          rcases hown6 with h | ⟨j, h, h1, C, h2⟩
          · rw [h] at hk; cases hk
          · rw [h] at hk
            cases hk
            refine ⟨by simp; omega, fun o ho => ?_⟩
            rw [h2] at ho
            cases ho
            rfl)
        have hsets : (w6.setCell ⟨sb, 9, none⟩ (.slice a6 (L0.length + 1) c6)).heap[sb]? = some (.cells (RC gen epoch next g (.slice a6 (L0.length + 1) c6)) 32 (0, 0)) := heap_setCell_same w6 sb 9 _ _ _ HS6.out
        have hOs : Only [sb] w6 (w6.setCell ⟨sb, 9, none⟩ (.slice a6 (L0.length + 1) c6)) := (Only.refl _ _).setCell (.inl (by simp)) _
        refine ⟨hKx.setCell (by simp; omega) _, .slice a6 (L0.length + 1) c6, hsets, ?_, hOx.setCell (.inl (by simp)) _⟩
        have hv := HV6.out
        rw [List.length_append] at hv
        have h3 := hv.only hOs (fun k hk => by have := (hv.base_le hk).1; simp; omega)
        rw [List.map_append, HL0.out]
        exact h3
      case done =>
        rintro D ys W4 hD rfl ⟨v, hS, hown, hO⟩ hKD
        rw [zip_fst'] at hown
        have HOWN := Lib.hid hown
        have HS := Lib.hid hS
        have HZ4 := Lib.hid (hO.get HZ3.out (by simp; omega))
        have HR4 := Lib.hid (hO.get HR3.out (by simp; omega))
        have hlt := HBM3.out.lt
        have HBM4 := Lib.hid (HBM3.out.only hO (by simp; omega) (by simp; omega) (by simp; omega))
        have HB4 := Lib.hid (HB3.out.trans (hO.below (B := w.heap.size) (by simp; omega) HB3.out.size))
        have HKD := Lib.hid hKD
        have zO := hO.size
        have zD : D < W4.heap.size := (Array.getElem?_eq_some_iff.1 hKD).1
        have HSPL : Hid ((Try.prog.info? 32).map (·.size) = some (RC gen epoch next g v).size) := Lib.hid (HRI.out _ _ _ _)
        obtain ⟨av, cv, rfl, -, -, -, -, -⟩ := hown.shape kinR
        have HRO2 : Hid ((RC gen epoch next g (.slice av es.length cv)).all (·.oneCell') = true) := Lib.hid (by simp [RC, Value.oneCell'])
        have HZR2 : Hid (XR.size = (RC gen epoch next g (.slice av es.length cv)).size) := Lib.hid (HZR.out _)
        have HBS := Lib.hid (built_snm gen epoch next p)
        have HIS : Hid ((Try.prog.info? 28).map (·.size) = some (SnC gen epoch next p).size) := Lib.hid (snsize _ _ _ _)
        have HSO : Hid ((SnC gen epoch next p).all (·.oneCell') = true) := Lib.hid (by simp [SnC, Value.oneCell'])
        have HZS2 := Lib.hid (HZS.out p)
        have HFIN : Hid (∀ (W : World) (S1 S2 : Array Value), Only [w.heap.size + 1, w.heap.size + 2, D] W4 W → S1 = SnC gen epoch next p → S2 = RC gen epoch next g (.slice av es.length cv) → ∃ p le ll v, (Value.tuple #[.agg S1, .agg S2, .bool true]) = .tuple #[.agg (SnC gen epoch next p), .agg (RC gen epoch next g v), .bool true] ∧ SnIs W p le ll n (nz g) (Sn.made g l gen epoch next) ∧ OwnM W 104 6 BEC (fun _ => True) w.heap.size v (Sn.made g l gen epoch next).es ∧ (w.heap.size ≤ p ∧ w.heap.size ≤ le ∧ w.heap.size ≤ ll) ∧ Below w.heap.size w W) := Lib.hid (by
          rintro W S1 S2 hOW rfl rfl
          have hx := HOWN.out.only hOW (fun k hk => by have := (HOWN.out.base_le hk); have h1 := this.1; obtain ⟨C, hC⟩ := this.2; simp; refine ⟨by omega, by omega, fun e => ?_⟩; subst e; rw [HKD.out] at hC; cases hC)
          refine ⟨p, le, ll, _, rfl, ?_, ?_, ⟨by omega, by omega, by omega⟩, ?_⟩
          · rw [HMD.out, ← HEF.out]
            exact ⟨HBM4.out.only hOW (by simp; omega) (by simp; omega) (by simp; omega), HRT.out, HM.out⟩
          · rw [HMD.out, ← HEF.out]
            exact hx.mono (by omega)
          · exact HB4.out.trans (hOW.below (B := w.heap.size) (by simp; omega) HB4.out.size))
        obtain ⟨XS, hXS⟩ : ∃ XS, SnC gen epoch next p = XS := ⟨_, rfl⟩
        obtain ⟨XC, hXC⟩ : ∃ XC, RC gen epoch next g (.slice av es.length cv) = XC := ⟨_, rfl⟩
        rw [hXS] at HBS HIS HSO HZS2 HFIN
        rw [hXC] at HRO2 HZR2 HSPL HS HFIN
        clear hS hown hO hKD hXS hXC
        go_upto_region 13 with (fail)
        refine wp_region_stage 8 [.int .i64 gen, .int .i64 epoch, .int .i64 next, .pointer (some ⟨p, 0, none⟩), .agg XS, .agg XC, undef, undef] [6, 7] [0, 0, 0, 0, 0, 0, 1, 2] (fun s W => W.heap[w.heap.size + 1]? = some (.cells (if s = 0 then XZ else XS) 28 (0, 0)) ∧ W.heap[w.heap.size + 2]? = some (.cells (if s ≤ 1 then XR else XC) 32 (0, 0)) ∧ Only [w.heap.size + 1, w.heap.size + 2] W4 W) ?rdA (by kernel_rfl) (by kernel_rfl) (by kernel_rfl) ?rdhA ?rdh0 ?rdhb ?rdho ?rdhend
        case rdhA =>
          intro vv
          simp only [putRules, Nat.reduceAdd]
          rfl
        case rdh0 =>
          exact ⟨by rw [if_pos rfl]; exact HZ4.out, by rw [if_pos (by omega)]; exact HR4.out, (Only.refl _ _).drew⟩
        case rdhb =>
          intro s W W' hI hB
          exact ⟨(hB.block _ (Array.getElem?_eq_some_iff.1 hI.1).1).trans hI.1, (hB.block _ (Array.getElem?_eq_some_iff.1 hI.2.1).1).trans hI.2.1, hI.2.2.trans (Only.of_below hB)⟩
        case rdho =>
          refine ⟨?_, ?_, ?_, ?_, ?_, ?_, ?_, ?_, trivial⟩
          · intro vv W K s hlo hI hd HK
            simp only [conf5Rules] at HK
            clear hd
            go_wp2
            refine HK.out _ _ (Below.refl _ _) ?_
            rfl
          · intro vv W K s hlo hI hd HK
            simp only [conf5Rules] at HK
            clear hd
            go_wp2
            refine HK.out _ _ (Below.refl _ _) ?_
            rfl
          · intro vv W K s hlo hI hd HK
            simp only [conf5Rules] at HK
            clear hd
            go_wp2
            refine HK.out _ _ (Below.refl _ _) ?_
            rfl
          · intro vv W K s hlo hI hd HK
            simp only [conf5Rules] at HK
            clear hd
            go_wp2
            refine HK.out _ _ (Below.refl _ _) ?_
            rfl
          · intro vv W K s hlo hI hd HK
            simp only [confRules, conf5Rules] at hd HK
            obtain ⟨h0, h1, h2, h3⟩ := hd
            simp only [h0, h1, h2, h3] at HK ⊢
            clear h0 h1 h2 h3
            go_wp2_with (refine wpList_build_on (by rfl) 28 _ rfl #[(0, .int .i64 gen), (1, .int .i64 epoch), (2, .int .i64 next), (3, .pointer (some ⟨p, 0, none⟩))] (by simp [Act.eval, Act.put]) XS HBS.out ?_)
            refine HK.out _ _ (Below.refl _ _) ?_
            rfl
          · intro vv W K s hlo hI hd HK
            simp only [conf5Rules] at HK
            clear hd
            have hT := hI.2.2.get HS.out (by simp; omega)
            go_wp2_with (refine wpList_row_on (by rfl) 32 _ rfl sb rfl 32 _ _ _ hT Try.underlying32 rfl HSPL.out ?_)
            refine HK.out _ _ (Below.refl _ _) ?_
            rfl
          · intro vv W K hI hd HK
            simp only [confRules, conf5Rules, cond7] at hd HK
            obtain ⟨h4, h0, h1, h2, h3, _⟩ := hd
            simp only [h4, h0, h1, h2, h3] at HK ⊢
            clear h4 h0 h1 h2 h3
            have hT := hI.1
            simp only [if_true] at hT
            go_wp2_with (refine wpList_store_row rfl 28 _ _ rfl (w.heap.size + 1) XS rfl rfl 28 XZ hT HIS.out HZS2.out HSO.out ?_)
            have hs := only_setRow W (w.heap.size + 1) XS
            refine HK.out undef _ ⟨by simpa using setRow_heap W (w.heap.size + 1) XZ XS _ _ hT, by have := hs.get hI.2.1 (by simp); simpa using this, hI.2.2.trans (hs.mono (by simp))⟩ ?_
            rfl
          · intro vv W K hI hd HK
            simp only [confRules, conf5Rules] at hd HK
            obtain ⟨h5, h6, h0, h1, h2, h3, h4, _, _⟩ := hd
            simp only [h5, h6, h0, h1, h2, h3, h4] at HK ⊢
            clear h5 h6 h0 h1 h2 h3 h4
            have hT := hI.2.1
            simp only [Nat.le_refl, if_true] at hT
            go_wp2_with (refine wpList_store_row rfl 32 _ _ rfl (w.heap.size + 2) XC rfl rfl 32 XR hT HSPL.out HZR2.out HRO2.out ?_)
            have hs := only_setRow W (w.heap.size + 2) XC
            refine HK.out undef _ ⟨by have := hs.get hI.1 (by simp); simpa using this, by simpa using setRow_heap W (w.heap.size + 2) XR XC _ _ hT, hI.2.2.trans (hs.mono (by simp))⟩ ?_
            rfl
        case rdhend =>
          intro vv W hI hf
          simp only [dropRules]
          clear hf 
          have hz1 := hI.1
          have hz2 := hI.2.1
          simp at hz1 hz2
          have hOW := hI.2.2
          have HR1' := Lib.hid hz1
          have HR2' := Lib.hid hz2
          have HKW := Lib.hid (hOW.get HKD.out (by simp; omega))
          have HOW := Lib.hid hOW
          clear hI hz1 hz2 hOW
          go_wp2
          refine leave_marks (v := .tuple #[.agg XS, .agg XC, .bool true]) [D] _ (by simp) (by simpa using HKW.out) ?_
          intro W' hO'
          have r1 := hO'.get HR1'.out (by simp; omega)
          have r2 := hO'.get HR2'.out (by simp; omega)
          refine ⟨rres_cct (fn := Try.f16) (p := 10) (p2 := 11) (q0 := 12) rfl _ _ (w.heap.size + 1) (w.heap.size + 2) 28 32 XS XC _ _ _ _ rfl r1 Try.underlying28 rfl HIS.out rfl r2 Try.underlying32 rfl HSPL.out, ?_⟩
          obtain ⟨p', le', ll', v', h1, h2⟩ := HFIN.out W' XS XC ((HOW.out.mono (T := [w.heap.size + 1, w.heap.size + 2, D]) (by simp)).trans (hO'.mono (T := [w.heap.size + 1, w.heap.size + 2, D]) (by simp))) rfl rfl
          exact ⟨p', le', ll', v', by rw [h1], h2⟩
      case stop => exact fun D cx pre W4 hD hsp h => h.elim
set_option maxRecDepth 100000 in
set_option maxHeartbeats 4000000 in
theorem made12_no (g : Geo.G) (a : Option Addr) (l : List (Int × BE)) (cp : Nat) (gen epoch next : Int) (w : World) (hno : Geo.right g = false ∨ (Geo.right g = true ∧ 60 < l.length)) :
    Calls Try.prog 16 #[.agg (GC g), .slice a l.length cp, .int .i64 gen, .int .i64 epoch, .int .i64 next] w fun e w' => e = .returned (.tuple #[.agg SZ, .agg RZ, .bool false]) ∧ Below w.heap.size w w' := by
  have HGI := Lib.hid (gsize (g := g))
  have HSI : Hid ((Try.prog.info? 28).map (·.size) = some SZ.size) := Lib.hid (zero_of_info Try.infoSnz).2
  have HRI : Hid ((Try.prog.info? 32).map (·.size) = some RZ.size) := Lib.hid (zero_of_info Try.infoRS).2
  have HBZ := Lib.hid built_snz
  have HBR := Lib.hid built_rsz
  have HS1 : Hid (SZ.all (·.oneCell') = true) := Lib.hid (by simp [SZ, Value.oneCell'])
  have HR1 : Hid (RZ.all (·.oneCell') = true) := Lib.hid (by simp [RZ, RC, Value.oneCell'])
  have HNN := Lib.hid (fun W (h : Geo.right g = false) => bnew_no g h W)
  have HNY := Lib.hid (fun W (h : Geo.right g = true) => bnew_any g h W)
  have hzs := (zero_of_info Try.infoSnz).1
  have hzr := (zero_of_info Try.infoRS).1
  obtain ⟨XZ, hXZ⟩ : ∃ XZ, SZ = XZ := ⟨_, rfl⟩
  obtain ⟨XR, hXR⟩ : ∃ XR, RZ = XR := ⟨_, rfl⟩
  rw [hXZ] at HSI HBZ HS1 hzs ⊢
  rw [hXR] at HRI HBR HR1 hzr ⊢
  clear hXZ hXR
  have hB0 : Below w.heap.size w (((w.alloc (.cells (GC g) 23)).alloc (.cells XZ 28)).alloc (.cells XR 32)) := (((Below.refl _ _).alloc (Nat.le_refl _) _).alloc (by simp) _).alloc (by simp; omega) _
  obtain ⟨W0, hW0⟩ : ∃ W0, ((w.alloc (.cells (GC g) 23)).alloc (.cells XZ 28)).alloc (.cells XR 32) = W0 := ⟨_, rfl⟩
  have hG0 : W0.heap[w.heap.size]? = some (.cells (GC g) 23 (0, 0)) := by rw [← hW0, alloc_old _ _ (by simp; omega), alloc_old _ _ (by simp)]; exact alloc_new _ _ rfl
  have hZ0 : W0.heap[w.heap.size + 1]? = some (.cells XZ 28 (0, 0)) := by rw [← hW0, alloc_old _ _ (by simp)]; exact alloc_new _ _ (by simp)
  have hR0 : W0.heap[w.heap.size + 1 + 1]? = some (.cells XR 32 (0, 0)) := by rw [← hW0]; exact alloc_new _ _ (by simp)
  rw [hW0] at hB0
  have HW0 := Lib.hid hW0
  have z0 : w.heap.size + 1 + 1 < W0.heap.size := (Array.getElem?_eq_some_iff.1 hR0).1
  have HZ0 := Lib.hid hZ0
  have HR0 := Lib.hid hR0
  have HB0 := Lib.hid hB0
  have HFIN : Hid (∀ w1 : World, Below W0.heap.size W0 w1 → ∀ W', W' = (w1.setRow (w.heap.size + 1) XZ).setRow (w.heap.size + 1 + 1) XR → W'.heap[w.heap.size + 1]? = some (.cells XZ 28 (0, 0)) ∧ W'.heap[w.heap.size + 1 + 1]? = some (.cells XR 32 (0, 0)) ∧ Below w.heap.size w W') := Lib.hid (by
    rintro w1 hB1 W' rfl
    have h1 := (hB1.block (w.heap.size + 1) (by omega)).trans HZ0.out
    have h2 := (hB1.block (w.heap.size + 1 + 1) (by omega)).trans HR0.out
    have s1 := only_setRow w1 (w.heap.size + 1) XZ
    have s2 := only_setRow (w1.setRow (w.heap.size + 1) XZ) (w.heap.size + 1 + 1) XR
    have h1' := setRow_heap w1 (w.heap.size + 1) XZ XZ _ _ h1
    have h2' := s1.get h2 (by simp)
    refine ⟨s2.get h1' (by simp), setRow_heap _ _ XR XR _ _ h2', ?_⟩
    exact below_setRow (below_setRow (HB0.out.trans (hB1.mono HB0.out.size)) (by omega) _) (by omega) _)
  clear hB0 hW0 hZ0 hR0
  obtain ⟨GX, hGX⟩ : ∃ GX, GC g = GX := ⟨_, rfl⟩
  rw [hGX] at HGI hG0 HW0 HNN HNY ⊢
  clear hGX
  go_enter Try.func16, Try.ntmps16
  go_upto_region 1 with (fail)
  rw [show ((w.alloc (.cells GX 23)).alloc (.cells XZ 28)).alloc (.cells XR 32) = W0 from HW0.out]
  rcases hno with hr | ⟨hr, hl⟩
  · have HN := Lib.hid (HNN.out W0 hr)
    clear hr
    go_wp2_with (refine wpList_row_on (by rfl) 23 _ rfl w.heap.size rfl 23 _ _ _ hG0 Try.underlying23 rfl HGI.out ?_)
    refine HN.out.mono ?_
    rintro e1 w1 ⟨rfl, hB1⟩
    have hz := (hB1.block (w.heap.size + 1) (by omega)).trans HZ0.out
    have hr1 := (only_setRow w1 (w.heap.size + 1) XZ).get ((hB1.block (w.heap.size + 1 + 1) (by omega)).trans HR0.out) (by simp)
    have HB1 := Lib.hid hB1
    clear hG0 hB1
    go_upto_region 3 with (fail)
    go_wp2_with (first | (refine wpList_build_on (by rfl) 28 _ rfl #[] (by simp) XZ HBZ.out ?_) | (refine wpList_build_on (by rfl) 32 _ rfl #[] (by simp) XR HBR.out ?_) | (refine wpList_store_row rfl 28 _ _ rfl (w.heap.size + 1) XZ rfl rfl 28 XZ hz HSI.out rfl HS1.out ?_) | (refine wpList_store_row rfl 32 _ _ rfl (w.heap.size + 1 + 1) XR rfl rfl 32 XR hr1 HRI.out rfl HR1.out ?_))
    obtain ⟨r1, r2, r3⟩ := HFIN.out w1 HB1.out _ rfl
    refine bodyPost_ret (rres_cct (fn := Try.f16) (p := 10) (p2 := 11) (q0 := 12) rfl _ _ (w.heap.size + 1) (w.heap.size + 1 + 1) 28 32 XZ XR _ _ _ _ rfl r1 Try.underlying28 rfl HSI.out rfl r2 Try.underlying32 rfl HRI.out) rfl ?_
    exact ⟨rfl, r3⟩
  · have HN := Lib.hid (HNY.out W0 hr)
    have t1 : decide (60 < (l.length : Int)) = true := decide_eq_true (by omega)
    clear hr hl
    go_wp2_with (refine wpList_row_on (by rfl) 23 _ rfl w.heap.size rfl 23 _ _ _ hG0 Try.underlying23 rfl HGI.out ?_)
    refine HN.out.mono ?_
    rintro e1 w1 ⟨p, le, ll, rfl, -, -, -, -, hB1⟩
    have hz := (hB1.block (w.heap.size + 1) (by omega)).trans HZ0.out
    have hr1 := (only_setRow w1 (w.heap.size + 1) XZ).get ((hB1.block (w.heap.size + 1 + 1) (by omega)).trans HR0.out) (by simp)
    have HB1 := Lib.hid hB1
    clear hG0 hB1
    go_upto_region 3 with (fail)
    go_wp2_with (first | (refine wpList_build_on (by rfl) 28 _ rfl #[] (by simp) XZ HBZ.out ?_) | (refine wpList_build_on (by rfl) 32 _ rfl #[] (by simp) XR HBR.out ?_) | (refine wpList_store_row rfl 28 _ _ rfl (w.heap.size + 1) XZ rfl rfl 28 XZ hz HSI.out rfl HS1.out ?_) | (refine wpList_store_row rfl 32 _ _ rfl (w.heap.size + 1 + 1) XR rfl rfl 32 XR hr1 HRI.out rfl HR1.out ?_))
    obtain ⟨r1, r2, r3⟩ := HFIN.out w1 HB1.out _ rfl
    refine bodyPost_ret (rres_cct (fn := Try.f16) (p := 10) (p2 := 11) (q0 := 12) rfl _ _ (w.heap.size + 1) (w.heap.size + 1 + 1) 28 32 XZ XR _ _ _ _ rfl r1 Try.underlying28 rfl HSI.out rfl r2 Try.underlying32 rfl HRI.out) rfl ?_
    exact ⟨rfl, r3⟩
end Go.Proofs.Ytjnneoejnpephaa
namespace Sn
open Go.Proofs.Ytjnneoejnpephaa Frm
theorem frames_seq (s : S) (zone : Int) : ∀ f ∈ s.frames zone, f.seq = s.gen := by
  intro f hf
  simp only [S.frames, Sn.frames, List.mem_cons, List.mem_map, List.mem_range] at hf
  rcases hf with rfl | ⟨i, hi, rfl⟩ <;> rfl
theorem read_mk {f : Fr} {r : List Fr} {s : S} (h : readS (f :: r) = some s) : s.gen = f.seq ∧ s.g = headG f.body := by
  rw [readS_cons] at h
  by_cases h1 : Geo.right (headG f.body) = true ∧ nParts (headG f.body) ≤ r.length + 1
  · rw [if_pos h1] at h
    cases h3 : fillAll (headG f.body) (r.take (nParts (headG f.body) - 1)) 0 (List.replicate (headG f.body).b.toNat BE.zero) with
    | none => rw [h3] at h; cases h
    | some es =>
      rw [h3] at h
      simp only [Option.bind_some] at h
      by_cases h4 : (mk f es).ok f.zone = true ∧ (mk f es).frames f.zone = (f :: r).take (nParts (headG f.body))
      · rw [if_pos h4] at h
        cases h
        exact ⟨rfl, rfl⟩
      · rw [if_neg h4] at h; cases h
  · rw [if_neg h1] at h; cases h
/-- all frames that are read have the snapshot's Gen -/
theorem read_seq {l : List Fr} {s : S} (hb : ∀ f ∈ l, ∀ c ∈ f.body, c < 256) (h : readS l = some s) {k : Nat} {x : Fr} (hk : k < nParts s.g) (hx : l[k]? = some x) : x.seq = s.gen := by
  obtain ⟨f, r, rfl, hg, hM, hok, hn, hfr⟩ := read_some hb h
  have h1 : ((f :: r).take (nParts s.g))[k]? = some x := by rw [List.getElem?_take, if_pos hk]; exact hx
  rw [← hfr] at h1
  exact frames_seq s _ x (List.mem_of_getElem? h1)
/-- frames of two snapshots, mixed, are none's -/
theorem mixed_none {a b : S} (hga : Geo.right a.g = true) (hgb : b.g = a.g) (hoka : a.ok 0 = true) (hokb : b.ok 0 = true) (hne : a.gen ≠ b.gen) {k : Nat} {y : Fr} (hy : (b.frames 0)[k]? = some y) : readS ((a.frames 0).set k y) = none := by
  cases h : readS ((a.frames 0).set k y) with
  | none => rfl
  | some s =>
    exfalso
    have hsm := ((Geo.right_iff _).1 hga).1
    have hgb' : Geo.right b.g = true := by rw [hgb]; exact hga
    have hla := S.frames_length a hsm 0
    have hlb := S.frames_length b (by rw [hgb]; exact hsm) 0
    have h2 := nParts_two hsm
    have hkl : k < nParts a.g := by rw [← hgb, ← hlb]; exact (List.getElem?_eq_some_iff.1 hy).1
    have hra := frames_right hga hoka
    have hrb := frames_right hgb' hokb
    have hbody : ∀ f ∈ (a.frames 0).set k y, ∀ c ∈ f.body, c < 256 := by
      intro f hf
      rcases List.mem_or_eq_of_mem_set hf with h1 | h1
      · exact (hra f h1).1.2
      · rw [h1]; exact (hrb y (List.mem_of_getElem? hy)).1.2
    have hys : y.seq = b.gen := frames_seq b 0 y (List.mem_of_getElem? hy)
    obtain ⟨f, r, hl, hg, -, -, hn, -⟩ := read_some hbody h
    have hgs := ((Geo.right_iff _).1 hg).1
    have h2s := nParts_two hgs
    cases k with
    | zero =>
      have e0 : ((a.frames 0).set 0 y)[0]? = some y := List.getElem?_set_self (by omega)
      obtain ⟨x, hx⟩ : ∃ x, (a.frames 0)[1]? = some x := ⟨_, List.getElem?_eq_getElem (by omega)⟩
      have e1 : ((a.frames 0).set 0 y)[1]? = some x := by rw [List.getElem?_set]; simpa using hx
      have s0 := read_seq hbody h (k := 0) (by omega) e0
      have s1 := read_seq hbody h (k := 1) (by omega) e1
      have sx := frames_seq a 0 x (List.mem_of_getElem? hx)
      exact hne (by rw [← sx, s1, ← s0, hys])
    | succ k =>
      obtain ⟨x, hx⟩ : ∃ x, (a.frames 0)[0]? = some x := ⟨_, List.getElem?_eq_getElem (by omega)⟩
      have hxh : x = headF a.gen a.epoch a.next a.g 0 := by
        simp only [S.frames, Sn.frames, List.getElem?_cons_zero, Option.some.injEq] at hx
        exact hx.symm
      have e0 : ((a.frames 0).set (k + 1) y)[0]? = some x := by rw [List.getElem?_set]; simpa using hx
      have e1 : ((a.frames 0).set (k + 1) y)[k + 1]? = some y := List.getElem?_set_self (by omega)
      have hf : f = x := by rw [hl] at e0; simpa using e0
      have hmk := read_mk (by rw [← hl]; exact h)
      have hnn := nums_iff.1 (right_iff.1 (show right a.gen a.epoch a.next a.es = true by simp only [S.ok, S.right, Bool.and_eq_true] at hoka; exact hoka.1)).1
      have hG : s.g = a.g := by
        rw [hmk.2, hf, hxh]
        exact (head_of hsm hnn.2.2.1 hnn.2.2.2).2
      have s0 := read_seq hbody h (k := 0) (by omega) e0
      have s1 := read_seq hbody h (k := k + 1) (by rw [hG]; exact hkl) e1
      have sx := frames_seq a 0 x (List.mem_of_getElem? hx)
      exact hne (by rw [← sx, s0, ← s1, hys])
theorem ok_zero {s : S} (hg : Geo.right s.g = true) (h : s.right = true) : s.ok 0 = true := by
  obtain ⟨gen, epoch, next, g, es⟩ := s
  have hsm := ((Geo.right_iff _).1 hg).1
  have hd := Geo.dz_bd hsm
  have hsz := hsm.2.2.1
  simp only [S.ok, Bool.and_eq_true, holdsG]
  refine ⟨h, hg, Geo.inB_iff.2 ?_, Geo.inB_iff.2 ?_⟩
  · simp only at hd; omega
  · simp only at hsz; omega
end Sn
namespace Go.Rv
open Go.RowKit
/-- a thing is stored into a row of things -/
theorem RowOf.store {α : Type} {w : World} {n : Nat} {X : α → Array Value} {Q : α → Prop} {b o : Nat} {xs : List α} (h : RowOf w n X Q (some ⟨b, o, none⟩) xs) {k : Nat} {y : α} (hk : k < xs.length) (hs : (X y).size = n) (hq : Q y) (ht : w.there b (o + k * n) n) : RowOf (w.setCells b (o + k * n) (X y).toList) n X Q (some ⟨b, o, none⟩) (xs.set k y) := by
  have hl : (X y).toList.length = n := by rw [Array.length_toList, hs]
  rcases h with h | ⟨b', o', e, hb, hc⟩
  · subst h; simp at hk
  · cases e
    have hsz := (Only.of_setCells b (X y).toList (o + k * n) w).size
    refine .inr ⟨b, o, rfl, by omega, fun i x hi => ?_⟩
    by_cases hik : i = k
    · subst hik
      rw [List.getElem?_set_self hk] at hi
      cases hi
      refine ⟨fun j hj => ?_, hq⟩
      have hj' : j < (X y).toList.length := by rw [hl]; exact hj
      rw [World.cell?_setCells_in b _ _ w (fun q hq => (ht q (by rw [hl] at hq; exact hq)).1) j hj', ← Array.getElem?_toList, List.getElem?_eq_getElem hj']
    · rw [List.getElem?_set_ne (Ne.symm hik)] at hi
      refine ⟨fun j hj => ?_, (hc i x hi).2⟩
      rw [World.cell?_setCells_out b _ _ w _ (fun _ _ => ?_)]
      · exact (hc i x hi).1 j hj
      · rw [hl]
        simp only
        rcases Nat.lt_or_gt_of_ne hik with h1 | h1
        · left
          have h2 : (i + 1) * n ≤ k * n := Nat.mul_le_mul_right n h1
          rw [Nat.add_mul, Nat.one_mul] at h2
          omega
        · right
          have h2 : (k + 1) * n ≤ i * n := Nat.mul_le_mul_right n h1
          rw [Nat.add_mul, Nat.one_mul] at h2
          omega
theorem OwnM.fresh {α : Type} (w : World) (e : TypeId) (n : Nat) (X : α → Array Value) (Q : α → Prop) {base g : Nat} (hb : base ≤ g) (hg : w.heap[g]? = some (.cells #[] e (0, 0))) : OwnM w e n X Q base (.slice (some ⟨g, 0, none⟩) 0 0) [] :=
  ⟨⟨by simp [flatM], .inr ⟨g, 0, #[], rfl, hb, hg, Nat.le_refl _, by unfold maxLen; omega, by simp, by simp [flatM]⟩⟩, by simp⟩
/-- cells of a row of the call's own are there, and may be written -/
theorem OwnM.there {α : Type} {w : World} {e : TypeId} {n : Nat} {X : α → Array Value} {Q : α → Prop} {base b o len cap : Nat} {xs : List α} (h : OwnM w e n X Q base (.slice (some ⟨b, o, none⟩) len cap) xs) {k : Nat} (hk : k < xs.length) : o = 0 ∧ base ≤ b ∧ w.there b (k * n) n := by
  rcases h.1.2 with ⟨e', -⟩ | ⟨g, c, cur, e', hb, hg, h1, h2, h3, h4⟩
  · cases e'
  · cases e'
    refine ⟨rfl, hb, fun j hj => ?_⟩
    refine ⟨?_, frozen_of_row _ _ _ _ _ hg⟩
    have h5 : (k + 1) * n ≤ cap * n := Nat.mul_le_mul_right n (by omega)
    rw [Nat.add_mul, Nat.one_mul] at h5
    rw [cell_of_row _ _ _ _ _ _ hg, Array.getElem?_eq_getElem (by omega)]
    rfl
end Go.Rv
namespace Go.Proofs.Ytjnneoejnpephaa
open Go.RowKit Go.Rv Frm
/-- what 'made' tells, whatever its arguments -/
def MadePost (w : World) (g : Geo.G) (l : List (Int × BE)) (gen epoch next : Int) (e : Ending) (w' : World) : Prop :=
  ∃ (S1 S2 : Array Value) (ok : Bool), e = .returned (.tuple #[.agg S1, .agg S2, .bool ok]) ∧ ((Try.prog.info? 28).map (·.size) = some S1.size ∧ S1.all (·.oneCell') = true ∧ SZ.size = S1.size) ∧ ((Try.prog.info? 32).map (·.size) = some S2.size ∧ S2.all (·.oneCell') = true ∧ RZ.size = S2.size) ∧ Below w.heap.size w w' ∧
    ((ok = false ∧ (Geo.right g = false ∨ 60 < l.length)) ∨ (ok = true ∧ Geo.right g = true ∧ l.length ≤ 60 ∧ ∃ p le ll v, S1 = SC (Sn.made g l gen epoch next) p ∧ S2 = RC gen epoch next g v ∧ SnIs w' p le ll g.b.toNat (nz g) (Sn.made g l gen epoch next) ∧ OwnM w' 104 6 BEC (fun _ => True) w.heap.size v (Sn.made g l gen epoch next).es ∧ (w.heap.size ≤ p ∧ w.heap.size ≤ le ∧ w.heap.size ≤ ll)))
theorem made12_any (g : Geo.G) (a : Option Addr) (l : List (Int × BE)) (cp : Nat) (gen epoch next : Int) (w : World) (hI : RowOf w 7 opC Op64 a l) :
    Calls Try.prog 16 #[.agg (GC g), .slice a l.length cp, .int .i64 gen, .int .i64 epoch, .int .i64 next] w (MadePost w g l gen epoch next) := by
  have hno : (Geo.right g = false ∨ (Geo.right g = true ∧ 60 < l.length)) → Calls Try.prog 16 #[.agg (GC g), .slice a l.length cp, .int .i64 gen, .int .i64 epoch, .int .i64 next] w (MadePost w g l gen epoch next) := fun h => by
    refine (made12_no g a l cp gen epoch next w h).mono ?_
    rintro e w' ⟨rfl, hB⟩
    refine ⟨SZ, RZ, false, rfl, ⟨(zero_of_info Try.infoSnz).2, by simp [SZ, Value.oneCell'], rfl⟩, ⟨(zero_of_info Try.infoRS).2, by simp [RZ, RC, Value.oneCell'], rfl⟩, hB, .inl ⟨rfl, ?_⟩⟩
    rcases h with h | h
    · exact .inl h
    · exact .inr h.2
  cases hr : Geo.right g
  · exact hno (.inl hr)
  · by_cases hl : l.length ≤ 60
    · have hb1 := ((Geo.right_iff g).1 hr).1.2.2.2.1.1
      refine (made12_core g g.b.toNat (by omega) hr a l cp gen epoch next w hI hl).mono ?_
      rintro e w' ⟨p, le, ll, v, rfl, hs, ho, hb, hB⟩
      obtain ⟨av, cv, rfl, -, -, -, -, -⟩ := ho.shape kinR
      exact ⟨_, _, true, rfl, ⟨snsize _ _ _ _, by simp [SnC, Value.oneCell'], rfl⟩, ⟨rssize _ _ _ _ _, by simp [RC, Value.oneCell'], rfl⟩, hB, .inr ⟨rfl, hr, hl, p, le, ll, _, rfl, rfl, hs, ho, hb⟩⟩
    · exact hno (.inr ⟨hr, by omega⟩)
end Go.Proofs.Ytjnneoejnpephaa
namespace Go.Proofs.Ytjnneoejnpephaa
open Go.RowKit Go.Rv
set_option linter.unusedVariables false
set_option maxRecDepth 100000 in
theorem item12_of_fits {d : Nat} {w : World} {cs : List Value} (h : Fits Try.prog w (d + 3) 48 cs) : ∃ x : Int × BE, cs = (opC x).toList ∧ Op64 x := by
  obtain ⟨hl, hx⟩ := fits_struct (d := d + 2) Try.underlying48 h
  have k1 : Try.prog.cellsOf 3 = 1 := by kernel_rfl
  have k6 : Try.prog.cellsOf 46 = 6 := by kernel_rfl
  have k7 : Try.prog.cellsOf 48 = 7 := by kernel_rfl
  rw [k7] at hl
  simp only [List.forall_mem_cons, k1, k6] at hx
  obtain ⟨f0, f1, -⟩ := hx
  obtain ⟨n0, c0, w0⟩ := fits_int Try.underlying3 f0
  obtain ⟨e, c1, w1⟩ := ent_of_fits6 f1
  refine ⟨(n0, e), ?_, w0, w1⟩
  match cs, hl with
  | v :: r, hl =>
    simp at c0 c1 hl
    rw [List.take_of_length_le (by omega)] at c1
    rw [c0, c1]
    rfl
set_option maxRecDepth 100000 in
theorem items12_of_fits {w : World} {a : Option Addr} {len cap : Nat} (h : Fits Try.prog w 6 24 [.slice a len cap]) : ∃ xs : List (Int × BE), xs.length = len ∧ RowOf w 7 opC Op64 a xs ∧ len ≤ cap ∧ cap ≤ 9223372036854775807 ∧ (a = none → cap = 0) :=
  rowOf_of_fits (d := 5) 7 opC Op64 Try.underlying24 (by kernel_rfl) (by omega) (fun cs _ hf => item12_of_fits (d := 2) hf) h
end Go.Proofs.Ytjnneoejnpephaa
