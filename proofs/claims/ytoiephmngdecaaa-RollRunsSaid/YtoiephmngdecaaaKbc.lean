/- Proved here: the contracts of the document's own functions (Over, Sum): what each answers, and that it leaves the world alone; a block lies where it is found (the document's lie). -/
import Derived.Deep.QuietTactic
import Derived.BigQuiet
import Derived.Test.YtoiephmngdecaaaKab
import Derived.Test.YtoiephmngdecaaaKag
import Derived.Test.YtoiephmngdecaaaKaj
import Derived.Test.YtoiephmngdecaaaKay
import Derived.Test.YtoiephmngdecaaaKbb
namespace Go.Proofs.Ytoiephmngdecaaa
open Go.RowKit Go.Rv
set_option linter.unusedVariables false
theorem xor_rc (r c : Nat) (hr : r < 2 ^ 32) (hc : c < 256) : bits .xor .u32 (r : Int) (c : Int) = ((r ^^^ c : Nat) : Int) :=
  u32_xor_nat r c (by simpa using hr) (by omega)
set_option maxRecDepth 100000 in
set_option maxHeartbeats 400000 in
theorem rstep_any (r c : Nat) (hr : r < 2 ^ 32) (hc : c < 256) (w : World) :
    Calls Try.prog 92 #[.int .u32 r, .int .u8 c] w fun e w' => e = .returned (.int .u32 (Crc.step r c : Nat)) ∧ w = w' := by
  have ex := xor_rc r c hr hc; have hq : r ^^^ c < 2 ^ 32 := Nat.xor_lt_two_pow hr (by omega); have hst : Crc.step r c = Crc.hn 8 (r ^^^ c) := rfl; rw [hst]; clear hst; generalize r ^^^ c = q at *; go_enter Try.func92, Try.ntmps92; go_wp2
  go_loop [0, 5] (fun t i => ∃ m : Nat, m ≤ 8 ∧ i = .int .i64 m ∧ t = .int .u32 (Crc.hn m q : Nat)) (fun _ i => 8 - (intOf i).toNat)
  case atStart => exact ⟨0, by omega, rfl, rfl⟩
  case round =>
    obtain ⟨m, hm, rfl, rfl⟩ := hrel; have hl := Crc.hn_lt m hq; by_cases hm8 : m < 8
    · have hs : Hid (Crc.hn (m + 1) q = if Crc.hn m q % 2 = 1 then (Crc.hn m q / 2) ^^^ Crc.G else Crc.hn m q / 2) := by
        show Crc.hn (m + 1) q = _; rw [Crc.hn_add]; rfl
      by_cases h1 : Crc.hn m q % 2 = 1
      · have e2 := xorG _ hl; have e1 : (((Crc.hn m q : Nat) : Int) % 2 == 1) = true := by simp; omega
        have h1' := Lib.hid h1; clear h1; go_wp2; go_round
        case rel => exact ⟨m + 1, by omega, by go_num, by rw [hs.out, if_pos h1'.out]⟩
        case measure => simp [intOf]; omega
      · have e1 : (((Crc.hn m q : Nat) : Int) % 2 == 1) = false := by simp; omega
        go_wp2; go_round
        case rel => exact ⟨m + 1, by omega, by go_num, by rw [hs.out, if_neg h1]; rfl⟩
        case measure => simp [intOf]; omega
    · obtain rfl : m = 8 := by omega
      go_wp2; go_ret; exact ⟨rfl, rfl⟩
set_option maxRecDepth 100000 in
set_option maxHeartbeats 400000 in
theorem rover_any (r : Nat) (a : Option Addr) (l : List Nat) (cap : Nat) (hr : r < 2 ^ 32) (w : World) (hb : Bytes w a l) (hlen : l.length ≤ 9223372036854775807) :
    Calls Try.prog 70 #[.int .u32 r, .slice a l.length cap] w fun e w' => e = .returned (.int .u32 (Crc.over r l : Nat)) ∧ w = w' := by
  go_enter Try.func70, Try.ntmps70; go_wp2
  go_loop [0, 5] (fun q i => ∃ k : Nat, k ≤ l.length ∧ i = .int .i64 k ∧ q = .int .u32 (Crc.over r (l.take k) : Nat)) (fun _ i => l.length - (intOf i).toNat)
  case atStart => exact ⟨0, by omega, rfl, rfl⟩
  case round =>
    obtain ⟨k, hk, rfl, rfl⟩ := hrel; by_cases hlt : k < l.length
    · obtain ⟨b, o, c, rfl, hbl, hc, hc8, hlk⟩ := hb.at hlt; have hs := Lib.hid (over_take_succ r l k c hlk); have hl32 := over_take_lt hr hb.1 k; clear hlk; generalize Crc.over r (l.take k) = q at *; go_wp2_with (first | (go_at_call 92; refine (rstep_any _ _ hl32 hc8 _).mono ?_; rintro e w1 ⟨rfl, rfl⟩)); go_round
      case rel => exact ⟨k + 1, by omega, by go_num, by rw [hs.out]⟩
      case measure => simp [intOf]; omega
    · obtain rfl : k = l.length := by omega
      go_wp2; go_ret; exact ⟨by first | rfl | (rw [List.take_length]; rfl), rfl⟩
theorem sub_ones_i (x : Nat) (hx : x < 2 ^ 32) : (4294967295 : Int) - (x : Int) = ((x ^^^ Crc.ones : Nat) : Int) := by
  rw [← Crc.sub_ones hx]; unfold Crc.ones; omega
set_option maxRecDepth 100000 in
set_option maxHeartbeats 400000 in
theorem rsum_any (a : Option Addr) (l : List Nat) (cap : Nat) (w : World) (hb : Bytes w a l) (hlen : l.length ≤ 9223372036854775807) :
    Calls Try.prog 56 #[.slice a l.length cap] w fun e w' => e = .returned (.int .u32 (Crc.sum l : Nat)) ∧ w = w' := by
  have ho : Crc.over Crc.ones l < 2 ^ 32 := Crc.over_lt Crc.ones_lt hb.1; have hx := sub_ones_i (Crc.over Crc.ones l) ho; have hs : Crc.sum l = Crc.over Crc.ones l ^^^ Crc.ones := rfl; rw [← hs] at hx; have HX := Lib.hid hx; clear hs hx; have hc := fun w0 h0 => rover_any 4294967295 a l cap (by omega) w0 h0 hlen; rw [show Crc.over 4294967295 l = Crc.over Crc.ones l from rfl] at hc; generalize Crc.over Crc.ones l = q at *; have HC := Lib.hid hc; clear hc; go_enter Try.func56, Try.ntmps56; go_wp2_with (go_at_call 70; refine (HC.out _ hb).mono ?_; rintro e w1 ⟨rfl, rfl⟩); go_ret; refine ⟨?_, rfl⟩; rw [← HX.out]; rfl
end Go.Proofs.Ytoiephmngdecaaa
namespace Go.Proofs.Ytoiephmngdecaaa
open Go.RowKit Go.Rv Rl Frm
set_option linter.unusedVariables false
attribute [local go_sem] Oper.semAt_some
/-- the cells of the document's result -/
def rrC (vL : Value) (next ap : Int) (vS : Value) : Array Value := #[vL, .int .i64 next, .int .i64 ap, vS]
def RRZ : Array Value := rrC (.slice none 0 0) 0 0 (.slice none 0 0)
theorem Try.infoRR : (Try.prog.info? 45).map (fun i => (i.zero, i.size)) = some (some (.agg RRZ), 4) := by kernel_rfl
theorem rr_size (vL : Value) (next ap : Int) (vS : Value) : (Try.prog.info? 45).map (·.size) = some (rrC vL next ap vS).size := (zero_of_info Try.infoRR).2
theorem rr_cells {w : World} {b : Nat} {vL : Value} {next ap : Int} {vS : Value} {t : TypeId} (h : w.heap[b]? = some (.cells (rrC vL next ap vS) t (0, 0))) :
    w.cell? ⟨b, 0, none⟩ = some vL ∧ w.cell? ⟨b, 1, none⟩ = some (.int .i64 next) ∧ w.cell? ⟨b, 2, none⟩ = some (.int .i64 ap) ∧ w.cell? ⟨b, 3, none⟩ = some vS :=
  ⟨(cell_of_row _ _ _ _ _ _ h).trans rfl, (cell_of_row _ _ _ _ _ _ h).trans rfl, (cell_of_row _ _ _ _ _ _ h).trans rfl, (cell_of_row _ _ _ _ _ _ h).trans rfl⟩
theorem rr_one (a b : Option Addr) (n m c d : Nat) (next ap : Int) : (rrC (.slice a n c) next ap (.slice b m d)).all (·.oneCell') = true := by simp [rrC, Value.oneCell']
theorem rr_setL {w : World} {b : Nat} {vL : Value} {next ap : Int} {vS : Value} {t : TypeId} (h : w.heap[b]? = some (.cells (rrC vL next ap vS) t (0, 0))) (u : Value) : (w.setCell ⟨b, 0, none⟩ u).heap[b]? = some (.cells (rrC u next ap vS) t (0, 0)) := heap_setCell_same w b 0 _ _ u h
theorem rr_setN {w : World} {b : Nat} {vL : Value} {next ap : Int} {vS : Value} {t : TypeId} (h : w.heap[b]? = some (.cells (rrC vL next ap vS) t (0, 0))) (u : Int) : (w.setCell ⟨b, 1, none⟩ (.int .i64 u)).heap[b]? = some (.cells (rrC vL u ap vS) t (0, 0)) := heap_setCell_same w b 1 _ _ _ h
theorem rr_setA {w : World} {b : Nat} {vL : Value} {next ap : Int} {vS : Value} {t : TypeId} (h : w.heap[b]? = some (.cells (rrC vL next ap vS) t (0, 0))) (u : Int) : (w.setCell ⟨b, 2, none⟩ (.int .i64 u)).heap[b]? = some (.cells (rrC vL next u vS) t (0, 0)) := heap_setCell_same w b 2 _ _ _ h
theorem rr_setS {w : World} {b : Nat} {vL : Value} {next ap : Int} {vS : Value} {t : TypeId} (h : w.heap[b]? = some (.cells (rrC vL next ap vS) t (0, 0))) (u : Value) : (w.setCell ⟨b, 3, none⟩ u).heap[b]? = some (.cells (rrC vL next ap u) t (0, 0)) := heap_setCell_same w b 3 _ _ u h
/-- a result of the document's -/
def RPost (B : Nat) (w0 : World) (es : List BE) (sg : List Int) (next ap : Int) (y : Ending) (w' : World) : Prop :=
  ∃ vL vS, y = .returned (.agg (rrC vL next ap vS)) ∧ OwnM w' 55 6 BEC (fun _ => True) B vL es ∧ OwnM w' 3 1 iC (fun _ => True) B vS sg ∧ Below B w0 w'
theorem built_rb (z m o q s : Int) : Try.prog.built 55 [(0, .int .i64 1), (1, .int .i64 z), (2, .int .i64 m), (3, .int .i64 o), (4, .int .i64 q), (5, .int .i64 s)] = some (BEC ⟨1, z, m, o, q, s⟩) := by kernel_rfl
theorem Try.infoRE3 : (Try.prog.info? 55).map (fun i => (i.zero, i.size, i.bytes)) = some (some (.agg (BEC BE.zero)), 6, 48) := by kernel_rfl
set_option maxRecDepth 100000 in
set_option maxHeartbeats 64000000 in
theorem rrlie_any (w : World) (aL : Option Addr) (es : List BE) (cL : Nat) (next ap : Int) (aS : Option Addr) (sg : List Int) (cS : Nat) (seq : Int) (e : En.E) (f : Fnd) (b : Bool) (k : Nat)
    (hL : RowOf w 6 BEC (fun _ => True) aL es) (hS : RowOf w 1 iC (fun _ => True) aS sg) (hcL : aL = none → cL = 0) (hcS : aS = none → cS = 0) (hlen : es.length ≤ 256) (hsg : sg.length = es.length) (hk : e.block = (k : Nat)) (hkl : k < es.length) (hq : EBody e) (hf : FndQ f) :
    Calls Try.prog 36 #[.agg (rrC (.slice aL es.length cL) next ap (.slice aS sg.length cS)), .int .i64 seq, .agg (EC e), .agg (fndC f), .bool b] w (RPost w.heap.size w (es.set k (beOf seq ⟨⟨e, f.zone, f.off⟩, b⟩)) (sg.set k (if b = true then 1 else 0)) next ap) := by
  have HL := Lib.hid hL; have HS := Lib.hid hS; have HCL := Lib.hid hcL; have HCS := Lib.hid hcS; have HIR := Try.infoRE3; obtain ⟨sm, hsm⟩ : ∃ s : Int, ((Crc.sum e.bytes : Nat) : Int) = s := ⟨_, rfl⟩; have hsb : 0 ≤ sm ∧ sm ≤ 4294967295 := by have := Crc.sum_lt hq.2; omega
  have HSM0 : Hid (∀ (W : World) (b : Nat), W.heap[b]? = some (.cells (EC e) 72 (0, 0)) → Calls Try.prog 56 #[.slice (some ⟨b, 6, none⟩) 32 32] W fun y w' => y = .returned (.int .u32 sm) ∧ Below W.heap.size W w') := Lib.hid (fun W b h => by
    have h1 := rsum_any (some ⟨b, 6, none⟩) e.bytes 32 W (ent_bytes h hq.2) (by rw [hq.1]; omega); rw [hq.1, hsm] at h1; refine h1.mono ?_; rintro y w' ⟨rfl, rfl⟩; exact ⟨rfl, Below.refl _ _⟩)
  have HEC : Hid (∀ (W : World) (b : Nat), W.heap[b]? = some (.cells (EC e) 72 (0, 0)) → W.cell? ⟨b, 3, none⟩ = some (.int .i64 (k : Nat)) ∧ W.cell? ⟨b, 5, none⟩ = some (.int .i64 e.mate)) := Lib.hid (fun W b h => by rw [← hk]; exact ⟨(ent_cells h).2.2.2.1, (ent_cells h).2.2.2.2.2⟩); have HFC : Hid (∀ (W : World) (b : Nat), W.heap[b]? = some (.cells (fndC f) 61 (0, 0)) → W.cell? ⟨b, 0, none⟩ = some (.int .i64 f.zone) ∧ W.cell? ⟨b, 1, none⟩ = some (.int .i64 f.off)) := Lib.hid (fun W b h => ⟨(fnd_cells h).1, (fnd_cells h).2.1⟩); obtain ⟨BX, hBX⟩ : ∃ X, BEC (beOf seq ⟨⟨e, f.zone, f.off⟩, b⟩) = X := ⟨_, rfl⟩; obtain ⟨zn, hzn⟩ : ∃ z, f.zone = z := ⟨_, rfl⟩; obtain ⟨fo, hfo⟩ : ∃ z, f.off = z := ⟨_, rfl⟩; obtain ⟨mt, hmt⟩ : ∃ z, e.mate = z := ⟨_, rfl⟩; have HBU : Hid (Try.prog.built 55 [(0, .int .i64 1), (1, .int .i64 zn), (2, .int .i64 mt), (3, .int .i64 fo), (4, .int .i64 seq), (5, .int .i64 sm)] = some BX) := Lib.hid (by rw [built_rb, ← hBX]; unfold beOf; simp only; rw [hzn, hfo, hmt, hsm]); rw [hmt] at HEC; rw [hzn, hfo] at HFC; obtain ⟨n, hn⟩ : ∃ n, es.length = n := ⟨_, rfl⟩; have hn2 : sg.length = n := by omega
  rw [hn, hn2]; rw [hn] at hlen hkl; have HN := Lib.hid (And.intro hn hn2); obtain ⟨CR, hCR⟩ : ∃ C, rrC (.slice aL n cL) next ap (.slice aS n cS) = C := ⟨_, rfl⟩; have HCR := Lib.hid hCR; obtain ⟨CE, hCE⟩ : ∃ C, EC e = C := ⟨_, rfl⟩; obtain ⟨CF, hCF⟩ : ∃ C, fndC f = C := ⟨_, rfl⟩; rw [hCE] at HSM0 HEC; rw [hCF] at HFC; rw [hCR, hCE, hCF]; obtain ⟨W0, hW0⟩ : ∃ W, (((w.alloc (.cells CR 45)).alloc (.cells CE 72)).alloc (.cells CF 61)).alloc (.cells RRZ 45) = W := ⟨_, rfl⟩; have hb0 : Below w.heap.size w W0 := by rw [← hW0]; exact ((((Below.refl _ _).alloc (Nat.le_refl _) _).alloc (by simp) _).alloc (by simp; omega) _).alloc (by simp; omega) _
  obtain ⟨h5, h7, h8, h10⟩ : W0.heap[w.heap.size]? = some (.cells CR 45 (0, 0)) ∧ W0.heap[w.heap.size + 1]? = some (.cells CE 72 (0, 0)) ∧ W0.heap[w.heap.size + 1 + 1]? = some (.cells CF 61 (0, 0)) ∧ W0.heap[w.heap.size + 1 + 1 + 1]? = some (.cells RRZ 45 (0, 0)) := by
    rw [← hW0]; refine ⟨?_, ?_, ?_, ?_⟩
    · exact (alloc_old _ _ (by simp; omega)).trans ((alloc_old _ _ (by simp; omega)).trans ((alloc_old _ _ (by simp)).trans (alloc_new _ _ rfl)))
    · exact (alloc_old _ _ (by simp)).trans ((alloc_old _ _ (by simp)).trans (alloc_new _ _ (by simp)))
    · exact (alloc_old _ _ (by simp)).trans (alloc_new _ _ (by simp))
    · exact alloc_new _ _ (by simp)
  have hzr := (zero_of_info Try.infoRR).1; have HW0 := Lib.hid hW0; have HB0 := Lib.hid hb0; have HL0 := Lib.hid (hL.below hb0); have HS0 := Lib.hid (hS.below hb0); have HBX := Lib.hid hBX; clear hL hS hcL hcS hsm hk hq hf hBX hzn hfo hmt hn hn2 hCR hCE hCF hW0 hb0 hsg; go_enter Try.func36, Try.ntmps36; go_upto_region 1 with (fail); rw [HW0.out]; obtain ⟨b7, q7⟩ : ∃ b, w.heap.size + 1 = b := ⟨_, rfl⟩; obtain ⟨b8, q8⟩ : ∃ b, w.heap.size + 1 + 1 = b := ⟨_, rfl⟩; obtain ⟨b10, q10⟩ : ∃ b, w.heap.size + 1 + 1 + 1 = b := ⟨_, rfl⟩; have zb : w.heap.size < b7 ∧ b7 < b8 ∧ b8 < b10 ∧ b10 < W0.heap.size := by have := (Array.getElem?_eq_some_iff.1 h10).1; omega
  rw [q10] at h10 ⊢; rw [q8] at h8 ⊢; rw [q7] at h7 ⊢; have H5 := Lib.hid h5; have H7 := Lib.hid h7; have H8 := Lib.hid h8; have H10 := Lib.hid h10
  have HCC : Hid (∀ (W : World) (b : Nat), W.heap[b]? = some (.cells CR 45 (0, 0)) → W.cell? ⟨b, 0, none⟩ = some (.slice aL n cL) ∧ W.cell? ⟨b, 3, none⟩ = some (.slice aS n cS)) := Lib.hid (fun W b h => by
    rw [← HCR.out] at h; exact ⟨(rr_cells h).1, (rr_cells h).2.2.2⟩)
  clear h7 h8 h10 q7 q8 q10; have c0 := (HCC.out W0 w.heap.size h5).1; clear h5; go_upto_region 4 with (at_builtin; refine wpList_appendM rfl (.tmp 13) (.tmp 15) 30 rfl 55 6 BEC (fun _ => True) kinR (by decide) (.agg (BEC BE.zero)) 48 Try.underlying30 HIR rfl W0.heap.size _ ([] : List BE) rfl (OwnM.nil _ _ _ _ _ _) aL cL es (by rw [HN.out.1]; rfl) HL0.out HCL.out (by rw [HN.out.1]; unfold maxLen; simp; omega) (by rw [HN.out.1]; simp; omega) (Nat.le_refl _) ?_; intro v1 w1 hv1 hg1 _; have HV1 := Lib.hid hv1; have HB1 := Lib.hid ((OwnM.nil W0 55 6 BEC (fun _ => True) W0.heap.size).grown hg1 (Nat.le_refl _)); clear hv1 hg1); clear c0; have hv1 : OwnM w1 55 6 BEC (fun _ => True) W0.heap.size v1 es := HV1.out; obtain ⟨gl, capL, rfl, hgl, hglt, hcap⟩ := hv1.real (by rw [HN.out.1]; omega); have HO1 := Lib.hid hv1; have z1 := HB1.out.size; have H51 := Lib.hid ((HB1.out.block w.heap.size (by omega)).trans H5.out); have HS1 := Lib.hid (HS0.out.below HB1.out); have c3 := (HCC.out w1 w.heap.size H51.out).2; rw [HN.out.1] at hcap ⊢; clear hv1 HV1; go_upto_region 5 with (at_builtin; refine wpList_appendM rfl (.tmp 17) (.tmp 19) 33 rfl 3 1 iC (fun _ => True) kinI (by decide) (.int .i64 0) 8 Try.underlying33 Try.infoInt3 rfl w1.heap.size _ ([] : List Int) rfl (OwnM.nil _ _ _ _ _ _) aS cS sg (by rw [HN.out.2]; rfl) HS1.out HCS.out (by rw [HN.out.2]; unfold maxLen; simp; omega) (by rw [HN.out.2]; simp; omega) (Nat.le_refl _) ?_; intro v2 w2 hv2 hg2 _; have HV2 := Lib.hid hv2; have HB2 := Lib.hid ((OwnM.nil w1 3 1 iC (fun _ => True) w1.heap.size).grown hg2 (Nat.le_refl _)); clear hv2 hg2); clear c3; have hv2 : OwnM w2 3 1 iC (fun _ => True) w1.heap.size v2 sg := HV2.out; obtain ⟨gs, capS, rfl, hgs, hgst, hcapS⟩ := hv2.real (by rw [HN.out.2]; omega); have HO2 := Lib.hid hv2; have HP2 := Lib.hid (HO1.out.below HB2.out); have z2 := HB2.out.size; have HBB2 := Lib.hid (HB1.out.trans (HB2.out.mono z1)); have H72 := Lib.hid ((HBB2.out.block b7 (by omega)).trans H7.out); have H82 := Lib.hid ((HBB2.out.block b8 (by omega)).trans H8.out); have HKE : Hid (∀ W, Below w2.heap.size w2 W → W.cell? ⟨b7, 3, none⟩ = some (.int .i64 (k : Nat)) ∧ W.cell? ⟨b7, 5, none⟩ = some (.int .i64 mt)) := Lib.hid (fun W hW => HEC.out W b7 ((hW.block b7 (by omega)).trans H72.out)); have HKF : Hid (∀ W, Below w2.heap.size w2 W → W.cell? ⟨b8, 0, none⟩ = some (.int .i64 zn) ∧ W.cell? ⟨b8, 1, none⟩ = some (.int .i64 fo)) := Lib.hid (fun W hW => HFC.out W b8 ((hW.block b8 (by omega)).trans H82.out)); have HSM : Hid (∀ W, Below w2.heap.size w2 W → Calls Try.prog 56 #[.slice (some ⟨b7, 6, none⟩) 32 32] W fun y w' => y = .returned (.int .u32 sm) ∧ Below W.heap.size W w') := Lib.hid (fun W hW => HSM0.out W b7 ((hW.block b7 (by omega)).trans H72.out)); rw [HN.out.2] at hcapS ⊢; clear hv2 HV2; refine wp_region_conf2 16 [Fact.eq (.slice (some ⟨gl, 0, none⟩) n capL), Fact.eq (.pointer (some ⟨b7, 3, none⟩)), Fact.eq (.int .i64 (k : Nat)), Fact.eq (.pointer (some ⟨b8, 0, none⟩)), Fact.eq (.int .i64 zn), Fact.eq (.pointer (some ⟨b7, 5, none⟩)), Fact.eq (.int .i64 mt), Fact.eq (.pointer (some ⟨b8, 1, none⟩)), Fact.eq (.int .i64 fo), Fact.eq (.int .i64 seq), Fact.eq (.pointer (some ⟨b7, 6, none⟩)), Fact.eq (.slice (some ⟨b7, 6, none⟩) 32 32), Fact.eq (.int .u32 sm), Fact.eq (.int .i64 sm), Fact.eq (.agg BX), Fact.eq (.pointer (some ⟨gl, k * 6, none⟩))] ?raA (by kernel_rfl) (by kernel_rfl) ?rahA ?raho ?rahend
  case rahA =>
    intro vv; simp only [putRules, Nat.reduceAdd]; rfl
  case raho =>
    refine ⟨?_, ?_, ?_, ?_, ?_, ?_, ?_, ?_, ?_, ?_, ?_, ?_, ?_, ?_, ?_, ?_, trivial⟩
    · intro vv W K hB hd HK; simp only [confRules] at HK; clear hd; go_wp2; refine HK.out _ _ (Below.refl _ _) ?_; rfl
    · intro vv W K hB hd HK; simp only [confRules] at HK; clear hd; go_wp2; refine HK.out _ _ (Below.refl _ _) ?_; rfl
    · intro vv W K hB hd HK; simp only [confRules] at hd HK; have h1 := hd; clear hd; simp only [h1] at HK ⊢; clear h1; obtain ⟨c9, -⟩ := HKE.out W hB; go_wp2; refine HK.out _ _ (Below.refl _ _) ?_; rfl
    · intro vv W K hB hd HK; simp only [confRules] at HK; clear hd; go_wp2; refine HK.out _ _ (Below.refl _ _) ?_; rfl
    · intro vv W K hB hd HK; simp only [confRules] at hd HK; have h3 := hd; clear hd; simp only [h3] at HK ⊢; clear h3; obtain ⟨c9, -⟩ := HKF.out W hB; go_wp2; refine HK.out _ _ (Below.refl _ _) ?_; rfl
    · intro vv W K hB hd HK; simp only [confRules] at HK; clear hd; go_wp2; refine HK.out _ _ (Below.refl _ _) ?_; rfl
    · intro vv W K hB hd HK; simp only [confRules] at hd HK; have h5 := hd; clear hd; simp only [h5] at HK ⊢; clear h5; obtain ⟨-, c9⟩ := HKE.out W hB; go_wp2; refine HK.out _ _ (Below.refl _ _) ?_; rfl
    · intro vv W K hB hd HK; simp only [confRules] at HK; clear hd; go_wp2; refine HK.out _ _ (Below.refl _ _) ?_; rfl
    · intro vv W K hB hd HK; simp only [confRules] at hd HK; have h7 := hd; clear hd; simp only [h7] at HK ⊢; clear h7; obtain ⟨-, c9⟩ := HKF.out W hB; go_wp2; refine HK.out _ _ (Below.refl _ _) ?_; rfl
    · intro vv W K hB hd HK; simp only [confRules] at HK; clear hd; go_wp2; refine HK.out _ _ (Below.refl _ _) ?_; rfl
    · intro vv W K hB hd HK; simp only [confRules] at HK; clear hd; go_wp2; refine HK.out _ _ (Below.refl _ _) ?_; rfl
    · intro vv W K hB hd HK; simp only [confRules] at hd HK; have h10 := hd; clear hd; simp only [h10] at HK ⊢; clear h10; go_wp2; refine HK.out _ _ (Below.refl _ _) ?_; rfl
    · intro vv W K hB hd HK; simp only [confRules] at hd HK; have h11 := hd; clear hd; simp only [h11] at HK ⊢; clear h11; go_wp2_with (refine (HSM.out W hB).mono ?_; rintro e w9 ⟨rfl, hB9⟩); refine HK.out _ _ hB9 ?_; rfl
    · intro vv W K hB hd HK; simp only [confRules] at hd HK; have h12 := hd; clear hd; simp only [h12] at HK ⊢; clear h12; go_wp2; refine HK.out _ _ (Below.refl _ _) ?_; rfl
    · intro vv W K hB hd HK; simp only [confRules] at hd HK; obtain ⟨h4, h6, h8, h9, h13⟩ := hd; simp only [h4, h6, h8, h9, h13] at HK ⊢; clear h4 h6 h8 h9 h13; refine wpList_build_on (by rfl) 55 _ rfl #[(0, .int .i64 1), (1, .int .i64 zn), (2, .int .i64 mt), (3, .int .i64 fo), (4, .int .i64 seq), (5, .int .i64 sm)] (by simp [Act.eval, Act.put]) BX HBU.out ?_; refine HK.out _ _ (Below.refl _ _) ?_; rfl
    · intro vv W K hB hd HK; simp only [confRules] at hd HK; obtain ⟨h0, h2, _, h1, _, h3, h4, h5, h6, h7, h8, h9, h10, h11, h12, h13, h14⟩ := hd; simp only [h0, h2, h1, h3, h4, h5, h6, h7, h8, h9, h10, h11, h12, h13, h14] at HK ⊢; clear h0 h2 h1 h3 h4 h5 h6 h7 h8 h9 h10 h11 h12 h13 h14; go_wp2; refine HK.out _ _ (Below.refl _ _) ?_; rfl
  case rahend =>
  intro vv W hB hf; have e14 := hf 14 (by decide); have e15 := hf 15 (by decide); simp only [endRules] at e14 e15; simp only [e14, e15, dropRules]; clear hf e14 e15; have HBW := Lib.hid (HBB2.out.trans (hB.mono HBB2.out.size)); have HP3 := Lib.hid (HP2.out.below hB); have HO3 := Lib.hid (HO2.out.below hB); have hsz : BX.size = 6 := by rw [← HBX.out]; rfl
  have HTH : Hid (W.there gl (k * 6) BX.size) := Lib.hid (by rw [hsz]; exact OwnM.thereAt HP3.out (by rw [HN.out.1]; exact hkl)); have HIX : Hid ((Try.prog.info? 55).map (·.size) = some BX.size) := Lib.hid (by rw [hsz]; exact (zero_of_info Try.infoReZ).2); have HOX : Hid (BX.all (·.oneCell') = true) := Lib.hid (by rw [← HBX.out]; exact BEC_one _); obtain ⟨W5, hW5⟩ : ∃ W5, W.setCells gl (k * 6) BX.toList = W5 := ⟨_, rfl⟩; have ho5 : Only [gl] W W5 := by rw [← hW5]; exact Only.of_setCells gl _ _ _
  have hzW := hB.size; have HP5 : Hid (OwnM W5 55 6 BEC (fun _ => True) W0.heap.size (.slice (some ⟨gl, 0, none⟩) es.length capL) (es.set k (beOf seq ⟨⟨e, f.zone, f.off⟩, b⟩))) := Lib.hid (by rw [← hW5, ← HBX.out]; exact OwnM.setAt kinR HP3.out (by rw [HN.out.1]; exact hkl) trivial); have HO5 := Lib.hid (HO3.out.only ho5 (fun j hj => by simp [Value.ownBlock] at hj; simp; omega)); have hbw5 : Below W0.heap.size W0 W5 := HBW.out.trans (ho5.below (by simp; omega) HBW.out.size); have HBW5 := Lib.hid hbw5; have z5 := hbw5.size; have H55 := Lib.hid ((hbw5.block w.heap.size (by omega)).trans H5.out); have H75 := Lib.hid ((hbw5.block b7 (by omega)).trans H7.out); have H105 := Lib.hid ((hbw5.block b10 (by omega)).trans H10.out); have HW5 := Lib.hid hW5; clear hW5 ho5 hB hbw5 hsz; go_upto_region 6 with (refine wpList_store_mid rfl 55 _ _ rfl gl (k * 6) BX rfl rfl HTH.out HIX.out HOX.out ?_; rw [HW5.out]); have x3 := (HEC.out W5 b7 H75.out).1; obtain ⟨c9, f9⟩ := (HO5.out.thereAt (k := k) (by rw [HN.out.2]; exact hkl)) 0 (by omega); rw [Nat.mul_one, Nat.add_zero] at c9 f9; obtain ⟨u9, c9⟩ := Option.isSome_iff_exists.1 c9; obtain ⟨W6, hW6⟩ : ∃ W6, W5.setCell ⟨gs, k, none⟩ (.int .i64 0) = W6 := ⟨_, rfl⟩; have ho6 : Only [gs] W5 W6 := by rw [← hW6]; exact (Only.refl _ _).setCell (.inl (by simp)) _
  have HO6 : Hid (OwnM W6 3 1 iC (fun _ => True) w1.heap.size (.slice (some ⟨gs, 0, none⟩) sg.length capS) (sg.set k 0)) := Lib.hid (by rw [← hW6]; exact OwnM.setInt HO5.out (by rw [HN.out.2]; exact hkl) 0); have hne : gl ≠ gs := by omega
  have HP6 := Lib.hid (HP5.out.only ho6 (fun j hj => by simp [Value.ownBlock] at hj; simp; omega)); have hbw6 : Below W0.heap.size W0 W6 := HBW5.out.trans (ho6.below (by simp; omega) HBW5.out.size); have HBW6 := Lib.hid hbw6; have H56 := Lib.hid ((hbw6.block w.heap.size (by omega)).trans H5.out); have H76 := Lib.hid ((hbw6.block b7 (by omega)).trans H7.out); have H106 := Lib.hid ((hbw6.block b10 (by omega)).trans H10.out); have z6 := hbw6.size; have HW6 := Lib.hid hW6; clear hW6 ho6 hbw6; go_upto_region 7 with (fail); rw [HW6.out]; clear x3 c9 f9; have key : ∀ (W7 : World) (sg' : List Int), sg'.length = sg.length → OwnM W7 3 1 iC (fun _ => True) w1.heap.size (.slice (some ⟨gs, 0, none⟩) sg.length capS) sg' → OwnM W7 55 6 BEC (fun _ => True) W0.heap.size (.slice (some ⟨gl, 0, none⟩) es.length capL) (es.set k (beOf seq ⟨⟨e, f.zone, f.off⟩, b⟩)) → Below W0.heap.size W0 W7 →
      ∃ X Y Z, (W7.setCell ⟨w.heap.size, 0, none⟩ (.slice (some ⟨gl, 0, none⟩) n capL)) = X ∧ (X.setCell ⟨w.heap.size, 3, none⟩ (.slice (some ⟨gs, 0, none⟩) n capS)) = Y ∧ Y.setRow b10 (rrC (.slice (some ⟨gl, 0, none⟩) n capL) next ap (.slice (some ⟨gs, 0, none⟩) n capS)) = Z ∧
      ((∃ u, W7.cell? ⟨w.heap.size, 0, none⟩ = some u) ∧ W7.frozen? ⟨w.heap.size, 0, none⟩ = false) ∧ ((∃ u, X.cell? ⟨w.heap.size, 3, none⟩ = some u) ∧ X.frozen? ⟨w.heap.size, 3, none⟩ = false) ∧
      Hid (Y.heap[w.heap.size]? = some (.cells (rrC (.slice (some ⟨gl, 0, none⟩) n capL) next ap (.slice (some ⟨gs, 0, none⟩) n capS)) 45 (0, 0))) ∧ Hid (Y.heap[b10]? = some (.cells RRZ 45 (0, 0))) ∧
      Hid (Z.heap[b10]? = some (.cells (rrC (.slice (some ⟨gl, 0, none⟩) n capL) next ap (.slice (some ⟨gs, 0, none⟩) n capS)) 45 (0, 0))) ∧
      Hid (OwnM Z 55 6 BEC (fun _ => True) w.heap.size (.slice (some ⟨gl, 0, none⟩) n capL) (es.set k (beOf seq ⟨⟨e, f.zone, f.off⟩, b⟩)) ∧ OwnM Z 3 1 iC (fun _ => True) w.heap.size (.slice (some ⟨gs, 0, none⟩) n capS) sg' ∧ Below w.heap.size w Z) := by
    intro W7 sg' hs' ho hp hbw; have z7 := hbw.size; have h57 := (hbw.block w.heap.size (by omega)).trans H5.out; rw [← HCR.out] at h57; have hX := rr_setL h57 (.slice (some ⟨gl, 0, none⟩) n capL); have hoX : Only [w.heap.size, b10] W7 (W7.setCell ⟨w.heap.size, 0, none⟩ (.slice (some ⟨gl, 0, none⟩) n capL)) := (Only.refl _ _).setCell (.inl (by simp)) _; have hY := rr_setS hX (.slice (some ⟨gs, 0, none⟩) n capS); have hoY := hoX.setCell (p := ⟨w.heap.size, 3, none⟩) (.inl (by simp)) (.slice (some ⟨gs, 0, none⟩) n capS); have h107 : ∀ W, Only [w.heap.size] W7 W → W.heap[b10]? = some (.cells RRZ 45 (0, 0)) := fun W hO => hO.get ((hbw.block b10 (by omega)).trans H10.out) (by simp; omega); have hYb := h107 _ (((Only.refl [w.heap.size] W7).setCell (p := ⟨w.heap.size, 0, none⟩) (.inl (by simp)) (.slice (some ⟨gl, 0, none⟩) n capL)).setCell (p := ⟨w.heap.size, 3, none⟩) (.inl (by simp)) (.slice (some ⟨gs, 0, none⟩) n capS)); have hoZ : Only [w.heap.size, b10] W7 (((W7.setCell ⟨w.heap.size, 0, none⟩ (.slice (some ⟨gl, 0, none⟩) n capL)).setCell ⟨w.heap.size, 3, none⟩ (.slice (some ⟨gs, 0, none⟩) n capS)).setRow b10 (rrC (.slice (some ⟨gl, 0, none⟩) n capL) next ap (.slice (some ⟨gs, 0, none⟩) n capS))) := hoY.trans ((only_set1 _ b10 _).mono (by simp)); refine ⟨_, _, _, rfl, rfl, rfl, ⟨⟨_, (rr_cells h57).1⟩, frozen_of_row _ _ _ _ _ h57⟩, ⟨⟨_, (rr_cells hX).2.2.2⟩, frozen_of_row _ _ _ _ _ hX⟩, Lib.hid hY, Lib.hid hYb, Lib.hid (setRow_heap _ _ _ _ _ _ hYb), Lib.hid ⟨?_, ?_, ?_⟩⟩
    · rw [HN.out.1] at hp; exact (hp.only hoZ (fun j hj => by simp [Value.ownBlock] at hj; simp; omega)).mono (by omega)
    · rw [HN.out.2] at ho; exact (ho.only hoZ (fun j hj => by simp [Value.ownBlock] at hj; simp; omega)).mono (by omega)
    · exact (HB0.out.trans (hbw.mono (by omega))).trans (hoZ.below (by simp; omega) (by omega))
  have HKEY := Lib.hid key; clear key; cases b
  · obtain ⟨X, Y, Z, e1, e2, e3, ⟨⟨u1, q1⟩, q2⟩, ⟨⟨u2, q3⟩, q4⟩, HY, HYB, HZ, HEND⟩ := HKEY.out W6 (sg.set k 0) (by simp) HO6.out HP6.out HBW6.out; have HE1 := Lib.hid e1; have HE2 := Lib.hid e2; have HE3 := Lib.hid e3; clear e1 e2 e3; go_upto_region 10 with (fail); rw [HE1.out]; go_upto_region 11 with (fail); rw [HE2.out]; clear q1 q2 q3 q4; go_wp2_with (first | (refine wpList_load_row rfl 45 _ rfl w.heap.size rfl 45 _ _ _ HY.out Try.underlying45 rfl (rr_size _ _ _ _) ?_) | (refine wpList_store_row rfl 45 _ _ rfl b10 _ rfl rfl 45 RRZ HYB.out (rr_size _ _ _ _) rfl (rr_one _ _ _ _ _ _ _ _) ?_; rw [HE3.out])); refine bodyPost_ret (res_row rfl _ _ b10 45 _ _ _ rfl HZ.out Try.underlying45 rfl (rr_size _ _ _ _)) rfl ?_; exact ⟨_, _, rfl, HEND.out.1, HEND.out.2.1, HEND.out.2.2⟩
  · have hl6 : (sg.set k 0).length = sg.length := by simp
    have ho6' := HO6.out; rw [← hl6] at ho6'; have x3 := (HEC.out W6 b7 H76.out).1; obtain ⟨c9, f9⟩ := (ho6'.thereAt (k := k) (by rw [hl6, HN.out.2]; exact hkl)) 0 (by omega); rw [Nat.mul_one, Nat.add_zero] at c9 f9; obtain ⟨u9, c9⟩ := Option.isSome_iff_exists.1 c9; have ho7 := OwnM.setInt ho6' (by rw [hl6, HN.out.2]; exact hkl) 1; rw [List.set_set, hl6] at ho7; obtain ⟨W7, hW7⟩ : ∃ W7, W6.setCell ⟨gs, k, none⟩ (.int .i64 1) = W7 := ⟨_, rfl⟩; have hO7 : Only [gs] W6 W7 := by rw [← hW7]; exact (Only.refl _ _).setCell (.inl (by simp)) _
    rw [hW7] at ho7; have hbw7 : Below W0.heap.size W0 W7 := HBW6.out.trans (hO7.below (by simp; omega) HBW6.out.size); obtain ⟨X, Y, Z, e1, e2, e3, ⟨⟨u1, q1⟩, q2⟩, ⟨⟨u2, q3⟩, q4⟩, HY, HYB, HZ, HEND⟩ := HKEY.out W7 (sg.set k 1) (by simp) ho7 (HP6.out.only hO7 (fun j hj => by simp [Value.ownBlock] at hj; simp; omega)) hbw7; have HE1 := Lib.hid e1; have HE2 := Lib.hid e2; have HE3 := Lib.hid e3; have HW7 := Lib.hid hW7; clear e1 e2 e3 hW7 ho7 ho6' hO7 hbw7 hl6; go_upto_region 9 with (fail); rw [HW7.out]; clear x3 c9 f9; go_upto_region 10 with (fail); rw [HE1.out]; go_upto_region 11 with (fail); rw [HE2.out]; clear q1 q2 q3 q4; go_wp2_with (first | (refine wpList_load_row rfl 45 _ rfl w.heap.size rfl 45 _ _ _ HY.out Try.underlying45 rfl (rr_size _ _ _ _) ?_) | (refine wpList_store_row rfl 45 _ _ rfl b10 _ rfl rfl 45 RRZ HYB.out (rr_size _ _ _ _) rfl (rr_one _ _ _ _ _ _ _ _) ?_; rw [HE3.out])); refine bodyPost_ret (res_row rfl _ _ b10 45 _ _ _ rfl HZ.out Try.underlying45 rfl (rr_size _ _ _ _)) rfl ?_; exact ⟨_, _, rfl, HEND.out.1, HEND.out.2.1, HEND.out.2.2⟩
end Go.Proofs.Ytoiephmngdecaaa
