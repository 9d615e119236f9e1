/- Proved here: the contract of the entry of a frame (Read); Plain arithmetic of geometries: what may be, how many segments; with more zones or fewer blocks; contracts of the geometry's small numbers: within, small, Parts, Reserve, All; the contract of the geometry's Segments; the contract of the geometry's Right. -/
import Derived.Test.YtoiephmngdecaaaProg
import Derived.Below
import Derived.Deep.RegionHeld3
import Derived.IntWalk
import Derived.Test.YtoiephmngdecaaaKaa
import Derived.Test.YtoiephmngdecaaaKac
import Derived.Test.YtoiephmngdecaaaKae
namespace Go.Proofs.Ytoiephmngdecaaa
open Go.RowKit Go.Rv Frm
set_option linter.unusedVariables false
/-- a frame's entry, and an error -/
def readE (f : Fr) : En.E × Int :=
  if (En.ofE f.kind f.body).2 ≠ 0 then (En.E.zero, (En.ofE f.kind f.body).2)
  else if (frameE (En.ofE f.kind f.body).1 f.zone f.off f.epoch f.seq).2 ≠ 0 then (En.E.zero, (frameE (En.ofE f.kind f.body).1 f.zone f.off f.epoch f.seq).2)
  else ((En.ofE f.kind f.body).1, 0)
theorem ofE_body {kind : Int} {b : List Nat} (hl : b.length = 44) (hb : ∀ c ∈ b, c < 256) : EBody (En.ofE kind b).1 := by
  unfold En.ofE; split
  · exact parse_ebody hl hb
  · exact ⟨by simp [En.E.zero], by simp [En.E.zero]⟩
theorem frame_range {w : World} {g : Nat} {f : Fr} {t : TypeId} (h : w.heap[g]? = some (.cells (FC f) t (0, 0))) : w.rangeAt g 5 (byteCells f.body).toList := fun j v hv => by
  have hj : j < f.body.length := by
    have := (List.getElem?_eq_some_iff.1 hv).1
    rwa [Array.length_toList, size_byteCells] at this
  rw [cell_of_row _ _ _ _ _ _ h, FC_body f j hj, ← hv, Array.getElem?_toList, byteCells_at _ _ hj]
set_option maxRecDepth 100000 in
set_option maxHeartbeats 2000000 in
theorem eread_any (f : Fr) (w : World) (hb : Body f.body) :
    Calls Try.prog 39 #[.agg (FC f)] w (EntPost (readE f) w) := by
  have hz := (zero_of_info Try.infoEntry).1; have hzf := (zero_of_info Try.infoFrame).1; have HIZ := Lib.hid (size_ent (e := En.E.zero) (by simp [En.E.zero])); have hone := EC_one En.E.zero; have HBZ := Lib.hid built_ent0; have HEB := Lib.hid (ofE_body (kind := f.kind) hb.1 hb.2); obtain ⟨r, hr⟩ : ∃ r, En.ofE f.kind f.body = r := ⟨_, rfl⟩; have HOF : Hid (∀ W, Calls Try.prog 58 #[.int .i64 f.kind, .agg (byteCells f.body).toList.toArray] W fun x w' => x = .returned (.tuple #[.agg (EC r.1), .int .i64 r.2]) ∧ Below W.heap.size W w') := Lib.hid (fun W => by rw [Array.toArray_toList, ← hr]; exact eof_any f.kind f.body W hb.1 hb.2); have HRE : Hid (readE f = if r.2 ≠ 0 then (En.E.zero, r.2) else if (frameE r.1 f.zone f.off f.epoch f.seq).2 ≠ 0 then (En.E.zero, (frameE r.1 f.zone f.off f.epoch f.seq).2) else (r.1, 0)) := Lib.hid (by unfold readE; rw [hr]); have hEB := HEB.out; rw [hr] at hEB; have HFR := Lib.hid (fun W => eframe_any r.1 f.zone f.off f.epoch f.seq W hEB); have HIE := Lib.hid (size_ent (e := r.1) hEB.1); have HSZ : Hid ((EC En.E.zero).size = (EC r.1).size) := Lib.hid (by rw [EC_size, EC_size, hEB.1]; rfl); have honeR := EC_one r.1; have HIL : Hid ((Try.prog.info? 57).map (·.size) = some (byteCells f.body).toList.length) := Lib.hid (by rw [Array.length_toList]; exact size_body hb.1); have hF0 := heap_alloc2_old w (.cells (FC f) 68) (.cells (EC En.E.zero) 65); have hR0 := heap_alloc2_new w (.cells (FC f) 68) (.cells (EC En.E.zero) 65); have hB0 : Below w.heap.size w ((w.alloc (.cells (FC f) 68)).alloc (.cells (EC En.E.zero) 65)) := ((Below.refl _ w).alloc (Nat.le_refl _) _).alloc (by simp) _; obtain ⟨c0, c1, c2, c3, c4⟩ := frame_cells hF0; have hmid := frame_range hF0; have HFC := Lib.hid (fun (W : World) (h : W.heap[w.heap.size]? = some (.cells (FC f) 68 (0, 0))) => frame_cells h); obtain ⟨Z, hZ⟩ : ∃ Z, EC En.E.zero = Z := ⟨_, rfl⟩; obtain ⟨C, hC⟩ : ∃ C, FC f = C := ⟨_, rfl⟩; obtain ⟨X, hX⟩ : ∃ X, EC r.1 = X := ⟨_, rfl⟩; obtain ⟨BL, hBL⟩ : ∃ BL, (byteCells f.body).toList = BL := ⟨_, rfl⟩; rw [hZ] at hz hone HIZ HBZ hF0 hR0 hB0 HSZ c0 c1 c2 c3 c4 hmid; rw [hC] at hF0 hR0 hB0 HFC c0 c1 c2 c3 c4 hmid ⊢; rw [hX] at HOF HFR HIE HSZ honeR; rw [hBL] at HOF HIL hmid; have HZ := Lib.hid hZ; have HX := Lib.hid hX; clear hZ hC hX hBL hr hEB HEB hb; unfold FrmPost at HFR; have z0 : w.heap.size + 1 < ((w.alloc (.cells C 68)).alloc (.cells Z 65)).heap.size := by simp
  go_enter Try.func39, Try.ntmps39; go_wp2_with (refine wpList_load_mid_asked (by rfl) 57 _ rfl w.heap.size 5 rfl BL _ hmid Try.underlying57 rfl HIL.out ?_); refine (HOF.out _).mono ?_; rintro x w1 ⟨rfl, hB1⟩; have hF1 := (hB1.block w.heap.size (by omega)).trans hF0; have hS1 := (hB1.block (w.heap.size + 1) z0).trans hR0; have hBw1 := hB0.trans (hB1.mono (by omega)); have z1 : w.heap.size + 1 < w1.heap.size := (Array.getElem?_eq_some_iff.1 hS1).1; obtain ⟨W2, hW2⟩ : ∃ W2, w1.alloc (.cells X 65) = W2 := ⟨_, rfl⟩; have hb2 : Below w1.heap.size w1 W2 := by rw [← hW2]; exact (Below.refl _ _).alloc (Nat.le_refl _) _
  have hG2 : W2.heap[w1.heap.size]? = some (.cells X 65 (0, 0)) := by rw [← hW2]; exact heap_alloc_new w1 _
  have hF2 := (hb2.block w.heap.size (by omega)).trans hF1; have hS2 := (hb2.block (w.heap.size + 1) z1).trans hS1; have hBw2 := hBw1.trans (hb2.mono hBw1.size); have z2 : w1.heap.size < W2.heap.size := (Array.getElem?_eq_some_iff.1 hG2).1; have HW2 := Lib.hid hW2; clear hb2 hW2 hF1 hS1 hBw1 hB1 hF0 hR0 hB0 hmid c0 c1 c2 c3 c4; obtain ⟨r1, r2⟩ := r; by_cases hr2 : r2 = 0
  · subst hr2; obtain ⟨d0, d1, d2, d3, d4⟩ := HFC.out _ hF2; go_upto_region 2 with (refine wpList_store_row rfl 65 _ _ rfl w1.heap.size X rfl rfl 65 Z (heap_alloc_new w1 _) HIE.out HSZ.out honeR ?_; rw [World.setRow_alloc_new, HW2.out]); go_wp2_with (refine wpList_load_row rfl 65 _ rfl w1.heap.size rfl 65 _ _ _ hG2 Try.underlying65 rfl HIE.out ?_); refine (HFR.out _).mono ?_; rintro x w3 ⟨rfl, hB3⟩; have hS3 := (hB3.block (w.heap.size + 1) (by omega)).trans hS2; have hG3 := (hB3.block w1.heap.size z2).trans hG2; have hBw3 := hBw2.trans (hB3.mono hBw2.size); obtain ⟨q, hq⟩ : ∃ q, frameE r1 f.zone f.off f.epoch f.seq = q := ⟨_, rfl⟩; rw [hq] at HRE ⊢; obtain ⟨q1, q2⟩ := q; by_cases hq2 : q2 = 0
    · subst hq2; have HRR : Hid (readE f = (r1, 0)) := Lib.hid (by have := HRE.out; simpa using this); clear hq hB3 HRE; go_wp2_with (first | (refine wpList_load_row rfl 65 _ rfl w1.heap.size rfl 65 _ _ _ hG3 Try.underlying65 rfl HIE.out ?_) | (refine wpList_store_row rfl 65 _ _ rfl (w.heap.size + 1) X rfl rfl 65 Z hS3 HIE.out HSZ.out honeR ?_)); refine bodyPost_ret (results_row_tmp rfl _ _ (w.heap.size + 1) 65 X _ _ rfl (setRow_heap _ _ _ _ _ _ hS3) Try.underlying65 rfl HIE.out) rfl ?_; exact ⟨by rw [HRR.out, HX.out]; rfl, below_setRow hBw3 (by omega) _⟩
    · have HRR : Hid (readE f = (En.E.zero, q2)) := Lib.hid (by have := HRE.out; simpa [hq2] using this); have t1 : (q2 != 0) = true := by simpa using hq2
      clear hq hB3 HRE hq2; go_wp2_with (first | (refine wpList_build_asked (by rfl) 65 _ rfl #[] (by rfl) Z HBZ.out ?_) | (refine wpList_store_row rfl 65 _ _ rfl (w.heap.size + 1) Z rfl rfl 65 Z hS3 HIZ.out rfl hone ?_)); refine bodyPost_ret (results_row_tmp rfl _ _ (w.heap.size + 1) 65 Z _ _ rfl (setRow_heap _ _ _ _ _ _ hS3) Try.underlying65 rfl HIZ.out) rfl ?_; exact ⟨by rw [HRR.out, HZ.out]; rfl, below_setRow hBw3 (by omega) _⟩
  · have HRR : Hid (readE f = (En.E.zero, r2)) := Lib.hid (by have := HRE.out; simpa [hr2] using this); have t1 : (r2 != 0) = true := by simpa using hr2
    clear HRE hr2; go_upto_region 2 with (refine wpList_store_row rfl 65 _ _ rfl w1.heap.size X rfl rfl 65 Z (heap_alloc_new w1 _) HIE.out HSZ.out honeR ?_; rw [World.setRow_alloc_new, HW2.out]); go_wp2_with (first | (refine wpList_build_asked (by rfl) 65 _ rfl #[] (by rfl) Z HBZ.out ?_) | (refine wpList_store_row rfl 65 _ _ rfl (w.heap.size + 1) Z rfl rfl 65 Z hS2 HIZ.out rfl hone ?_)); refine bodyPost_ret (results_row_tmp rfl _ _ (w.heap.size + 1) 65 Z _ _ rfl (setRow_heap _ _ _ _ _ _ hS2) Try.underlying65 rfl HIZ.out) rfl ?_; exact ⟨by rw [HRR.out, HZ.out]; rfl, below_setRow hBw2 (by omega) _⟩
end Go.Proofs.Ytoiephmngdecaaa
namespace Geo
/-- a geometry's numbers -/
structure G where
  d : Int
  z : Int
  s : Int
  b : Int
  p : Int
  o : Int
/-- is it one from a to b? -/
def inB (n a b : Int) : Bool := decide (a ≤ n) && decide (n ≤ b)
theorem inB_iff {n a b : Int} : inB n a b = true ↔ a ≤ n ∧ n ≤ b := by simp [inB]
def Small (g : G) : Prop := (3 ≤ g.d ∧ g.d ≤ 8) ∧ (1 ≤ g.z ∧ g.z ≤ 64) ∧ (4 ≤ g.s ∧ g.s ≤ 64) ∧ (1 ≤ g.b ∧ g.b ≤ 256) ∧ (0 ≤ g.p ∧ g.p ≤ 4) ∧ (4 ≤ g.o ∧ g.o ≤ 64)
def small (g : G) : Bool := inB g.d 3 8 && inB g.z 1 64 && inB g.s 4 64 && inB g.b 1 256 && inB g.p 0 4 && inB g.o 4 64
theorem small_iff (g : G) : small g = true ↔ Small g := by
  simp only [small, Small, Bool.and_eq_true, inB_iff]; constructor
  · rintro ⟨⟨⟨⟨⟨h1, h2⟩, h3⟩, h4⟩, h5⟩, h6⟩; exact ⟨h1, h2, h3, h4, h5, h6⟩
  · rintro ⟨h1, h2, h3, h4, h5, h6⟩; exact ⟨⟨⟨⟨⟨h1, h2⟩, h3⟩, h4⟩, h5⟩, h6⟩
def parts (g : G) : Int := 1 + (g.b + 2 - 1) / 2
def reserve (g : G) : Int := g.d * g.p + 4
def u (g : G) : Int := g.z - g.p - 2
def fewA (g : G) : Int := (g.d - 1) * u g - reserve g + 1
def fewB (g : G) : Int := g.d * u g - 2 * reserve g + 1
def segs (g : G) : Int := min (fewA g) (fewB g) / 2 - 1 - g.d * g.p
def right (g : G) : Bool := small g && (decide (parts g ≤ g.s) && decide (2 * g.b ≤ g.s * segs g))
theorem right_iff (g : G) : right g = true ↔ Small g ∧ parts g ≤ g.s ∧ 2 * g.b ≤ g.s * segs g := by
  simp only [right, Bool.and_eq_true, small_iff, decide_eq_true_eq]
theorem mul_bd {a b x y : Int} (ha : 0 ≤ a) (hx : a ≤ x) (hb : -y ≤ b) (hb' : b ≤ y) : -(x * y) ≤ a * b ∧ a * b ≤ x * y := by
  have hy : 0 ≤ y := by omega
  have h1 : a * y ≤ x * y := Int.mul_le_mul_of_nonneg_right hx hy; have h2 : a * b ≤ a * y := Int.mul_le_mul_of_nonneg_left hb' ha; have h3 : a * (-y) ≤ a * b := Int.mul_le_mul_of_nonneg_left hb ha; rw [Int.mul_neg] at h3; omega
theorem u_bd {g : G} (h : Small g) : -62 ≤ u g ∧ u g ≤ 62 := by
  obtain ⟨h1, h2, h3, h4, h5, h6⟩ := h; unfold u; omega
theorem dp_bd {g : G} (h : Small g) : 0 ≤ g.d * g.p ∧ g.d * g.p ≤ 32 := by
  obtain ⟨h1, h2, h3, h4, h5, h6⟩ := h; have := mul_bd (a := g.d) (b := g.p) (x := 8) (y := 4) (by omega) (by omega) (by omega) (by omega); have := Int.mul_nonneg (a := g.d) (b := g.p) (by omega) (by omega); omega
theorem du_bd {g : G} (h : Small g) : -496 ≤ g.d * u g ∧ g.d * u g ≤ 496 := by
  have hu := u_bd h; obtain ⟨h1, h2, h3, h4, h5, h6⟩ := h; have := mul_bd (a := g.d) (b := u g) (x := 8) (y := 62) (by omega) (by omega) (by omega) (by omega); omega
theorem eu_bd {g : G} (h : Small g) : -434 ≤ (g.d - 1) * u g ∧ (g.d - 1) * u g ≤ 434 := by
  have hu := u_bd h; obtain ⟨h1, h2, h3, h4, h5, h6⟩ := h; have := mul_bd (a := g.d - 1) (b := u g) (x := 7) (y := 62) (by omega) (by omega) (by omega) (by omega); omega
theorem few_bd {g : G} (h : Small g) : -1000 ≤ fewA g ∧ fewA g ≤ 1000 ∧ -1000 ≤ fewB g ∧ fewB g ≤ 1000 := by
  have h1 := dp_bd h; have h2 := du_bd h; have h3 := eu_bd h; unfold fewA fewB reserve; omega
theorem segs_bd {g : G} (h : Small g) : -1000 ≤ segs g ∧ segs g ≤ 1000 := by
  have h1 := dp_bd h; have h2 := few_bd h; unfold segs; omega
theorem ss_bd {g : G} (h : Small g) : -64000 ≤ g.s * segs g ∧ g.s * segs g ≤ 64000 := by
  have hs := segs_bd h; obtain ⟨h1, h2, h3, h4, h5, h6⟩ := h; have := mul_bd (a := g.s) (b := segs g) (x := 64) (y := 1000) (by omega) (by omega) (by omega) (by omega); omega
theorem dz_bd {g : G} (h : Small g) : 3 ≤ g.d * g.z ∧ g.d * g.z ≤ 512 := by
  obtain ⟨h1, h2, h3, h4, h5, h6⟩ := h; have h7 := mul_bd (a := g.d) (b := g.z) (x := 8) (y := 64) (by omega) (by omega) (by omega) (by omega); have h8 : g.d * 1 ≤ g.d * g.z := Int.mul_le_mul_of_nonneg_left (by omega) (by omega); omega
theorem mul_mono {a b c d : Int} (ha : 0 ≤ a) (h : b ≤ d) (hc : a = c) : a * b ≤ c * d := by
  subst hc; exact Int.mul_le_mul_of_nonneg_left h ha
/-- more zones, fewer blocks -/
theorem more {g : G} (h : right g = true) (z b : Int) (hz : g.z ≤ z) (hz' : z ≤ 64) (hb : 1 ≤ b) (hb' : b ≤ g.b) : right { g with z := z, b := b } = true := by
  rw [right_iff] at h ⊢; obtain ⟨hs, hp, hg⟩ := h; have hs' := hs; obtain ⟨h1, h2, h3, h4, h5, h6⟩ := hs; have hS : Small { g with z := z, b := b } := ⟨h1, ⟨by show 1 ≤ z; omega, hz'⟩, h3, ⟨hb, by show b ≤ 256; omega⟩, h5, h6⟩; refine ⟨hS, ?_, ?_⟩
  · show 1 + (b + 2 - 1) / 2 ≤ g.s; unfold parts at hp; omega
  · show 2 * b ≤ g.s * segs { g with z := z, b := b }
    have e : segs g ≤ segs { g with z := z, b := b } := by
      have e1 : (g.d - 1) * u g ≤ (g.d - 1) * u { g with z := z, b := b } := mul_mono (by omega) (by unfold u; show g.z - g.p - 2 ≤ z - g.p - 2; omega) rfl; have e2 : g.d * u g ≤ g.d * u { g with z := z, b := b } := mul_mono (by omega) (by unfold u; show g.z - g.p - 2 ≤ z - g.p - 2; omega) rfl
      have e3 : fewA g ≤ fewA { g with z := z, b := b } := by
        unfold fewA reserve; show (g.d - 1) * u g - (g.d * g.p + 4) + 1 ≤ (g.d - 1) * u { g with z := z, b := b } - (g.d * g.p + 4) + 1; omega
      have e4 : fewB g ≤ fewB { g with z := z, b := b } := by
        unfold fewB reserve; show g.d * u g - 2 * (g.d * g.p + 4) + 1 ≤ g.d * u { g with z := z, b := b } - 2 * (g.d * g.p + 4) + 1; omega
      unfold segs; show min (fewA g) (fewB g) / 2 - 1 - g.d * g.p ≤ min (fewA { g with z := z, b := b }) (fewB { g with z := z, b := b }) / 2 - 1 - g.d * g.p; omega
    have e5 : g.s * segs g ≤ g.s * segs { g with z := z, b := b } := mul_mono (by omega) e rfl; omega
end Geo
namespace Go.Proofs.Ytoiephmngdecaaa
open Go.RowKit Go.Rv
set_option linter.unusedVariables false
/-- a geometry's cells -/
def GC (g : Geo.G) : Array Value := #[.int .i64 g.d, .int .i64 g.z, .int .i64 g.s, .int .i64 g.b, .int .i64 g.p, .int .i64 g.o]
theorem GC_one (g : Geo.G) : (GC g).all (·.oneCell') = true := by simp [GC, Value.oneCell']
theorem GC_size (g : Geo.G) : (GC g).size = 6 := rfl
theorem Try.infoGeom : (Try.prog.info? 23).map (·.size) = some 6 := by kernel_rfl
theorem geo_cells {w : World} {b : Nat} {g : Geo.G} {t : TypeId} (h : w.heap[b]? = some (.cells (GC g) t (0, 0))) : w.cell? ⟨b, 0, none⟩ = some (.int .i64 g.d) ∧ w.cell? ⟨b, 1, none⟩ = some (.int .i64 g.z) ∧ w.cell? ⟨b, 2, none⟩ = some (.int .i64 g.s) ∧ w.cell? ⟨b, 3, none⟩ = some (.int .i64 g.b) ∧ w.cell? ⟨b, 4, none⟩ = some (.int .i64 g.p) ∧ w.cell? ⟨b, 5, none⟩ = some (.int .i64 g.o) :=
  ⟨(cell_of_row _ _ _ _ _ _ h).trans rfl, (cell_of_row _ _ _ _ _ _ h).trans rfl, (cell_of_row _ _ _ _ _ _ h).trans rfl, (cell_of_row _ _ _ _ _ _ h).trans rfl, (cell_of_row _ _ _ _ _ _ h).trans rfl, (cell_of_row _ _ _ _ _ _ h).trans rfl⟩
set_option maxRecDepth 100000 in
set_option maxHeartbeats 400000 in
theorem gwithin_any (n a b : Int) (w : World) :
    Calls Try.prog 59 #[.int .i64 n, .int .i64 a, .int .i64 b] w fun e w' => e = .returned (.bool (Geo.inB n a b)) ∧ w = w' := by
  unfold Geo.inB; cases h1 : decide (a ≤ n)
  · go_enter Try.func59, Try.ntmps59; go_wp2; go_ret; exact ⟨rfl, rfl⟩
  · go_enter Try.func59, Try.ntmps59; go_wp2; go_ret; exact ⟨rfl, rfl⟩
set_option maxRecDepth 100000 in
set_option maxHeartbeats 2000000 in
theorem gsmall_any (g : Geo.G) (w : World) :
    Calls Try.prog 62 #[.agg (GC g)] w fun e w' => e = .returned (.bool (Geo.small g)) ∧ Below w.heap.size w w' := by
  have hg := heap_alloc_new w (.cells (GC g) 23); obtain ⟨c0, c1, c2, c3, c4, c5⟩ := geo_cells hg; have hB : Below w.heap.size w (w.alloc (.cells (GC g) 23)) := (Below.refl _ _).alloc (Nat.le_refl _) _; have HR := Lib.hid (show Geo.small g = _ from rfl); unfold Geo.small at HR; have H0 := Lib.hid (fun W => gwithin_any g.d 3 8 W); have H1 := Lib.hid (fun W => gwithin_any g.z 1 64 W); have H2 := Lib.hid (fun W => gwithin_any g.s 4 64 W); have H3 := Lib.hid (fun W => gwithin_any g.b 1 256 W); have H4 := Lib.hid (fun W => gwithin_any g.p 0 4 W); have H5 := Lib.hid (fun W => gwithin_any g.o 4 64 W); have HRR : Hid (Geo.small g = (Geo.inB g.d 3 8 && Geo.inB g.z 1 64 && Geo.inB g.s 4 64 && Geo.inB g.b 1 256 && Geo.inB g.p 0 4 && Geo.inB g.o 4 64)) := Lib.hid rfl; clear HR; generalize Geo.inB g.d 3 8 = b0 at *; generalize Geo.inB g.z 1 64 = b1 at *; generalize Geo.inB g.s 4 64 = b2 at *; generalize Geo.inB g.b 1 256 = b3 at *; generalize Geo.inB g.p 0 4 = b4 at *; generalize Geo.inB g.o 4 64 = b5 at *; generalize GC g = C at *; clear hg; go_enter Try.func62, Try.ntmps62; go_wp2_with fail; refine (H0.out _).mono ?_; rintro e w' ⟨rfl, rfl⟩; cases b0
  case false =>
    go_wp2; go_ret; exact ⟨by rw [HRR.out]; rfl, hB⟩
  go_wp2_with fail; refine (H1.out _).mono ?_; rintro e w' ⟨rfl, rfl⟩; cases b1
  case false =>
    go_wp2; go_ret; exact ⟨by rw [HRR.out]; rfl, hB⟩
  go_wp2_with fail; refine (H2.out _).mono ?_; rintro e w' ⟨rfl, rfl⟩; cases b2
  case false =>
    go_wp2; go_ret; exact ⟨by rw [HRR.out]; rfl, hB⟩
  go_wp2_with fail; refine (H3.out _).mono ?_; rintro e w' ⟨rfl, rfl⟩; cases b3
  case false =>
    go_wp2; go_ret; exact ⟨by rw [HRR.out]; rfl, hB⟩
  go_wp2_with fail; refine (H4.out _).mono ?_; rintro e w' ⟨rfl, rfl⟩; cases b4
  case false =>
    go_wp2; go_ret; exact ⟨by rw [HRR.out]; rfl, hB⟩
  go_wp2_with fail; refine (H5.out _).mono ?_; rintro e w' ⟨rfl, rfl⟩; go_wp2; go_ret; exact ⟨by rw [HRR.out]; rfl, hB⟩
set_option maxRecDepth 100000 in
set_option maxHeartbeats 1000000 in
theorem gparts_any (g : Geo.G) (w : World) (h : Geo.Small g) :
    Calls Try.prog 63 #[.agg (GC g)] w fun e w' => e = .returned (.int .i64 (Geo.parts g)) ∧ Below w.heap.size w w' := by
  have hg := heap_alloc_new w (.cells (GC g) 23); obtain ⟨c0, c1, c2, c3, c4, c5⟩ := geo_cells hg; have hB : Below w.heap.size w (w.alloc (.cells (GC g) 23)) := (Below.refl _ _).alloc (Nat.le_refl _) _; obtain ⟨-, -, -, hb, -, -⟩ := h; have HP : Hid (Geo.parts g = 1 + (g.b + 2 - 1) / 2) := Lib.hid rfl; generalize GC g = C at *; clear hg; go_enter Try.func63, Try.ntmps63; go_wp2; go_ret; exact ⟨rfl, hB⟩
set_option maxRecDepth 100000 in
set_option maxHeartbeats 1000000 in
theorem greserve_any (g : Geo.G) (w : World) (h : Geo.Small g) :
    Calls Try.prog 74 #[.agg (GC g)] w fun e w' => e = .returned (.int .i64 (Geo.reserve g)) ∧ Below w.heap.size w w' := by
  have hg := heap_alloc_new w (.cells (GC g) 23); obtain ⟨c0, c1, c2, c3, c4, c5⟩ := geo_cells hg; have hB : Below w.heap.size w (w.alloc (.cells (GC g) 23)) := (Below.refl _ _).alloc (Nat.le_refl _) _; have hd := Geo.dp_bd h; generalize GC g = C at *; clear hg; go_enter Try.func74, Try.ntmps74; go_wp2; go_ret; exact ⟨rfl, hB⟩
set_option maxRecDepth 100000 in
set_option maxHeartbeats 1000000 in
theorem gall_any (g : Geo.G) (w : World) (h : Geo.Small g) :
    Calls Try.prog 46 #[.agg (GC g)] w fun e w' => e = .returned (.int .i64 (g.d * g.z)) ∧ Below w.heap.size w w' := by
  have hg := heap_alloc_new w (.cells (GC g) 23); obtain ⟨c0, c1, c2, c3, c4, c5⟩ := geo_cells hg; have hB : Below w.heap.size w (w.alloc (.cells (GC g) 23)) := (Below.refl _ _).alloc (Nat.le_refl _) _; have hd := Geo.dz_bd h; generalize GC g = C at *; clear hg; go_enter Try.func46, Try.ntmps46; go_wp2; go_ret; exact ⟨rfl, hB⟩
end Go.Proofs.Ytoiephmngdecaaa
namespace Go.Proofs.Ytoiephmngdecaaa
open Go.RowKit Go.Rv
set_option linter.unusedVariables false
theorem ret_i64 {a b : Int} (h : a = b) : Ending.returned (.int .i64 a) = .returned (.int .i64 b) := by rw [h]
set_option maxRecDepth 100000 in
set_option maxHeartbeats 2000000 in
theorem gsegs_any (g : Geo.G) (w : World) (h : Geo.Small g) :
    Calls Try.prog 64 #[.agg (GC g)] w fun e w' => e = .returned (.int .i64 (Geo.segs g)) ∧ Below w.heap.size w w' := by
  have hg := heap_alloc_new w (.cells (GC g) 23); obtain ⟨c0, c1, c2, c3, c4, c5⟩ := geo_cells hg; have hB : Below w.heap.size w (w.alloc (.cells (GC g) 23)) := (Below.refl _ _).alloc (Nat.le_refl _) _; have HRES := Lib.hid (fun W => greserve_any g W h); have hu := Geo.u_bd h; have hdp := Geo.dp_bd h; have hdu := Geo.du_bd h; have heu := Geo.eu_bd h; have hfew := Geo.few_bd h; have hsg := Geo.segs_bd h; obtain ⟨⟨h1, h1'⟩, ⟨h2, h2'⟩, ⟨h3, h3'⟩, ⟨h4, h4'⟩, ⟨h5, h5'⟩, ⟨h6, h6'⟩⟩ := h; have HS : Hid (Geo.segs g = min (Geo.fewA g) (Geo.fewB g) / 2 - 1 - g.d * g.p) := Lib.hid rfl; have z0 : (w.alloc (.cells (GC g) 23)).heap.size = w.heap.size + 1 := by simp
  go_enter Try.func64, Try.ntmps64; go_wp2_with fail; have q1 : IntKind.i64.wrap (g.z - g.p) = g.z - g.p := IntWalk.i64_in _ (by omega); have q2 : IntKind.i64.wrap (g.z - g.p - 2) = g.z - g.p - 2 := IntWalk.i64_in _ (by omega); obtain ⟨W0, hW0⟩ : ∃ W0, w.alloc (.cells (GC g) 23) = W0 := ⟨_, rfl⟩; rw [hW0] at c0 c1 c2 c3 c4 c5 hB z0 ⊢; have HW0 := Lib.hid hW0; clear hW0
  go_region_held3 (fun W => W.cell? ⟨w.heap.size, 0, none⟩ = some (.int .i64 g.d) ∧ W.cell? ⟨w.heap.size, 1, none⟩ = some (.int .i64 g.z) ∧ W.cell? ⟨w.heap.size, 2, none⟩ = some (.int .i64 g.s) ∧ W.cell? ⟨w.heap.size, 3, none⟩ = some (.int .i64 g.b) ∧ W.cell? ⟨w.heap.size, 4, none⟩ = some (.int .i64 g.p) ∧ W.cell? ⟨w.heap.size, 5, none⟩ = some (.int .i64 g.o)) (first | (refine ⟨?_, ?_, ?_, ?_, ?_, ?_⟩ <;> assumption) | go_keep) (first | (go_at_call 74; refine (HRES.out _).mono ?_; rintro e w1 ⟨rfl, hB1⟩; have k0 := (hB1.cell (p := ⟨w.heap.size, 0, none⟩) (by simp; omega)).trans c0; have k1 := (hB1.cell (p := ⟨w.heap.size, 1, none⟩) (by simp; omega)).trans c1; have k2 := (hB1.cell (p := ⟨w.heap.size, 2, none⟩) (by simp; omega)).trans c2; have k3 := (hB1.cell (p := ⟨w.heap.size, 3, none⟩) (by simp; omega)).trans c3; have k4 := (hB1.cell (p := ⟨w.heap.size, 4, none⟩) (by simp; omega)).trans c4; have k5 := (hB1.cell (p := ⟨w.heap.size, 5, none⟩) (by simp; omega)).trans c5; have hC1 : Below W0.heap.size W0 w1 := (Below.refl W0.heap.size W0).drew.trans hB1))
  clear q1 q2 HRES hB1 c0 c1 c2 c3 c4 c5; obtain ⟨uu, huu⟩ : ∃ uu, g.z - g.p - 2 = uu := ⟨_, rfl⟩; obtain ⟨rr, hrr⟩ : ∃ rr, Geo.reserve g = rr := ⟨_, rfl⟩; have e1 : Geo.fewA g = (g.d - 1) * uu - rr + 1 := by rw [← huu, ← hrr]; rfl
  have e2 : Geo.fewB g = g.d * uu - 2 * rr + 1 := by rw [← huu, ← hrr]; rfl
  have e3 : Geo.u g = uu := huu; have e4 : rr = g.d * g.p + 4 := hrr.symm; rw [e3] at hu hdu heu; rw [e1, e2] at hfew; have HS2 : Hid (Geo.segs g = min ((g.d - 1) * uu - rr + 1) (g.d * uu - 2 * rr + 1) / 2 - 1 - g.d * g.p) := Lib.hid (by rw [HS.out, e1, e2]); have hr1 : 4 ≤ rr := by omega
  have hr2 : rr ≤ 36 := by omega
  rw [hrr, huu]; clear huu hrr e1 e2 e3 e4 HS HW0; go_wp2
  all_goals
    go_ret; exact ⟨ret_i64 (by rw [HS2.out]; omega), hB.trans (hC1.mono hB.size)⟩
end Go.Proofs.Ytoiephmngdecaaa
namespace Go.Proofs.Ytoiephmngdecaaa
open Go.RowKit Go.Rv
set_option linter.unusedVariables false
theorem geo_keep {W0 W : World} {b : Nat} {g : Geo.G} (hB : Below W0.heap.size W0 W) (hz : b < W0.heap.size) (h : W0.cell? ⟨b, 0, none⟩ = some (.int .i64 g.d) ∧ W0.cell? ⟨b, 1, none⟩ = some (.int .i64 g.z) ∧ W0.cell? ⟨b, 2, none⟩ = some (.int .i64 g.s) ∧ W0.cell? ⟨b, 3, none⟩ = some (.int .i64 g.b) ∧ W0.cell? ⟨b, 4, none⟩ = some (.int .i64 g.p) ∧ W0.cell? ⟨b, 5, none⟩ = some (.int .i64 g.o)) :
    W.cell? ⟨b, 0, none⟩ = some (.int .i64 g.d) ∧ W.cell? ⟨b, 1, none⟩ = some (.int .i64 g.z) ∧ W.cell? ⟨b, 2, none⟩ = some (.int .i64 g.s) ∧ W.cell? ⟨b, 3, none⟩ = some (.int .i64 g.b) ∧ W.cell? ⟨b, 4, none⟩ = some (.int .i64 g.p) ∧ W.cell? ⟨b, 5, none⟩ = some (.int .i64 g.o) := by
  obtain ⟨h0, h1, h2, h3, h4, h5⟩ := h; exact ⟨(hB.cell (p := ⟨b, 0, none⟩) hz).trans h0, (hB.cell (p := ⟨b, 1, none⟩) hz).trans h1, (hB.cell (p := ⟨b, 2, none⟩) hz).trans h2, (hB.cell (p := ⟨b, 3, none⟩) hz).trans h3, (hB.cell (p := ⟨b, 4, none⟩) hz).trans h4, (hB.cell (p := ⟨b, 5, none⟩) hz).trans h5⟩
set_option maxRecDepth 100000 in
set_option maxHeartbeats 4000000 in
theorem gright_core (g : Geo.G) (sm : Bool) (pa se : Int) (r : Bool) (w : World)
    (HSM' : ∀ W, Calls Try.prog 62 #[.agg (GC g)] W fun e w' => e = .returned (.bool sm) ∧ Below W.heap.size W w')
    (HPA' : sm = true → ∀ W, Calls Try.prog 63 #[.agg (GC g)] W fun e w' => e = .returned (.int .i64 pa) ∧ Below W.heap.size W w')
    (HSE' : sm = true → ∀ W, Calls Try.prog 64 #[.agg (GC g)] W fun e w' => e = .returned (.int .i64 se) ∧ Below W.heap.size W w')
    (hr : (sm = false ∧ r = false) ∨ (sm = true ∧ decide (pa ≤ g.s) = false ∧ r = false) ∨ (sm = true ∧ decide (pa ≤ g.s) = true ∧ IntKind.i64.wrap (2 * g.b) = 2 * g.b ∧ IntKind.i64.wrap (g.s * se) = g.s * se ∧ r = decide (2 * g.b ≤ g.s * se))) :
    Calls Try.prog 45 #[.agg (GC g)] w fun e w' => e = .returned (.bool r) ∧ Below w.heap.size w w' := by
  have hg := heap_alloc_new w (.cells (GC g) 23); obtain ⟨c0, c1, c2, c3, c4, c5⟩ := geo_cells hg; have hB : Below w.heap.size w (w.alloc (.cells (GC g) 23)) := (Below.refl _ _).alloc (Nat.le_refl _) _; have HSM := Lib.hid HSM'; have HPA := Lib.hid HPA'; have HSE := Lib.hid HSE'; clear HSM' HPA' HSE'; have HR := Lib.hid hr; have z0 : w.heap.size < (w.alloc (.cells (GC g) 23)).heap.size := by simp
  clear hr hg; go_enter Try.func45, Try.ntmps45; go_wp2_with fail; obtain ⟨W0, hW0⟩ : ∃ W0, w.alloc (.cells (GC g) 23) = W0 := ⟨_, rfl⟩; rw [hW0] at c0 c1 c2 c3 c4 c5 hB z0 ⊢; clear hW0; have HC : Hid (W0.cell? ⟨w.heap.size, 0, none⟩ = some (.int .i64 g.d) ∧ W0.cell? ⟨w.heap.size, 1, none⟩ = some (.int .i64 g.z) ∧ W0.cell? ⟨w.heap.size, 2, none⟩ = some (.int .i64 g.s) ∧ W0.cell? ⟨w.heap.size, 3, none⟩ = some (.int .i64 g.b) ∧ W0.cell? ⟨w.heap.size, 4, none⟩ = some (.int .i64 g.p) ∧ W0.cell? ⟨w.heap.size, 5, none⟩ = some (.int .i64 g.o)) := Lib.hid ⟨c0, c1, c2, c3, c4, c5⟩; clear c0 c1 c2 c3 c4 c5; have hB0 := hB; clear hB; rcases HR.out with ⟨rfl, rfl⟩ | ⟨rfl, t1, rfl⟩ | ⟨rfl, t1, t2, t3, HF⟩
  · clear HR HPA HSE; refine wp_region_conf 20 [Fact.eq ?rax0, Fact.eq ?rax1, Fact.eq ?rax2, Fact.eq undef, Fact.eq undef, Fact.eq undef, Fact.eq undef, Fact.eq undef, Fact.eq ?rax8, Fact.eq ?rax9, Fact.eq undef, Fact.eq undef, Fact.eq undef, Fact.eq undef, Fact.eq undef, Fact.eq undef, Fact.eq undef, Fact.eq undef, Fact.eq undef, Fact.eq ?rax19] ?raA (by kernel_rfl) (by kernel_rfl) ?rahA ?raho ?rahend
    case rahA =>
      intro vv; simp only [putRules, Nat.reduceAdd]; rfl
    case raho =>
      refine ⟨?_, ?_, ?_, ?_, ?_, ?_, ?_, ?_, ?_, ?_, ?_, ?_, ?_, ?_, ?_, ?_, ?_, ?_, ?_, ?_, trivial⟩
      · intro vv W K hB hd hK; simp only [confRules] at hK; have HK := Lib.hid hK; clear hK hd; obtain ⟨k0, k1, k2, k3, k4, k5⟩ := geo_keep hB z0 HC.out; go_wp2; refine HK.out _ _ (Below.refl _ _) ?_; rfl
      · intro vv W K hB hd hK; simp only [confRules] at hd hK; have h0 := hd; clear hd; simp only [h0] at hK ⊢; clear h0; have HK := Lib.hid hK; clear hK; go_wp2_with (go_at_call 62; refine (HSM.out _).mono ?_; rintro e w9 ⟨rfl, hB9⟩); refine HK.out _ _ hB9 ?_; rfl
      · intro vv W K hB hd hK; simp only [confRules] at hd hK; obtain ⟨h1, _⟩ := hd; simp only [h1] at hK ⊢; clear h1; have HK := Lib.hid hK; clear hK; go_wp2; refine HK.out _ _ (Below.refl _ _) ?_; rfl
      · intro vv W K hB hd hK; simp only [confRules] at hd hK; have h2 := hd; clear hd; simp only [h2] at hK ⊢; clear h2; have HK := Lib.hid hK; clear hK; refine wpList_guard_no (by rfl) ?_; refine HK.out _ _ (Below.refl _ _) ?_; rfl
      · intro vv W K hB hd hK; simp only [confRules] at hd hK; obtain ⟨h3, h2, _⟩ := hd; simp only [h3, h2] at hK ⊢; clear h3 h2; have HK := Lib.hid hK; clear hK; refine wpList_guard_no (by rfl) ?_; refine HK.out _ _ (Below.refl _ _) ?_; rfl
      · intro vv W K hB hd hK; simp only [confRules] at hd hK; have h2 := hd; clear hd; simp only [h2] at hK ⊢; clear h2; have HK := Lib.hid hK; clear hK; refine wpList_guard_no (by rfl) ?_; refine HK.out _ _ (Below.refl _ _) ?_; rfl
      · intro vv W K hB hd hK; simp only [confRules] at hd hK; obtain ⟨h5, h2⟩ := hd; simp only [h5, h2] at hK ⊢; clear h5 h2; have HK := Lib.hid hK; clear hK; refine wpList_guard_no (by rfl) ?_; refine HK.out _ _ (Below.refl _ _) ?_; rfl
      · intro vv W K hB hd hK; simp only [confRules] at hd hK; obtain ⟨h4, h6, h2⟩ := hd; simp only [h4, h6, h2] at hK ⊢; clear h4 h6 h2; have HK := Lib.hid hK; clear hK; refine wpList_guard_no (by rfl) ?_; refine HK.out _ _ (Below.refl _ _) ?_; rfl
      · intro vv W K hB hd hK; simp only [confRules] at hd hK; obtain ⟨h2, h7⟩ := hd; simp only [h2, h7] at hK ⊢; clear h2 h7; have HK := Lib.hid hK; clear hK; go_wp2; refine HK.out _ _ (Below.refl _ _) ?_; rfl
      · intro vv W K hB hd hK; simp only [confRules] at hd hK; obtain ⟨h8, h4⟩ := hd; simp only [h8, h4] at hK ⊢; clear h8 h4; have HK := Lib.hid hK; clear hK; go_wp2; refine HK.out _ _ (Below.refl _ _) ?_; rfl
      · intro vv W K hB hd hK; simp only [confRules] at hd hK; have h9 := hd; clear hd; simp only [h9] at hK ⊢; clear h9; have HK := Lib.hid hK; clear hK; refine wpList_guard_no (by rfl) ?_; refine HK.out _ _ (Below.refl _ _) ?_; rfl
      · intro vv W K hB hd hK; simp only [confRules] at hd hK; obtain ⟨h10, h9⟩ := hd; simp only [h10, h9] at hK ⊢; clear h10 h9; have HK := Lib.hid hK; clear hK; refine wpList_guard_no (by rfl) ?_; refine HK.out _ _ (Below.refl _ _) ?_; rfl
      · intro vv W K hB hd hK; simp only [confRules] at hd hK; obtain ⟨h11, h9⟩ := hd; simp only [h11, h9] at hK ⊢; clear h11 h9; have HK := Lib.hid hK; clear hK; refine wpList_guard_no (by rfl) ?_; refine HK.out _ _ (Below.refl _ _) ?_; rfl
      · intro vv W K hB hd hK; simp only [confRules] at hd hK; have h9 := hd; clear hd; simp only [h9] at hK ⊢; clear h9; have HK := Lib.hid hK; clear hK; refine wpList_guard_no (by rfl) ?_; refine HK.out _ _ (Below.refl _ _) ?_; rfl
      · intro vv W K hB hd hK; simp only [confRules] at hd hK; obtain ⟨h13, h9⟩ := hd; simp only [h13, h9] at hK ⊢; clear h13 h9; have HK := Lib.hid hK; clear hK; refine wpList_guard_no (by rfl) ?_; refine HK.out _ _ (Below.refl _ _) ?_; rfl
      · intro vv W K hB hd hK; simp only [confRules] at hd hK; have h9 := hd; clear hd; simp only [h9] at hK ⊢; clear h9; have HK := Lib.hid hK; clear hK; refine wpList_guard_no (by rfl) ?_; refine HK.out _ _ (Below.refl _ _) ?_; rfl
      · intro vv W K hB hd hK; simp only [confRules] at hd hK; obtain ⟨h15, h9, _⟩ := hd; simp only [h15, h9] at hK ⊢; clear h15 h9; have HK := Lib.hid hK; clear hK; refine wpList_guard_no (by rfl) ?_; refine HK.out _ _ (Below.refl _ _) ?_; rfl
      · intro vv W K hB hd hK; simp only [confRules] at hd hK; obtain ⟨h14, h16, h9⟩ := hd; simp only [h14, h16, h9] at hK ⊢; clear h14 h16 h9; have HK := Lib.hid hK; clear hK; refine wpList_guard_no (by rfl) ?_; refine HK.out _ _ (Below.refl _ _) ?_; rfl
      · intro vv W K hB hd hK; simp only [confRules] at hd hK; obtain ⟨h12, h17, h9⟩ := hd; simp only [h12, h17, h9] at hK ⊢; clear h12 h17 h9; have HK := Lib.hid hK; clear hK; refine wpList_guard_no (by rfl) ?_; refine HK.out _ _ (Below.refl _ _) ?_; rfl
      · intro vv W K hB hd hK; simp only [confRules] at hd hK; obtain ⟨h9, h18⟩ := hd; simp only [h9, h18] at hK ⊢; clear h9 h18; have HK := Lib.hid hK; clear hK; go_wp2; refine HK.out _ _ (Below.refl _ _) ?_; rfl
    case rahend =>
      intro vv W hB hf; have e19 := hf 19 (by decide); simp only [endRules] at e19; simp only [e19, dropRules]; clear hf e19; go_wp2; go_ret; exact ⟨rfl, hB0.trans (hB.mono hB0.size)⟩
  · clear HR HSE; have HPB := Lib.hid (HPA.out rfl); have T1 := Lib.hid t1; clear HPA t1; refine wp_region_conf 20 [Fact.eq ?rbx0, Fact.eq ?rbx1, Fact.eq ?rbx2, Fact.eq ?rbx3, Fact.eq ?rbx4, Fact.eq ?rbx5, Fact.eq ?rbx6, Fact.eq ?rbx7, Fact.eq ?rbx8, Fact.eq ?rbx9, Fact.eq undef, Fact.eq undef, Fact.eq undef, Fact.eq undef, Fact.eq undef, Fact.eq undef, Fact.eq undef, Fact.eq undef, Fact.eq undef, Fact.eq ?rbx19] ?rbA (by kernel_rfl) (by kernel_rfl) ?rbhA ?rbho ?rbhend
    case rbhA =>
      intro vv; simp only [putRules, Nat.reduceAdd]; rfl
    case rbho =>
      refine ⟨?_, ?_, ?_, ?_, ?_, ?_, ?_, ?_, ?_, ?_, ?_, ?_, ?_, ?_, ?_, ?_, ?_, ?_, ?_, ?_, trivial⟩
      · intro vv W K hB hd hK; simp only [confRules] at hK; have HK := Lib.hid hK; clear hK hd; obtain ⟨k0, k1, k2, k3, k4, k5⟩ := geo_keep hB z0 HC.out; go_wp2; refine HK.out _ _ (Below.refl _ _) ?_; rfl
      · intro vv W K hB hd hK; simp only [confRules] at hd hK; have h0 := hd; clear hd; simp only [h0] at hK ⊢; clear h0; have HK := Lib.hid hK; clear hK; go_wp2_with (go_at_call 62; refine (HSM.out _).mono ?_; rintro e w9 ⟨rfl, hB9⟩); refine HK.out _ _ hB9 ?_; rfl
      · intro vv W K hB hd hK; simp only [confRules] at hd hK; obtain ⟨h1, _⟩ := hd; simp only [h1] at hK ⊢; clear h1; have HK := Lib.hid hK; clear hK; go_wp2; refine HK.out _ _ (Below.refl _ _) ?_; rfl
      · intro vv W K hB hd hK; simp only [confRules] at hd hK; have h2 := hd; clear hd; simp only [h2] at hK ⊢; clear h2; have HK := Lib.hid hK; clear hK; refine wpList_guard_yes (by rfl) ?_; obtain ⟨k0, k1, k2, k3, k4, k5⟩ := geo_keep hB z0 HC.out; go_wp2; refine HK.out _ _ (Below.refl _ _) ?_; rfl
      · intro vv W K hB hd hK; simp only [confRules] at hd hK; obtain ⟨h3, h2, _⟩ := hd; simp only [h3, h2] at hK ⊢; clear h3 h2; have HK := Lib.hid hK; clear hK; refine wpList_guard_yes (by rfl) ?_; go_wp2_with (go_at_call 63; refine (HPB.out _).mono ?_; rintro e w9 ⟨rfl, hB9⟩); refine HK.out _ _ hB9 ?_; rfl
      · intro vv W K hB hd hK; simp only [confRules] at hd hK; have h2 := hd; clear hd; simp only [h2] at hK ⊢; clear h2; have HK := Lib.hid hK; clear hK; refine wpList_guard_yes (by rfl) ?_; go_wp2; refine HK.out _ _ (Below.refl _ _) ?_; rfl
      · intro vv W K hB hd hK; simp only [confRules] at hd hK; obtain ⟨h5, h2⟩ := hd; simp only [h5, h2] at hK ⊢; clear h5 h2; have HK := Lib.hid hK; clear hK; refine wpList_guard_yes (by rfl) ?_; obtain ⟨k0, k1, k2, k3, k4, k5⟩ := geo_keep hB z0 HC.out; go_wp2; refine HK.out _ _ (Below.refl _ _) ?_; rfl
      · intro vv W K hB hd hK; simp only [confRules] at hd hK; obtain ⟨h4, h6, h2⟩ := hd; simp only [h4, h6, h2] at hK ⊢; clear h4 h6 h2; have HK := Lib.hid hK; clear hK; refine wpList_guard_yes (by rfl) ?_; have t1 := T1.out; go_wp2; refine HK.out _ _ (Below.refl _ _) ?_; rfl
      · intro vv W K hB hd hK; simp only [confRules] at hd hK; obtain ⟨h2, h7⟩ := hd; simp only [h2, h7] at hK ⊢; clear h2 h7; have HK := Lib.hid hK; clear hK; go_wp2; refine HK.out _ _ (Below.refl _ _) ?_; rfl
      · intro vv W K hB hd hK; simp only [confRules] at hd hK; obtain ⟨h8, h4⟩ := hd; simp only [h8, h4] at hK ⊢; clear h8 h4; have HK := Lib.hid hK; clear hK; go_wp2; refine HK.out _ _ (Below.refl _ _) ?_; rfl
      · intro vv W K hB hd hK; simp only [confRules] at hd hK; have h9 := hd; clear hd; simp only [h9] at hK ⊢; clear h9; have HK := Lib.hid hK; clear hK; refine wpList_guard_no (by rfl) ?_; refine HK.out _ _ (Below.refl _ _) ?_; rfl
      · intro vv W K hB hd hK; simp only [confRules] at hd hK; obtain ⟨h10, h9⟩ := hd; simp only [h10, h9] at hK ⊢; clear h10 h9; have HK := Lib.hid hK; clear hK; refine wpList_guard_no (by rfl) ?_; refine HK.out _ _ (Below.refl _ _) ?_; rfl
      · intro vv W K hB hd hK; simp only [confRules] at hd hK; obtain ⟨h11, h9⟩ := hd; simp only [h11, h9] at hK ⊢; clear h11 h9; have HK := Lib.hid hK; clear hK; refine wpList_guard_no (by rfl) ?_; refine HK.out _ _ (Below.refl _ _) ?_; rfl
      · intro vv W K hB hd hK; simp only [confRules] at hd hK; have h9 := hd; clear hd; simp only [h9] at hK ⊢; clear h9; have HK := Lib.hid hK; clear hK; refine wpList_guard_no (by rfl) ?_; refine HK.out _ _ (Below.refl _ _) ?_; rfl
      · intro vv W K hB hd hK; simp only [confRules] at hd hK; obtain ⟨h13, h9⟩ := hd; simp only [h13, h9] at hK ⊢; clear h13 h9; have HK := Lib.hid hK; clear hK; refine wpList_guard_no (by rfl) ?_; refine HK.out _ _ (Below.refl _ _) ?_; rfl
      · intro vv W K hB hd hK; simp only [confRules] at hd hK; have h9 := hd; clear hd; simp only [h9] at hK ⊢; clear h9; have HK := Lib.hid hK; clear hK; refine wpList_guard_no (by rfl) ?_; refine HK.out _ _ (Below.refl _ _) ?_; rfl
      · intro vv W K hB hd hK; simp only [confRules] at hd hK; obtain ⟨h15, h9, _⟩ := hd; simp only [h15, h9] at hK ⊢; clear h15 h9; have HK := Lib.hid hK; clear hK; refine wpList_guard_no (by rfl) ?_; refine HK.out _ _ (Below.refl _ _) ?_; rfl
      · intro vv W K hB hd hK; simp only [confRules] at hd hK; obtain ⟨h14, h16, h9⟩ := hd; simp only [h14, h16, h9] at hK ⊢; clear h14 h16 h9; have HK := Lib.hid hK; clear hK; refine wpList_guard_no (by rfl) ?_; refine HK.out _ _ (Below.refl _ _) ?_; rfl
      · intro vv W K hB hd hK; simp only [confRules] at hd hK; obtain ⟨h12, h17, h9⟩ := hd; simp only [h12, h17, h9] at hK ⊢; clear h12 h17 h9; have HK := Lib.hid hK; clear hK; refine wpList_guard_no (by rfl) ?_; refine HK.out _ _ (Below.refl _ _) ?_; rfl
      · intro vv W K hB hd hK; simp only [confRules] at hd hK; obtain ⟨h9, h18⟩ := hd; simp only [h9, h18] at hK ⊢; clear h9 h18; have HK := Lib.hid hK; clear hK; go_wp2; refine HK.out _ _ (Below.refl _ _) ?_; rfl
    case rbhend =>
      intro vv W hB hf; have e19 := hf 19 (by decide); simp only [endRules] at e19; simp only [e19, dropRules]; clear hf e19; go_wp2; go_ret; exact ⟨rfl, hB0.trans (hB.mono hB0.size)⟩
  · clear HR; have HPB := Lib.hid (HPA.out rfl); have HSB := Lib.hid (HSE.out rfl); have HFF := Lib.hid HF; have T1 := Lib.hid t1; have T2 := Lib.hid t2; have T3 := Lib.hid t3; clear HPA HSE HF t1 t2 t3; refine wp_region_conf 20 [Fact.eq ?rcx0, Fact.eq ?rcx1, Fact.eq ?rcx2, Fact.eq ?rcx3, Fact.eq ?rcx4, Fact.eq ?rcx5, Fact.eq ?rcx6, Fact.eq ?rcx7, Fact.eq ?rcx8, Fact.eq ?rcx9, Fact.eq ?rcx10, Fact.eq ?rcx11, Fact.eq ?rcx12, Fact.eq ?rcx13, Fact.eq ?rcx14, Fact.eq ?rcx15, Fact.eq ?rcx16, Fact.eq ?rcx17, Fact.eq ?rcx18, Fact.eq ?rcx19] ?rcA (by kernel_rfl) (by kernel_rfl) ?rchA ?rcho ?rchend
    case rchA =>
      intro vv; simp only [putRules, Nat.reduceAdd]; rfl
    case rcho =>
      refine ⟨?_, ?_, ?_, ?_, ?_, ?_, ?_, ?_, ?_, ?_, ?_, ?_, ?_, ?_, ?_, ?_, ?_, ?_, ?_, ?_, trivial⟩
      · intro vv W K hB hd hK; simp only [confRules] at hK; have HK := Lib.hid hK; clear hK hd; obtain ⟨k0, k1, k2, k3, k4, k5⟩ := geo_keep hB z0 HC.out; go_wp2; refine HK.out _ _ (Below.refl _ _) ?_; rfl
      · intro vv W K hB hd hK; simp only [confRules] at hd hK; have h0 := hd; clear hd; simp only [h0] at hK ⊢; clear h0; have HK := Lib.hid hK; clear hK; go_wp2_with (go_at_call 62; refine (HSM.out _).mono ?_; rintro e w9 ⟨rfl, hB9⟩); refine HK.out _ _ hB9 ?_; rfl
      · intro vv W K hB hd hK; simp only [confRules] at hd hK; obtain ⟨h1, _⟩ := hd; simp only [h1] at hK ⊢; clear h1; have HK := Lib.hid hK; clear hK; go_wp2; refine HK.out _ _ (Below.refl _ _) ?_; rfl
      · intro vv W K hB hd hK; simp only [confRules] at hd hK; have h2 := hd; clear hd; simp only [h2] at hK ⊢; clear h2; have HK := Lib.hid hK; clear hK; refine wpList_guard_yes (by rfl) ?_; obtain ⟨k0, k1, k2, k3, k4, k5⟩ := geo_keep hB z0 HC.out; go_wp2; refine HK.out _ _ (Below.refl _ _) ?_; rfl
      · intro vv W K hB hd hK; simp only [confRules] at hd hK; obtain ⟨h3, h2, _⟩ := hd; simp only [h3, h2] at hK ⊢; clear h3 h2; have HK := Lib.hid hK; clear hK; refine wpList_guard_yes (by rfl) ?_; go_wp2_with (go_at_call 63; refine (HPB.out _).mono ?_; rintro e w9 ⟨rfl, hB9⟩); refine HK.out _ _ hB9 ?_; rfl
      · intro vv W K hB hd hK; simp only [confRules] at hd hK; have h2 := hd; clear hd; simp only [h2] at hK ⊢; clear h2; have HK := Lib.hid hK; clear hK; refine wpList_guard_yes (by rfl) ?_; go_wp2; refine HK.out _ _ (Below.refl _ _) ?_; rfl
      · intro vv W K hB hd hK; simp only [confRules] at hd hK; obtain ⟨h5, h2⟩ := hd; simp only [h5, h2] at hK ⊢; clear h5 h2; have HK := Lib.hid hK; clear hK; refine wpList_guard_yes (by rfl) ?_; obtain ⟨k0, k1, k2, k3, k4, k5⟩ := geo_keep hB z0 HC.out; go_wp2; refine HK.out _ _ (Below.refl _ _) ?_; rfl
      · intro vv W K hB hd hK; simp only [confRules] at hd hK; obtain ⟨h4, h6, h2⟩ := hd; simp only [h4, h6, h2] at hK ⊢; clear h4 h6 h2; have HK := Lib.hid hK; clear hK; refine wpList_guard_yes (by rfl) ?_; have t1 := T1.out; go_wp2; refine HK.out _ _ (Below.refl _ _) ?_; rfl
      · intro vv W K hB hd hK; simp only [confRules] at hd hK; obtain ⟨h2, h7⟩ := hd; simp only [h2, h7] at hK ⊢; clear h2 h7; have HK := Lib.hid hK; clear hK; go_wp2; refine HK.out _ _ (Below.refl _ _) ?_; rfl
      · intro vv W K hB hd hK; simp only [confRules] at hd hK; obtain ⟨h8, h4⟩ := hd; simp only [h8, h4] at hK ⊢; clear h8 h4; have HK := Lib.hid hK; clear hK; go_wp2; refine HK.out _ _ (Below.refl _ _) ?_; rfl
      · intro vv W K hB hd hK; simp only [confRules] at hd hK; have h9 := hd; clear hd; simp only [h9] at hK ⊢; clear h9; have HK := Lib.hid hK; clear hK; refine wpList_guard_yes (by rfl) ?_; go_wp2; refine HK.out _ _ (Below.refl _ _) ?_; rfl
      · intro vv W K hB hd hK; simp only [confRules] at hd hK; obtain ⟨h10, h9⟩ := hd; simp only [h10, h9] at hK ⊢; clear h10 h9; have HK := Lib.hid hK; clear hK; refine wpList_guard_yes (by rfl) ?_; obtain ⟨k0, k1, k2, k3, k4, k5⟩ := geo_keep hB z0 HC.out; go_wp2; refine HK.out _ _ (Below.refl _ _) ?_; rfl
      · intro vv W K hB hd hK; simp only [confRules] at hd hK; obtain ⟨h11, h9⟩ := hd; simp only [h11, h9] at hK ⊢; clear h11 h9; have HK := Lib.hid hK; clear hK; refine wpList_guard_yes (by rfl) ?_; have t2 := T2.out; go_wp2; refine HK.out _ _ (Below.refl _ _) ?_; rfl
      · intro vv W K hB hd hK; simp only [confRules] at hd hK; have h9 := hd; clear hd; simp only [h9] at hK ⊢; clear h9; have HK := Lib.hid hK; clear hK; refine wpList_guard_yes (by rfl) ?_; go_wp2; refine HK.out _ _ (Below.refl _ _) ?_; rfl
      · intro vv W K hB hd hK; simp only [confRules] at hd hK; obtain ⟨h13, h9⟩ := hd; simp only [h13, h9] at hK ⊢; clear h13 h9; have HK := Lib.hid hK; clear hK; refine wpList_guard_yes (by rfl) ?_; obtain ⟨k0, k1, k2, k3, k4, k5⟩ := geo_keep hB z0 HC.out; go_wp2; refine HK.out _ _ (Below.refl _ _) ?_; rfl
      · intro vv W K hB hd hK; simp only [confRules] at hd hK; have h9 := hd; clear hd; simp only [h9] at hK ⊢; clear h9; have HK := Lib.hid hK; clear hK; refine wpList_guard_yes (by rfl) ?_; obtain ⟨k0, k1, k2, k3, k4, k5⟩ := geo_keep hB z0 HC.out; go_wp2; refine HK.out _ _ (Below.refl _ _) ?_; rfl
      · intro vv W K hB hd hK; simp only [confRules] at hd hK; obtain ⟨h15, h9, _⟩ := hd; simp only [h15, h9] at hK ⊢; clear h15 h9; have HK := Lib.hid hK; clear hK; refine wpList_guard_yes (by rfl) ?_; go_wp2_with (go_at_call 64; refine (HSB.out _).mono ?_; rintro e w9 ⟨rfl, hB9⟩); refine HK.out _ _ hB9 ?_; rfl
      · intro vv W K hB hd hK; simp only [confRules] at hd hK; obtain ⟨h14, h16, h9⟩ := hd; simp only [h14, h16, h9] at hK ⊢; clear h14 h16 h9; have HK := Lib.hid hK; clear hK; refine wpList_guard_yes (by rfl) ?_; have t3 := T3.out; go_wp2; refine HK.out _ _ (Below.refl _ _) ?_; rfl
      · intro vv W K hB hd hK; simp only [confRules] at hd hK; obtain ⟨h12, h17, h9⟩ := hd; simp only [h12, h17, h9] at hK ⊢; clear h12 h17 h9; have HK := Lib.hid hK; clear hK; refine wpList_guard_yes (by rfl) ?_; go_wp2; refine HK.out _ _ (Below.refl _ _) ?_; rfl
      · intro vv W K hB hd hK; simp only [confRules] at hd hK; obtain ⟨h9, h18⟩ := hd; simp only [h9, h18] at hK ⊢; clear h9 h18; have HK := Lib.hid hK; clear hK; go_wp2; refine HK.out _ _ (Below.refl _ _) ?_; rfl
    case rchend =>
      intro vv W hB hf; have e19 := hf 19 (by decide); simp only [endRules] at e19; simp only [e19, dropRules]; clear hf e19; go_wp2; go_ret; exact ⟨by rw [HFF.out]; rfl, hB0.trans (hB.mono hB0.size)⟩
theorem gright_any (g : Geo.G) (w : World) :
    Calls Try.prog 45 #[.agg (GC g)] w fun e w' => e = .returned (.bool (Geo.right g)) ∧ Below w.heap.size w w' := by
  refine gright_core g (Geo.small g) (Geo.parts g) (Geo.segs g) _ w (fun W => gsmall_any g W) (fun h W => gparts_any g W ((Geo.small_iff g).1 h)) (fun h W => gsegs_any g W ((Geo.small_iff g).1 h)) ?_; cases hs : Geo.small g
  · exact .inl ⟨rfl, by simp [Geo.right, hs]⟩
  · have hS := (Geo.small_iff g).1 hs; have h1 := Geo.ss_bd hS; have h2 := hS.2.2.2.1; cases hp : decide (Geo.parts g ≤ g.s)
    · exact .inr (.inl ⟨rfl, rfl, by simp [Geo.right, hs, hp]⟩)
    · exact .inr (.inr ⟨rfl, rfl, IntWalk.i64_in _ (by omega), IntWalk.i64_in _ (by omega), by simp [Geo.right, hs, hp]⟩)
end Go.Proofs.Ytoiephmngdecaaa
