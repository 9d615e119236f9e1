/- Plain arithmetic of geometries: what may be, how many segments; with more zones or fewer blocks. -/
namespace Geo
/-- a geometry's numbers -/
structure G where
  d : Int
  z : Int
  s : Int
  b : Int
  p : Int
  o : Int
/-- is it one from a to b? -/
def inB (n a b : Int) : Bool := decide (a ≤ n) && decide (n ≤ b)
theorem inB_iff {n a b : Int} : inB n a b = true ↔ a ≤ n ∧ n ≤ b := by simp [inB]
def Small (g : G) : Prop := (3 ≤ g.d ∧ g.d ≤ 8) ∧ (1 ≤ g.z ∧ g.z ≤ 64) ∧ (4 ≤ g.s ∧ g.s ≤ 64) ∧ (1 ≤ g.b ∧ g.b ≤ 256) ∧ (0 ≤ g.p ∧ g.p ≤ 4) ∧ (4 ≤ g.o ∧ g.o ≤ 64)
def small (g : G) : Bool := inB g.d 3 8 && inB g.z 1 64 && inB g.s 4 64 && inB g.b 1 256 && inB g.p 0 4 && inB g.o 4 64
theorem small_iff (g : G) : small g = true ↔ Small g := by
  simp only [small, Small, Bool.and_eq_true, inB_iff]
  constructor
  · rintro ⟨⟨⟨⟨⟨h1, h2⟩, h3⟩, h4⟩, h5⟩, h6⟩
    exact ⟨h1, h2, h3, h4, h5, h6⟩
  · rintro ⟨h1, h2, h3, h4, h5, h6⟩
    exact ⟨⟨⟨⟨⟨h1, h2⟩, h3⟩, h4⟩, h5⟩, h6⟩
def parts (g : G) : Int := 1 + (g.b + 2 - 1) / 2
def reserve (g : G) : Int := g.d * g.p + 4
def u (g : G) : Int := g.z - g.p - 2
def fewA (g : G) : Int := (g.d - 1) * u g - reserve g + 1
def fewB (g : G) : Int := g.d * u g - 2 * reserve g + 1
def segs (g : G) : Int := min (fewA g) (fewB g) / 2 - 1 - g.d * g.p
def right (g : G) : Bool := small g && (decide (parts g ≤ g.s) && decide (2 * g.b ≤ g.s * segs g))
theorem right_iff (g : G) : right g = true ↔ Small g ∧ parts g ≤ g.s ∧ 2 * g.b ≤ g.s * segs g := by
  simp only [right, Bool.and_eq_true, small_iff, decide_eq_true_eq]
theorem mul_bd {a b x y : Int} (ha : 0 ≤ a) (hx : a ≤ x) (hb : -y ≤ b) (hb' : b ≤ y) : -(x * y) ≤ a * b ∧ a * b ≤ x * y := by
  have hy : 0 ≤ y := by omega
  have h1 : a * y ≤ x * y := Int.mul_le_mul_of_nonneg_right hx hy
  have h2 : a * b ≤ a * y := Int.mul_le_mul_of_nonneg_left hb' ha
  have h3 : a * (-y) ≤ a * b := Int.mul_le_mul_of_nonneg_left hb ha
  rw [Int.mul_neg] at h3
  omega
theorem u_bd {g : G} (h : Small g) : -62 ≤ u g ∧ u g ≤ 62 := by
  obtain ⟨h1, h2, h3, h4, h5, h6⟩ := h
  unfold u
  omega
theorem dp_bd {g : G} (h : Small g) : 0 ≤ g.d * g.p ∧ g.d * g.p ≤ 32 := by
  obtain ⟨h1, h2, h3, h4, h5, h6⟩ := h
  have := mul_bd (a := g.d) (b := g.p) (x := 8) (y := 4) (by omega) (by omega) (by omega) (by omega)
  have := Int.mul_nonneg (a := g.d) (b := g.p) (by omega) (by omega)
  omega
theorem du_bd {g : G} (h : Small g) : -496 ≤ g.d * u g ∧ g.d * u g ≤ 496 := by
  have hu := u_bd h
  obtain ⟨h1, h2, h3, h4, h5, h6⟩ := h
  have := mul_bd (a := g.d) (b := u g) (x := 8) (y := 62) (by omega) (by omega) (by omega) (by omega)
  omega
theorem eu_bd {g : G} (h : Small g) : -434 ≤ (g.d - 1) * u g ∧ (g.d - 1) * u g ≤ 434 := by
  have hu := u_bd h
  obtain ⟨h1, h2, h3, h4, h5, h6⟩ := h
  have := mul_bd (a := g.d - 1) (b := u g) (x := 7) (y := 62) (by omega) (by omega) (by omega) (by omega)
  omega
theorem few_bd {g : G} (h : Small g) : -1000 ≤ fewA g ∧ fewA g ≤ 1000 ∧ -1000 ≤ fewB g ∧ fewB g ≤ 1000 := by
  have h1 := dp_bd h
  have h2 := du_bd h
  have h3 := eu_bd h
  unfold fewA fewB reserve
  omega
theorem segs_bd {g : G} (h : Small g) : -1000 ≤ segs g ∧ segs g ≤ 1000 := by
  have h1 := dp_bd h
  have h2 := few_bd h
  unfold segs
  omega
theorem ss_bd {g : G} (h : Small g) : -64000 ≤ g.s * segs g ∧ g.s * segs g ≤ 64000 := by
  have hs := segs_bd h
  obtain ⟨h1, h2, h3, h4, h5, h6⟩ := h
  have := mul_bd (a := g.s) (b := segs g) (x := 64) (y := 1000) (by omega) (by omega) (by omega) (by omega)
  omega
theorem dz_bd {g : G} (h : Small g) : 3 ≤ g.d * g.z ∧ g.d * g.z ≤ 512 := by
  obtain ⟨h1, h2, h3, h4, h5, h6⟩ := h
  have h7 := mul_bd (a := g.d) (b := g.z) (x := 8) (y := 64) (by omega) (by omega) (by omega) (by omega)
  have h8 : g.d * 1 ≤ g.d * g.z := Int.mul_le_mul_of_nonneg_left (by omega) (by omega)
  omega
theorem mul_mono {a b c d : Int} (ha : 0 ≤ a) (h : b ≤ d) (hc : a = c) : a * b ≤ c * d := by
  subst hc
  exact Int.mul_le_mul_of_nonneg_left h ha
/-- more zones, fewer blocks -/
theorem more {g : G} (h : right g = true) (z b : Int) (hz : g.z ≤ z) (hz' : z ≤ 64) (hb : 1 ≤ b) (hb' : b ≤ g.b) : right { g with z := z, b := b } = true := by
  rw [right_iff] at h ⊢
  obtain ⟨hs, hp, hg⟩ := h
  have hs' := hs
  obtain ⟨h1, h2, h3, h4, h5, h6⟩ := hs
  have hS : Small { g with z := z, b := b } := ⟨h1, ⟨by show 1 ≤ z; omega, hz'⟩, h3, ⟨hb, by show b ≤ 256; omega⟩, h5, h6⟩
  refine ⟨hS, ?_, ?_⟩
  · show 1 + (b + 2 - 1) / 2 ≤ g.s
    unfold parts at hp
    omega
  · show 2 * b ≤ g.s * segs { g with z := z, b := b }
    have e : segs g ≤ segs { g with z := z, b := b } := by
      have e1 : (g.d - 1) * u g ≤ (g.d - 1) * u { g with z := z, b := b } := mul_mono (by omega) (by unfold u; show g.z - g.p - 2 ≤ z - g.p - 2; omega) rfl
      have e2 : g.d * u g ≤ g.d * u { g with z := z, b := b } := mul_mono (by omega) (by unfold u; show g.z - g.p - 2 ≤ z - g.p - 2; omega) rfl
      have e3 : fewA g ≤ fewA { g with z := z, b := b } := by
        unfold fewA reserve
        show (g.d - 1) * u g - (g.d * g.p + 4) + 1 ≤ (g.d - 1) * u { g with z := z, b := b } - (g.d * g.p + 4) + 1
        omega
      have e4 : fewB g ≤ fewB { g with z := z, b := b } := by
        unfold fewB reserve
        show g.d * u g - 2 * (g.d * g.p + 4) + 1 ≤ g.d * u { g with z := z, b := b } - 2 * (g.d * g.p + 4) + 1
        omega
      unfold segs
      show min (fewA g) (fewB g) / 2 - 1 - g.d * g.p ≤ min (fewA { g with z := z, b := b }) (fewB { g with z := z, b := b }) / 2 - 1 - g.d * g.p
      omega
    have e5 : g.s * segs g ≤ g.s * segs { g with z := z, b := b } := mul_mono (by omega) e rfl
    omega
theorem segs_pos {g : G} (h : right g = true) : 1 ≤ segs g := by
  rw [right_iff] at h
  obtain ⟨hs, hp, hg⟩ := h
  obtain ⟨h1, h2, h3, h4, h5, h6⟩ := hs
  rcases Int.lt_or_le 0 (segs g) with h | h
  · omega
  · have : g.s * segs g ≤ g.s * 0 := mul_mono (by omega) h rfl
    omega
/-- each domain has more zones than may fail, and two more -/
theorem zones_more {g : G} (h : right g = true) : g.p + 2 < g.z := by
  have hp := segs_pos h
  have hs : Small g := ((right_iff g).1 h).1
  have hd := dp_bd hs
  rcases Int.lt_or_le (g.p + 2) g.z with h' | h'
  · exact h'
  · have hu : u g ≤ 0 := by unfold u; omega
    have e : (g.d - 1) * u g ≤ (g.d - 1) * 0 := mul_mono (by have := hs.1; omega) hu rfl
    unfold segs fewA fewB reserve at hp
    omega
def commands (g : G) : Int := 64 * (g.d * g.z + 2) * (g.d * g.z + 2) * (g.s + 2) * (g.b + g.s + parts g + 4)
def passes (g : G) : Int := (g.d * g.p + 3) * (g.b + 3)
theorem passes_ge {g : G} (h : Small g) : 3 * (g.b + 3) ≤ passes g := by
  have hd := dp_bd h
  obtain ⟨h1, h2, h3, h4, h5, h6⟩ := h
  unfold passes
  exact Int.mul_le_mul_of_nonneg_right (by omega) (by omega)
theorem commands_pos {g : G} (h : Small g) : 0 < commands g := by
  have hd := dz_bd h
  obtain ⟨h1, h2, h3, h4, h5, h6⟩ := h
  unfold commands parts
  refine Int.mul_pos (Int.mul_pos (Int.mul_pos (Int.mul_pos (by omega) (by omega)) (by omega)) (by omega)) (by omega)
end Geo
