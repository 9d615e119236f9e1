/- Plain mathematics of frames: a frame's bytes, its sector, and what a sector says. No program in sight. -/
import Derived.Test.YtfcadbeamojdpaaCodMath
import Derived.Test.YtfcadbeamojdpaaMath
namespace Frm
/-- a frame -/
structure Fr where
  kind : Int
  zone : Int
  off : Int
  epoch : Int
  seq : Int
  body : List Nat
def Fr.zero : Fr := ⟨0, 0, 0, 0, 0, List.replicate 44 0⟩
/-- may its numbers be? -/
def rightF (f : Fr) : Bool := decide (1 ≤ f.kind ∧ f.kind ≤ 5 ∧ 0 ≤ f.zone ∧ f.zone ≤ 65535 ∧ 0 ≤ f.off ∧ f.off ≤ 65535 ∧ 1 ≤ f.epoch ∧ f.epoch ≤ 4294967295 ∧ 0 ≤ f.seq ∧ f.seq ≤ 281474976710655)
/-- its bytes -/
def frB (f : Fr) : List Nat := Cod.leN 1 f.kind.toNat ++ Cod.leN 1 1 ++ Cod.leN 2 f.zone.toNat ++ Cod.leN 2 f.off.toNat ++ Cod.leN 4 f.epoch.toNat ++ Cod.leN 6 f.seq.toNat ++ f.body
def sectorOf (f : Fr) : List Nat := frB f ++ Crc.le4 (Crc.sum (frB f))
/-- a body has 44 bytes -/
def Body (l : List Nat) : Prop := l.length = 44 ∧ ∀ c ∈ l, c < 256
theorem frB_length {f : Fr} (h : Body f.body) : (frB f).length = 60 := by
  simp [frB, Cod.leN_length, h.1]
theorem frB_lt {f : Fr} (h : Body f.body) : ∀ c ∈ frB f, c < 256 := by
  intro c hc
  simp only [frB, List.mem_append] at hc
  rcases hc with (((((hc | hc) | hc) | hc) | hc) | hc) | hc
  all_goals first | exact Cod.leN_lt _ _ c hc | exact h.2 c hc
theorem sector_length {f : Fr} (h : Body f.body) : (sectorOf f).length = 64 := by
  simp [sectorOf, frB_length h, Crc.le4]
theorem sector_lt {f : Fr} (h : Body f.body) : ∀ c ∈ sectorOf f, c < 256 := by
  intro c hc
  rcases List.mem_append.1 hc with hc | hc
  · exact frB_lt h c hc
  · exact Crc.le4_lt _ c hc
/-- what sixty bytes say -/
def parseF (b : List Nat) : Fr := ⟨(Cod.rd (b.take 1) : Nat), (Cod.rd ((b.drop 2).take 2) : Nat), (Cod.rd ((b.drop 4).take 2) : Nat), (Cod.rd ((b.drop 6).take 4) : Nat), (Cod.rd ((b.drop 10).take 6) : Nat), (b.drop 16).take 44⟩
def verF (b : List Nat) : Nat := Cod.rd ((b.drop 1).take 1)
/-- what a sector says -/
def decF (s : List Nat) : Fr × Int :=
  if s.drop 60 = Crc.le4 (Crc.sum (s.take 60)) then if verF (s.take 60) = 1 ∧ rightF (parseF (s.take 60)) = true then (parseF (s.take 60), 0) else (Fr.zero, 10) else (Fr.zero, 11)
theorem right_nat {f : Fr} (h : rightF f = true) : ∃ k z o e s : Nat, f = ⟨k, z, o, e, s, f.body⟩ ∧ 1 ≤ k ∧ k ≤ 5 ∧ z ≤ 65535 ∧ o ≤ 65535 ∧ 1 ≤ e ∧ e ≤ 4294967295 ∧ s ≤ 281474976710655 := by
  obtain ⟨k, z, o, e, s, b⟩ := f
  simp only [rightF, decide_eq_true_eq] at h
  obtain ⟨h1, h2, h3, h4, h5, h6, h7, h8, h9, h10⟩ := h
  obtain ⟨k, rfl⟩ := Int.eq_ofNat_of_zero_le (show 0 ≤ k by omega)
  obtain ⟨z, rfl⟩ := Int.eq_ofNat_of_zero_le h3
  obtain ⟨o, rfl⟩ := Int.eq_ofNat_of_zero_le h5
  obtain ⟨e, rfl⟩ := Int.eq_ofNat_of_zero_le (show 0 ≤ e by omega)
  obtain ⟨s, rfl⟩ := Int.eq_ofNat_of_zero_le h9
  exact ⟨k, z, o, e, s, rfl, by omega, by omega, by omega, by omega, by omega, by omega, by omega⟩
theorem parse_frB {f : Fr} (hr : rightF f = true) (hb : Body f.body) : parseF (frB f) = f ∧ verF (frB f) = 1 := by
  obtain ⟨k, z, o, e, s, hf, h1, h2, h3, h4, h5, h6, h7⟩ := right_nat hr
  generalize f.body = b at *
  subst hf
  have e1 : (frB ⟨k, z, o, e, s, b⟩).take 1 = Cod.leN 1 k := rfl
  have e2 : ((frB ⟨k, z, o, e, s, b⟩).drop 1).take 1 = Cod.leN 1 1 := rfl
  have e3 : ((frB ⟨k, z, o, e, s, b⟩).drop 2).take 2 = Cod.leN 2 z := rfl
  have e4 : ((frB ⟨k, z, o, e, s, b⟩).drop 4).take 2 = Cod.leN 2 o := rfl
  have e5 : ((frB ⟨k, z, o, e, s, b⟩).drop 6).take 4 = Cod.leN 4 e := rfl
  have e6 : ((frB ⟨k, z, o, e, s, b⟩).drop 10).take 6 = Cod.leN 6 s := rfl
  have e7 : ((frB ⟨k, z, o, e, s, b⟩).drop 16) = b := rfl
  constructor
  · unfold parseF
    rw [e1, e3, e4, e5, e6, e7, Cod.rd_leN 1 k (by omega), Cod.rd_leN 2 z (by omega), Cod.rd_leN 2 o (by omega), Cod.rd_leN 4 e (by omega), Cod.rd_leN 6 s (by omega), List.take_of_length_le (by rw [hb.1]; omega)]
  · unfold verF
    rw [e2]
    rfl
theorem dec_sector {f : Fr} (hr : rightF f = true) (hb : Body f.body) : decF (sectorOf f) = (f, 0) := by
  have hl := frB_length hb
  obtain ⟨hp, hv⟩ := parse_frB hr hb
  have e1 : (sectorOf f).take 60 = frB f := List.take_left' hl
  have e2 : (sectorOf f).drop 60 = Crc.le4 (Crc.sum (frB f)) := List.drop_left' hl
  unfold decF
  rw [e1, e2, if_pos rfl, hp, hv, if_pos ⟨rfl, hr⟩]
theorem sector_inj {f g : Fr} (hf : rightF f = true) (hg : rightF g = true) (bf : Body f.body) (bg : Body g.body) (h : sectorOf f = sectorOf g) : f = g := by
  have h1 := dec_sector hf bf
  rw [h, dec_sector hg bg] at h1
  exact (Prod.mk.inj h1).1.symm
end Frm
