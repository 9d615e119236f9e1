/- Plain laws: the entry of a body. -/
import Derived.Test.YtfcadbeamojdpaaEnBody
namespace En
/-- a body, read -/
def parse (kind : Int) (b : List Nat) : E := ⟨kind, (Cod.rd (b.take 6) : Nat), (Cod.rd ((b.drop 6).take 1) : Nat), (Cod.rd ((b.drop 7).take 1) : Nat), (Cod.rd ((b.drop 8).take 2) : Nat), (Cod.rd ((b.drop 10).take 2) : Nat), (b.drop 12).take 32⟩
def ofE (kind : Int) (b : List Nat) : E × Int := if right (parse kind b) = true then (parse kind b, 0) else (E.zero, 10)
theorem parse_bytes {kind : Int} {b : List Nat} (hl : b.length = 44) (hb : ∀ c ∈ b, c < 256) : (parse kind b).bytes.length = 32 ∧ ∀ c ∈ (parse kind b).bytes, c < 256 :=
  ⟨by simp [parse, hl], fun c hc => hb c (List.mem_of_mem_drop (List.mem_of_mem_take hc))⟩
/-- what has been read has that body -/
theorem body_parse {kind : Int} {b : List Nat} (hl : b.length = 44) (hb : ∀ c ∈ b, c < 256) : body (parse kind b) = b := by
  have h : ∀ (k n : Nat), k + n ≤ 44 → Cod.leN n (Cod.rd ((b.drop k).take n)) = (b.drop k).take n := fun k n hk => by
    have := Cod.leN_rd ((b.drop k).take n) (fun c hc => hb c (List.mem_of_mem_drop (List.mem_of_mem_take hc)))
    rwa [show ((b.drop k).take n).length = n by simp [hl]; omega] at this
  have h0 : Cod.leN 6 (Cod.rd (b.take 6)) = b.take 6 := by have := h 0 6 (by omega); simpa using this
  unfold body parse
  simp only [Int.toNat_natCast]
  rw [h0, h 6 1 (by omega), h 7 1 (by omega), h 8 2 (by omega), h 10 2 (by omega)]
  have s : ∀ k n, (b.drop k).take n ++ b.drop (k + n) = b.drop k := fun k n => by
    have := List.take_append_drop n (b.drop k)
    rwa [List.drop_drop] at this
  rw [List.take_of_length_le (i := 32) (by simp [hl])]
  simp only [List.append_assoc]
  rw [s 10 2, s 8 2, s 7 1, s 6 1, List.take_append_drop]
theorem take_app_rd {x y : List Nat} (n : Nat) (h : x.length = n) : (x ++ y).take n = x := by rw [← h]; simp
theorem drop_app_rd {x y : List Nat} (n : Nat) (h : x.length = n) : (x ++ y).drop n = y := by rw [← h]; simp
/-- a right entry is read from its body -/
theorem parse_body {e : E} (hr : right e = true) (hl : e.bytes.length = 32) : parse e.kind (body e) = e := by
  obtain ⟨f, c, b, m, t, he, h1, h2, h3, h4, h5, h6⟩ := right_nat hr
  obtain ⟨k, f', c', b', m', t', l⟩ := e
  simp only [E.mk.injEq, true_and, and_true] at he hl
  obtain ⟨rfl, rfl, rfl, rfl, rfl⟩ := he
  have p1 : (256 : Nat) ^ 6 = 281474976710656 := by decide
  have p2 : (256 : Nat) ^ 2 = 65536 := by decide
  have p3 : (256 : Nat) ^ 1 = 256 := by decide
  unfold body parse
  simp only [Int.toNat_natCast]
  have L := Cod.leN_length
  have e1 : (Cod.leN 6 f ++ Cod.leN 1 c ++ Cod.leN 1 b ++ Cod.leN 2 m ++ Cod.leN 2 t ++ l) = Cod.leN 6 f ++ (Cod.leN 1 c ++ (Cod.leN 1 b ++ (Cod.leN 2 m ++ (Cod.leN 2 t ++ l)))) := by simp only [List.append_assoc]
  rw [e1]
  have a6 : (Cod.leN 6 f ++ (Cod.leN 1 c ++ (Cod.leN 1 b ++ (Cod.leN 2 m ++ (Cod.leN 2 t ++ l))))).drop 6 = Cod.leN 1 c ++ (Cod.leN 1 b ++ (Cod.leN 2 m ++ (Cod.leN 2 t ++ l))) := drop_app_rd 6 (L _ _)
  have a7 : (Cod.leN 6 f ++ (Cod.leN 1 c ++ (Cod.leN 1 b ++ (Cod.leN 2 m ++ (Cod.leN 2 t ++ l))))).drop 7 = Cod.leN 1 b ++ (Cod.leN 2 m ++ (Cod.leN 2 t ++ l)) := by
    rw [show (7 : Nat) = 6 + 1 by rfl, ← List.drop_drop, a6]; exact drop_app_rd 1 (L _ _)
  have a8 : (Cod.leN 6 f ++ (Cod.leN 1 c ++ (Cod.leN 1 b ++ (Cod.leN 2 m ++ (Cod.leN 2 t ++ l))))).drop 8 = Cod.leN 2 m ++ (Cod.leN 2 t ++ l) := by
    rw [show (8 : Nat) = 7 + 1 by rfl, ← List.drop_drop, a7]; exact drop_app_rd 1 (L _ _)
  have a10 : (Cod.leN 6 f ++ (Cod.leN 1 c ++ (Cod.leN 1 b ++ (Cod.leN 2 m ++ (Cod.leN 2 t ++ l))))).drop 10 = Cod.leN 2 t ++ l := by
    rw [show (10 : Nat) = 8 + 2 by rfl, ← List.drop_drop, a8]; exact drop_app_rd 2 (L _ _)
  have a12 : (Cod.leN 6 f ++ (Cod.leN 1 c ++ (Cod.leN 1 b ++ (Cod.leN 2 m ++ (Cod.leN 2 t ++ l))))).drop 12 = l := by
    rw [show (12 : Nat) = 10 + 2 by rfl, ← List.drop_drop, a10]; exact drop_app_rd 2 (L _ _)
  rw [a6, a7, a8, a10, a12, take_app_rd 6 (L _ _), take_app_rd 1 (L _ _), take_app_rd 1 (L _ _), take_app_rd 2 (L _ _), take_app_rd 2 (L _ _), List.take_of_length_le (by omega)]
  rw [Cod.rd_leN 6 f (by omega), Cod.rd_leN 1 c (by omega), Cod.rd_leN 1 b (by omega), Cod.rd_leN 2 m (by omega), Cod.rd_leN 2 t (by omega)]
end En
