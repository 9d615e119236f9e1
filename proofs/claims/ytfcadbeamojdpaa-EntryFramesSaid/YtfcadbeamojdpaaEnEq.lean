/- '==' of the document's entries; what an entry of a frame comes to. -/
import Derived.Test.YtfcadbeamojdpaaEnROf
import Derived.Test.YtfcadbeamojdpaaEnRBody
namespace Go.Proofs.Ytfcadbeamojdpaa
open Go.RowKit Go.Rv Frm
set_option linter.unusedVariables false
theorem lits_re (f : En.E) (hb : EBody f) (hn : Num38 f) : Try.prog.keyLits 3 64 (EC f).toList = some (enLits f) := by
  obtain ⟨n0, n1, n2, n3, n4, n5⟩ := hn
  have k1 : Try.prog.cellsOf 3 = 1 := by kernel_rfl
  have k32 : Try.prog.cellsOf 52 = 32 := by kernel_rfl
  have k38 : Try.prog.cellsOf 64 = 38 := by kernel_rfl
  have hlen : (EC f).toList.length = 38 := by rw [Array.length_toList, EC_size, hb.1]
  have c0 : ((EC f).toList.drop 0).take 1 = [.int .i64 f.kind] := by simp [EC]
  have c1 : ((EC f).toList.drop 1).take 1 = [.int .i64 f.first] := by simp [EC]
  have c2 : ((EC f).toList.drop 2).take 1 = [.int .i64 f.count] := by simp [EC]
  have c3 : ((EC f).toList.drop 3).take 1 = [.int .i64 f.block] := by simp [EC]
  have c4 : ((EC f).toList.drop 4).take 1 = [.int .i64 f.many] := by simp [EC]
  have c5 : ((EC f).toList.drop 5).take 1 = [.int .i64 f.mate] := by simp [EC]
  have c6 : ((EC f).toList.drop 6).take 32 = (byteCells f.bytes).toList := by
    simp [EC]
    rw [List.take_of_length_le (by rw [Array.length_toList, size_byteCells, hb.1]; omega)]
  have i : ∀ n : Int, (Lit.int .i64 n).wf = true → Try.prog.keyLits 2 3 [.int .i64 n] = some [.int .i64 n] := by
    intro n hn
    simp only [Program.keyLits, Try.underlying3, hn, and_self, if_true]
  have hB := lits_bytes Try.underlying52 Try.underlying5 (by kernel_rfl) k32 f.bytes hb.1 hb.2 0
  unfold Program.keyLits
  simp only [Try.underlying64, k38, hlen]
  rw [if_pos ⟨trivial, by decide +kernel⟩]
  simp only [List.mapM_cons, List.mapM_nil, k1, k32, c0, c1, c2, c3, c4, c5, c6, i _ n0, i _ n1, i _ n2, i _ n3, i _ n4, i _ n5, hB]
  simp [enLits]
theorem eq_re (f g : En.E) (hf : EBody f) (hg : EBody g) (nf : Num38 f) (ng : Num38 g) (b : Bool) (hb : b = true ↔ f = g) (w : World) :
    (Op.equalIn 10000 64 (.agg (EC f)) (.agg (EC g))).run Try.prog w = .ok b w := by
  have hF : ∀ f : En.E, EBody f → (Value.agg (EC f)).formed Try.prog 64 = true := by
    intro l hl
    simp only [Value.formed, Try.underlying64, EC_size, hl.1]
    kernel_rfl
  exact eq_deep (by kernel_rfl) (hF f hf) (hF g hg) (lits_re f hf nf) (lits_re g hg ng) b (hb.trans ⟨fun h => by rw [h], enLits_inj⟩) w
theorem zero_ebody : EBody En.E.zero := ⟨by simp [En.E.zero], by simp [En.E.zero]⟩
theorem zero_num : Num38 En.E.zero := ⟨rfl, rfl, rfl, rfl, rfl, rfl⟩
set_option maxRecDepth 100000 in
theorem zero_lit : EC En.E.zero = #[.int .i64 0, .int .i64 0, .int .i64 0, .int .i64 0, .int .i64 0, .int .i64 0, .int .u8 0, .int .u8 0, .int .u8 0, .int .u8 0, .int .u8 0, .int .u8 0, .int .u8 0, .int .u8 0, .int .u8 0, .int .u8 0, .int .u8 0, .int .u8 0, .int .u8 0, .int .u8 0, .int .u8 0, .int .u8 0, .int .u8 0, .int .u8 0, .int .u8 0, .int .u8 0, .int .u8 0, .int .u8 0, .int .u8 0, .int .u8 0, .int .u8 0, .int .u8 0, .int .u8 0, .int .u8 0, .int .u8 0, .int .u8 0, .int .u8 0, .int .u8 0] := by kernel_rfl
theorem rd_wf {l : List Nat} (hl : ∀ c ∈ l, c < 256) (h : l.length ≤ 7) : (Lit.int .i64 (Cod.rd l : Nat)).wf = true := by
  have h1 := Cod.rd_lt l hl
  have h2 : 256 ^ l.length ≤ 256 ^ 7 := Nat.pow_le_pow_right (by omega) h
  have h3 : (256 : Nat) ^ 7 = 72057594037927936 := by decide
  simp [Lit.wf, IntKind.min, IntKind.max, IntKind.signed, IntKind.bits]
  omega
theorem parse_num {kind : Int} {b : List Nat} (hk : (Lit.int .i64 kind).wf = true) (hb : ∀ c ∈ b, c < 256) : Num38 (En.parse kind b) := by
  have h : ∀ k n, n ≤ 7 → (Lit.int .i64 (Cod.rd ((b.drop k).take n) : Nat)).wf = true := fun k n hn => rd_wf (fun c hc => hb c (List.mem_of_mem_drop (List.mem_of_mem_take hc))) (by rw [List.length_take]; omega)
  refine ⟨hk, ?_, h 6 1 (by omega), h 7 1 (by omega), h 8 2 (by omega), h 10 2 (by omega)⟩
  have := h 0 6 (by omega)
  rwa [List.drop_zero] at this
theorem ofE_num {kind : Int} {b : List Nat} (hk : (Lit.int .i64 kind).wf = true) (hb : ∀ c ∈ b, c < 256) : Num38 (En.ofE kind b).1 := by
  unfold En.ofE
  split
  · exact parse_num hk hb
  · exact zero_num
/-- the frame that an entry has which has been read from it -/
theorem frame_parse (f : Fr) (hb : Body f.body) : (⟨(En.parse f.kind f.body).kind, f.zone, f.off, f.epoch, f.seq, En.body (En.parse f.kind f.body)⟩ : Fr) = f := by
  rw [En.body_parse hb.1 hb.2]
  rfl
/-- when a frame is an entry's -/
theorem readE_cases (f : Fr) (hb : Body f.body) :
    ((En.ofE f.kind f.body).2 ≠ 0 ∧ readE f = (En.E.zero, 10)) ∨ ((En.ofE f.kind f.body).2 = 0 ∧ rightF f = false ∧ readE f = (En.E.zero, 10)) ∨
    ((En.ofE f.kind f.body).2 = 0 ∧ rightF f = true ∧ f.seq < (En.ofE f.kind f.body).1.first ∧ readE f = (En.E.zero, 10)) ∨
    ((En.ofE f.kind f.body).2 = 0 ∧ rightF f = true ∧ ¬ f.seq < (En.ofE f.kind f.body).1.first ∧ (En.ofE f.kind f.body).1.first + (En.ofE f.kind f.body).1.count ≤ f.seq ∧ readE f = (En.E.zero, 10)) ∨
    ((En.ofE f.kind f.body).2 = 0 ∧ rightF f = true ∧ ¬ f.seq < (En.ofE f.kind f.body).1.first ∧ ¬ (En.ofE f.kind f.body).1.first + (En.ofE f.kind f.body).1.count ≤ f.seq ∧ readE f = ((En.ofE f.kind f.body).1, 0) ∧ frameE (En.ofE f.kind f.body).1 f.zone f.off f.epoch f.seq = (f, 0)) := by
  by_cases hr : En.right (En.parse f.kind f.body) = true
  · have ho : En.ofE f.kind f.body = (En.parse f.kind f.body, 0) := by unfold En.ofE; rw [if_pos hr]
    have hfp := frame_parse f hb
    have hfr : frameE (En.parse f.kind f.body) f.zone f.off f.epoch f.seq = if rightF f = true ∧ (En.parse f.kind f.body).first ≤ f.seq ∧ f.seq < (En.parse f.kind f.body).first + (En.parse f.kind f.body).count then (f, 0) else (Fr.zero, 10) := by
      unfold frameE
      rw [hfp]
      simp only [hr, true_and]
    rw [ho]
    unfold readE
    rw [ho]
    simp only [ne_eq, not_true_eq_false, if_false, true_and, false_and, false_or]
    by_cases h1 : rightF f = true
    · right
      by_cases h2 : f.seq < (En.parse f.kind f.body).first
      · left
        have hv : frameE (En.parse f.kind f.body) f.zone f.off f.epoch f.seq = (Fr.zero, 10) := by rw [hfr]; exact if_neg (by omega)
        rw [hv]
        exact ⟨h1, h2, rfl⟩
      · right
        by_cases h3 : (En.parse f.kind f.body).first + (En.parse f.kind f.body).count ≤ f.seq
        · left
          have hv : frameE (En.parse f.kind f.body) f.zone f.off f.epoch f.seq = (Fr.zero, 10) := by rw [hfr]; exact if_neg (by omega)
          rw [hv]
          exact ⟨h1, h2, h3, rfl⟩
        · right
          have hv : frameE (En.parse f.kind f.body) f.zone f.off f.epoch f.seq = (f, 0) := by rw [hfr]; exact if_pos ⟨h1, by omega, by omega⟩
          rw [hv]
          exact ⟨h1, h2, h3, rfl, rfl⟩
    · left
      have hv : frameE (En.parse f.kind f.body) f.zone f.off f.epoch f.seq = (Fr.zero, 10) := by rw [hfr]; exact if_neg (fun h => h1 h.1)
      rw [hv]
      exact ⟨by simpa using h1, rfl⟩
  · left
    have ho : En.ofE f.kind f.body = (En.E.zero, 10) := by unfold En.ofE; rw [if_neg hr]
    unfold readE
    rw [ho]
    simp
end Go.Proofs.Ytfcadbeamojdpaa
