/- Proved here, one behind the other: Proved here: the contract of the document's Right of a frame; Proved here: the document's word on whether there is a sector (layer 17); Proved here: the document's word on the entry of a record (revetmentref17's Record); Proved here: the document's Record says what roll's Record says; Proved here: plain: the zones that Run tells are those of the records, in order, each once; Proved here: a list, as the document has it (the laws' found). -/
import Derived.Deep.MidRow
import Derived.LoopTactic
import Derived.Test.YtoiephmngdecaaaQa
import Derived.Test.YtoiephmngdecaaaQb
import Derived.Test.YtoiephmngdecaaaQc
import Derived.Test.YtoiephmngdecaaaQd
import Derived.Test.YtoiephmngdecaaaQe
import Derived.Test.YtoiephmngdecaaaQf
import Derived.Test.YtoiephmngdecaaaQg
import Derived.Test.YtoiephmngdecaaaQh
namespace Go.Proofs.Ytoiephmngdecaaa
open Go.RowKit Go.Rv Frm
set_option linter.unusedVariables false
set_option maxRecDepth 100000 in
set_option maxHeartbeats 4000000 in
theorem rfright_at (k z o e s : Int) (C : Array Value) (d : Bool) (hd : d = decide (1 ≤ k ∧ k ≤ 5 ∧ 0 ≤ z ∧ z ≤ 65535 ∧ 0 ≤ o ∧ o ≤ 65535 ∧ 1 ≤ e ∧ e ≤ 4294967295 ∧ 0 ≤ s ∧ s ≤ 281474976710655)) (w : World)
    (c0 : (w.alloc (.cells C 59)).cell? ⟨w.heap.size, 0, none⟩ = some (.int .i64 k)) (c1 : (w.alloc (.cells C 59)).cell? ⟨w.heap.size, 1, none⟩ = some (.int .i64 z)) (c2 : (w.alloc (.cells C 59)).cell? ⟨w.heap.size, 2, none⟩ = some (.int .i64 o)) (c3 : (w.alloc (.cells C 59)).cell? ⟨w.heap.size, 3, none⟩ = some (.int .i64 e)) (c4 : (w.alloc (.cells C 59)).cell? ⟨w.heap.size, 4, none⟩ = some (.int .i64 s)) :
    Calls Try.prog 43 #[.agg C] w fun e w' => e = .returned (.bool d) ∧ Below w.heap.size w w' := by
  have hB : Below w.heap.size w (w.alloc (.cells C 59)) := (Below.refl _ _).alloc (Nat.le_refl _) _
  by_cases h0 : 1 ≤ k
  case neg =>
    have HD : Hid (d = false) := by rw [hd]; exact decide_eq_false (by rintro ⟨a0, a1, a2, a3, a4, a5, a6, a7, a8, a9⟩; exact h0 a0)
    have t0 : decide (1 ≤ k) = false := decide_eq_false h0
    clear hd h0
    go_enter Try.func43, Try.ntmps43
    go_wp2
    go_ret
    exact ⟨by rw [HD.out]; rfl, hB⟩
  by_cases h1 : k ≤ 5
  case neg =>
    have HD : Hid (d = false) := by rw [hd]; exact decide_eq_false (by rintro ⟨a0, a1, a2, a3, a4, a5, a6, a7, a8, a9⟩; exact h1 a1)
    have t0 : decide (1 ≤ k) = true := decide_eq_true h0
    have t1 : decide (k ≤ 5) = false := decide_eq_false h1
    clear hd h0 h1
    go_enter Try.func43, Try.ntmps43
    go_wp2
    go_ret
    exact ⟨by rw [HD.out]; rfl, hB⟩
  by_cases h2 : 0 ≤ z
  case neg =>
    have HD : Hid (d = false) := by rw [hd]; exact decide_eq_false (by rintro ⟨a0, a1, a2, a3, a4, a5, a6, a7, a8, a9⟩; exact h2 a2)
    have t0 : decide (1 ≤ k) = true := decide_eq_true h0
    have t1 : decide (k ≤ 5) = true := decide_eq_true h1
    have t2 : decide (0 ≤ z) = false := decide_eq_false h2
    clear hd h0 h1 h2
    go_enter Try.func43, Try.ntmps43
    go_wp2
    go_ret
    exact ⟨by rw [HD.out]; rfl, hB⟩
  by_cases h3 : z ≤ 65535
  case neg =>
    have HD : Hid (d = false) := by rw [hd]; exact decide_eq_false (by rintro ⟨a0, a1, a2, a3, a4, a5, a6, a7, a8, a9⟩; exact h3 a3)
    have t0 : decide (1 ≤ k) = true := decide_eq_true h0
    have t1 : decide (k ≤ 5) = true := decide_eq_true h1
    have t2 : decide (0 ≤ z) = true := decide_eq_true h2
    have t3 : decide (z ≤ 65535) = false := decide_eq_false h3
    clear hd h0 h1 h2 h3
    go_enter Try.func43, Try.ntmps43
    go_wp2
    go_ret
    exact ⟨by rw [HD.out]; rfl, hB⟩
  by_cases h4 : 0 ≤ o
  case neg =>
    have HD : Hid (d = false) := by rw [hd]; exact decide_eq_false (by rintro ⟨a0, a1, a2, a3, a4, a5, a6, a7, a8, a9⟩; exact h4 a4)
    have t0 : decide (1 ≤ k) = true := decide_eq_true h0
    have t1 : decide (k ≤ 5) = true := decide_eq_true h1
    have t2 : decide (0 ≤ z) = true := decide_eq_true h2
    have t3 : decide (z ≤ 65535) = true := decide_eq_true h3
    have t4 : decide (0 ≤ o) = false := decide_eq_false h4
    clear hd h0 h1 h2 h3 h4
    go_enter Try.func43, Try.ntmps43
    go_wp2
    go_ret
    exact ⟨by rw [HD.out]; rfl, hB⟩
  by_cases h5 : o ≤ 65535
  case neg =>
    have HD : Hid (d = false) := by rw [hd]; exact decide_eq_false (by rintro ⟨a0, a1, a2, a3, a4, a5, a6, a7, a8, a9⟩; exact h5 a5)
    have t0 : decide (1 ≤ k) = true := decide_eq_true h0
    have t1 : decide (k ≤ 5) = true := decide_eq_true h1
    have t2 : decide (0 ≤ z) = true := decide_eq_true h2
    have t3 : decide (z ≤ 65535) = true := decide_eq_true h3
    have t4 : decide (0 ≤ o) = true := decide_eq_true h4
    have t5 : decide (o ≤ 65535) = false := decide_eq_false h5
    clear hd h0 h1 h2 h3 h4 h5
    go_enter Try.func43, Try.ntmps43
    go_wp2
    go_ret
    exact ⟨by rw [HD.out]; rfl, hB⟩
  by_cases h6 : 1 ≤ e
  case neg =>
    have HD : Hid (d = false) := by rw [hd]; exact decide_eq_false (by rintro ⟨a0, a1, a2, a3, a4, a5, a6, a7, a8, a9⟩; exact h6 a6)
    have t0 : decide (1 ≤ k) = true := decide_eq_true h0
    have t1 : decide (k ≤ 5) = true := decide_eq_true h1
    have t2 : decide (0 ≤ z) = true := decide_eq_true h2
    have t3 : decide (z ≤ 65535) = true := decide_eq_true h3
    have t4 : decide (0 ≤ o) = true := decide_eq_true h4
    have t5 : decide (o ≤ 65535) = true := decide_eq_true h5
    have t6 : decide (1 ≤ e) = false := decide_eq_false h6
    clear hd h0 h1 h2 h3 h4 h5 h6
    go_enter Try.func43, Try.ntmps43
    go_wp2
    go_ret
    exact ⟨by rw [HD.out]; rfl, hB⟩
  by_cases h7 : e ≤ 4294967295
  case neg =>
    have HD : Hid (d = false) := by rw [hd]; exact decide_eq_false (by rintro ⟨a0, a1, a2, a3, a4, a5, a6, a7, a8, a9⟩; exact h7 a7)
    have t0 : decide (1 ≤ k) = true := decide_eq_true h0
    have t1 : decide (k ≤ 5) = true := decide_eq_true h1
    have t2 : decide (0 ≤ z) = true := decide_eq_true h2
    have t3 : decide (z ≤ 65535) = true := decide_eq_true h3
    have t4 : decide (0 ≤ o) = true := decide_eq_true h4
    have t5 : decide (o ≤ 65535) = true := decide_eq_true h5
    have t6 : decide (1 ≤ e) = true := decide_eq_true h6
    have t7 : decide (e ≤ 4294967295) = false := decide_eq_false h7
    clear hd h0 h1 h2 h3 h4 h5 h6 h7
    go_enter Try.func43, Try.ntmps43
    go_wp2
    go_ret
    exact ⟨by rw [HD.out]; rfl, hB⟩
  by_cases h8 : 0 ≤ s
  case neg =>
    have HD : Hid (d = false) := by rw [hd]; exact decide_eq_false (by rintro ⟨a0, a1, a2, a3, a4, a5, a6, a7, a8, a9⟩; exact h8 a8)
    have t0 : decide (1 ≤ k) = true := decide_eq_true h0
    have t1 : decide (k ≤ 5) = true := decide_eq_true h1
    have t2 : decide (0 ≤ z) = true := decide_eq_true h2
    have t3 : decide (z ≤ 65535) = true := decide_eq_true h3
    have t4 : decide (0 ≤ o) = true := decide_eq_true h4
    have t5 : decide (o ≤ 65535) = true := decide_eq_true h5
    have t6 : decide (1 ≤ e) = true := decide_eq_true h6
    have t7 : decide (e ≤ 4294967295) = true := decide_eq_true h7
    have t8 : decide (0 ≤ s) = false := decide_eq_false h8
    clear hd h0 h1 h2 h3 h4 h5 h6 h7 h8
    go_enter Try.func43, Try.ntmps43
    go_wp2
    go_ret
    exact ⟨by rw [HD.out]; rfl, hB⟩
  by_cases h9 : s ≤ 281474976710655
  case neg =>
    have HD : Hid (d = false) := by rw [hd]; exact decide_eq_false (by rintro ⟨a0, a1, a2, a3, a4, a5, a6, a7, a8, a9⟩; exact h9 a9)
    have t0 : decide (1 ≤ k) = true := decide_eq_true h0
    have t1 : decide (k ≤ 5) = true := decide_eq_true h1
    have t2 : decide (0 ≤ z) = true := decide_eq_true h2
    have t3 : decide (z ≤ 65535) = true := decide_eq_true h3
    have t4 : decide (0 ≤ o) = true := decide_eq_true h4
    have t5 : decide (o ≤ 65535) = true := decide_eq_true h5
    have t6 : decide (1 ≤ e) = true := decide_eq_true h6
    have t7 : decide (e ≤ 4294967295) = true := decide_eq_true h7
    have t8 : decide (0 ≤ s) = true := decide_eq_true h8
    have t9 : decide (s ≤ 281474976710655) = false := decide_eq_false h9
    clear hd h0 h1 h2 h3 h4 h5 h6 h7 h8 h9
    go_enter Try.func43, Try.ntmps43
    go_wp2
    go_ret
    exact ⟨by rw [HD.out]; rfl, hB⟩
  have HD : Hid (d = true) := by rw [hd]; exact decide_eq_true ⟨h0, h1, h2, h3, h4, h5, h6, h7, h8, h9⟩
  have t0 : decide (1 ≤ k) = true := decide_eq_true h0
  have t1 : decide (k ≤ 5) = true := decide_eq_true h1
  have t2 : decide (0 ≤ z) = true := decide_eq_true h2
  have t3 : decide (z ≤ 65535) = true := decide_eq_true h3
  have t4 : decide (0 ≤ o) = true := decide_eq_true h4
  have t5 : decide (o ≤ 65535) = true := decide_eq_true h5
  have t6 : decide (1 ≤ e) = true := decide_eq_true h6
  have t7 : decide (e ≤ 4294967295) = true := decide_eq_true h7
  have t8 : decide (0 ≤ s) = true := decide_eq_true h8
  have t9 : decide (s ≤ 281474976710655) = true := decide_eq_true h9
  clear hd h0 h1 h2 h3 h4 h5 h6 h7 h8 h9
  go_enter Try.func43, Try.ntmps43
  go_wp2
  go_ret
  exact ⟨by rw [HD.out]; rfl, hB⟩
theorem rfright_any (f : Fr) (w : World) :
    Calls Try.prog 43 #[.agg (FC f)] w fun e w' => e = .returned (.bool (rightF f)) ∧ Below w.heap.size w w' := by
  obtain ⟨c0, c1, c2, c3, c4⟩ := frame_cells (heap_alloc_new w (.cells (FC f) 59))
  exact rfright_at f.kind f.zone f.off f.epoch f.seq (FC f) (rightF f) rfl w c0 c1 c2 c3 c4
end Go.Proofs.Ytoiephmngdecaaa
namespace Go.Proofs.Ytoiephmngdecaaa
open Go.RowKit Go.Rv
set_option linter.unusedVariables false
attribute [local go_sem] Oper.semAt_some
def hold17 (g : Geo.G) (z o : Int) : Bool := decide (0 ≤ z) && (decide (z < g.d * g.z) && (decide (0 ≤ o) && decide (o < g.s)))
set_option maxRecDepth 100000 in
set_option maxHeartbeats 2000000 in
theorem hold17_any (g : Geo.G) (zone off : Int) (w : World) (h : Geo.Small g) :
    Calls Try.prog 44 #[.agg (GC g), .int .i64 zone, .int .i64 off] w fun e w' => e = .returned (.bool (hold17 g zone off)) ∧ Below w.heap.size w w' := by
  have hg := heap_alloc_new w (.cells (GC g) 47)
  have hB : Below w.heap.size w (w.alloc (.cells (GC g) 47)) := (Below.refl _ _).alloc (Nat.le_refl _) _
  obtain ⟨c0, c1, c2, -, -, -⟩ := geo_cells hg
  obtain ⟨hd, hz, hs, -⟩ := id h
  have hdz := Geo.dz_bd h
  obtain ⟨d, hde⟩ : ∃ d, g.d = d := ⟨_, rfl⟩
  obtain ⟨z, hze⟩ : ∃ z, g.z = z := ⟨_, rfl⟩
  obtain ⟨s, hse⟩ : ∃ s, g.s = s := ⟨_, rfl⟩
  unfold hold17
  rw [hde, hze, hse]
  rw [hde] at c0 hd hdz
  rw [hze] at c1 hz hdz
  rw [hse] at c2 hs
  generalize GC g = C at *
  clear hg h hde hze hse
  go_enter Try.func44, Try.ntmps44
  cases t1 : decide (0 ≤ zone)
  · simp only [Bool.false_and]
    go_wp2
    go_ret
    exact ⟨rfl, hB⟩
  · cases t2 : decide (zone < d * z)
    · simp only [Bool.true_and, Bool.false_and]
      go_wp2
      go_ret
      exact ⟨rfl, hB⟩
    · cases t3 : decide (0 ≤ off)
      · simp only [Bool.true_and, Bool.false_and]
        go_wp2
        go_ret
        exact ⟨rfl, hB⟩
      · cases t4 : decide (off < s)
        · simp only [Bool.true_and]
          go_wp2
          go_ret
          exact ⟨rfl, hB⟩
        · simp only [Bool.true_and]
          go_wp2
          go_ret
          exact ⟨rfl, hB⟩
end Go.Proofs.Ytoiephmngdecaaa
namespace Go.Proofs.Ytoiephmngdecaaa
open Go.RowKit Go.Rv Rl Frm
set_option linter.unusedVariables false
attribute [local go_sem] Oper.semAt_some
theorem Try.infoF16 : (Try.prog.info? 61).map (fun i => (i.zero, i.size)) = some (some (.agg (fndC fnd0)), 51) := by kernel_rfl
theorem Try.infoF3 : (Try.prog.info? 59).map (fun i => (i.zero, i.size)) = some (some (.agg (FC Fr.zero)), 49) := by kernel_rfl
theorem Try.infoG5 : (Try.prog.info? 47).map (fun i => (i.zero, i.size)) = some (some (.agg (GC ⟨0, 0, 0, 0, 0, 0⟩)), 6) := by kernel_rfl
theorem size_f16 {f : Fnd} (h : FndQ f) : (Try.prog.info? 61).map (·.size) = some (fndC f).size := by rw [kinFnd.size f h]; exact (zero_of_info Try.infoF16).2
theorem size_g5 (g : Geo.G) : (Try.prog.info? 47).map (·.size) = some (GC g).size := by rw [GC_size]; exact (zero_of_info Try.infoG5).2
theorem size_f3 {f : Fr} (h : f.body.length = 44) : (Try.prog.info? 59).map (·.size) = some (FC f).size := by rw [FC_size, h]; exact (zero_of_info Try.infoF3).2
set_option maxRecDepth 100000 in
set_option maxHeartbeats 16000000 in
theorem rrec17_core (w : World) (CF FRC CE : Array Value) (g : Geo.G) (epoch zone off kind fz fo fe sq first count block many mate gz gb : Int) (ok rf h1 h2 rb : Bool) (XL BL : List Value)
    (hCF : ∀ (W : World) (b : Nat), W.heap[b]? = some (.cells CF 61 (0, 0)) → W.cell? ⟨b, 0, none⟩ = some (.int .i64 zone) ∧ W.cell? ⟨b, 1, none⟩ = some (.int .i64 off) ∧ W.rangeAt b 2 XL)
    (hFR : ∀ (W : World) (b : Nat), W.heap[b]? = some (.cells FRC 59 (0, 0)) → W.cell? ⟨b, 0, none⟩ = some (.int .i64 kind) ∧ W.cell? ⟨b, 1, none⟩ = some (.int .i64 fz) ∧ W.cell? ⟨b, 2, none⟩ = some (.int .i64 fo) ∧ W.cell? ⟨b, 3, none⟩ = some (.int .i64 fe) ∧ W.cell? ⟨b, 4, none⟩ = some (.int .i64 sq) ∧ W.rangeAt b 5 BL)
    (hCE : ∀ (W : World) (b : Nat), W.heap[b]? = some (.cells CE 72 (0, 0)) → W.cell? ⟨b, 1, none⟩ = some (.int .i64 first) ∧ W.cell? ⟨b, 2, none⟩ = some (.int .i64 count) ∧ W.cell? ⟨b, 3, none⟩ = some (.int .i64 block) ∧ W.cell? ⟨b, 4, none⟩ = some (.int .i64 many) ∧ W.cell? ⟨b, 5, none⟩ = some (.int .i64 mate))
    (hG : ∀ (W : World) (b : Nat), W.heap[b]? = some (.cells (GC g) 47 (0, 0)) → W.cell? ⟨b, 1, none⟩ = some (.int .i64 gz) ∧ W.cell? ⟨b, 3, none⟩ = some (.int .i64 gb))
    (hXF : XL.toArray = FRC) (hIF : (Try.prog.info? 61).map (·.size) = some CF.size) (hI3 : (Try.prog.info? 59).map (·.size) = some FRC.size) (hIX : (Try.prog.info? 59).map (·.size) = some XL.length) (hIB : (Try.prog.info? 57).map (·.size) = some BL.length) (hIE : (Try.prog.info? 72).map (·.size) = some CE.size) (hSE : (EC En.E.zero).size = CE.size) (hOE : CE.all (·.oneCell') = true) (hSF : (FC Fr.zero).size = FRC.size) (hOF : FRC.all (·.oneCell') = true)
    (HO : ∀ W, Calls Try.prog 42 #[.int .i64 kind, .agg BL.toArray] W fun e w' => e = .returned (.tuple #[.agg CE, .bool ok]) ∧ Below W.heap.size W w')
    (HR : ∀ W, Calls Try.prog 43 #[.agg FRC] W fun e w' => e = .returned (.bool rf) ∧ Below W.heap.size W w')
    (HH1 : ∀ W, Calls Try.prog 44 #[.agg (GC g), .int .i64 zone, .int .i64 off] W fun e w' => e = .returned (.bool h1) ∧ Below W.heap.size W w')
    (HH2 : ∀ W, Calls Try.prog 44 #[.agg (GC g), .int .i64 mate, .int .i64 off] W fun e w' => e = .returned (.bool h2) ∧ Below W.heap.size W w')
    (hbd : ok = true → (0 ≤ first ∧ first ≤ 281474976710655) ∧ (0 ≤ count ∧ count ≤ 4) ∧ (0 ≤ block ∧ block ≤ 255) ∧ (0 ≤ many ∧ many ≤ 256) ∧ (0 ≤ mate ∧ mate ≤ 65535)) (hbz : h1 = true → 0 ≤ zone ∧ zone ≤ 512) (hgz : 1 ≤ gz ∧ gz ≤ 64)
    (hc : (ok = false ∧ rb = false) ∨ (ok = true ∧ rf = false ∧ rb = false) ∨ (ok = true ∧ rf = true ∧ decide (sq < first) = true ∧ rb = false) ∨ (ok = true ∧ rf = true ∧ decide (sq < first) = false ∧ decide (first + count ≤ sq) = true ∧ rb = false) ∨ (ok = true ∧ rf = true ∧ decide (sq < first) = false ∧ decide (first + count ≤ sq) = false ∧ (fe != epoch) = true ∧ rb = false) ∨
      (ok = true ∧ rf = true ∧ decide (sq < first) = false ∧ decide (first + count ≤ sq) = false ∧ (fe != epoch) = false ∧ (fz != zone) = true ∧ rb = false) ∨ (ok = true ∧ rf = true ∧ decide (sq < first) = false ∧ decide (first + count ≤ sq) = false ∧ (fe != epoch) = false ∧ (fz != zone) = false ∧ (fo != off) = true ∧ rb = false) ∨
      (ok = true ∧ rf = true ∧ decide (sq < first) = false ∧ decide (first + count ≤ sq) = false ∧ (fe != epoch) = false ∧ (fz != zone) = false ∧ (fo != off) = false ∧ ((h1 = false ∧ rb = false) ∨ (h1 = true ∧ h2 = false ∧ rb = false) ∨ (h1 = true ∧ h2 = true ∧ (zone / gz == mate / gz) = true ∧ rb = false) ∨
        (h1 = true ∧ h2 = true ∧ (zone / gz == mate / gz) = false ∧ decide (gb ≤ block) = true ∧ rb = false) ∨ (h1 = true ∧ h2 = true ∧ (zone / gz == mate / gz) = false ∧ decide (gb ≤ block) = false ∧ decide (gb < block + many) = true ∧ rb = false) ∨ (h1 = true ∧ h2 = true ∧ (zone / gz == mate / gz) = false ∧ decide (gb ≤ block) = false ∧ decide (gb < block + many) = false ∧ rb = true)))) :
    Calls Try.prog 18 #[.agg (GC g), .int .i64 epoch, .agg CF] w fun e w' => e = .returned (.tuple #[.agg (if rb = true then CE else EC En.E.zero), .bool rb]) ∧ Below w.heap.size w w' := by
  have hz := (zero_of_info Try.infoRE).1
  have hzf := (zero_of_info Try.infoF3).1
  have HCF := Lib.hid hCF
  have HFR := Lib.hid hFR
  have HCE := Lib.hid hCE
  have HGG := Lib.hid hG
  have HXF := Lib.hid hXF
  have HIF := Lib.hid hIF
  have HI3 := Lib.hid hI3
  have HIX := Lib.hid hIX
  have HIB := Lib.hid hIB
  have HIE := Lib.hid hIE
  have HSE := Lib.hid hSE
  have HOE := Lib.hid hOE
  have HSF := Lib.hid hSF
  have HOF := Lib.hid hOF
  have HOO := Lib.hid HO
  have HRR := Lib.hid HR
  have HHA := Lib.hid HH1
  have HHB := Lib.hid HH2
  have HBD := Lib.hid hbd
  have HBZ2 := Lib.hid hbz
  have HGI := Lib.hid (size_g5 g)
  have HIZ := Lib.hid (size_re (e := En.E.zero) (by simp [En.E.zero]))
  have HOZ := Lib.hid (EC_one En.E.zero)
  have HBZ := Lib.hid built_re0
  obtain ⟨Z, hZ⟩ : ∃ Z, EC En.E.zero = Z := ⟨_, rfl⟩
  rw [hZ] at hz HIZ HOZ HBZ HSE ⊢
  obtain ⟨FZ, hFZ⟩ : ∃ Z, FC Fr.zero = Z := ⟨_, rfl⟩
  rw [hFZ] at hzf HSF
  obtain ⟨CG, hCG⟩ : ∃ C, GC g = C := ⟨_, rfl⟩
  rw [hCG] at HHA HHB HGI HGG ⊢
  have hB0 : Below w.heap.size w (((w.alloc (.cells CG 47)).alloc (.cells CF 61)).alloc (.cells Z 72)) := (((Below.refl _ _).alloc (Nat.le_refl _) _).alloc (by simp) _).alloc (by simp; omega) _
  obtain ⟨W0, hW0⟩ : ∃ W0, ((w.alloc (.cells CG 47)).alloc (.cells CF 61)).alloc (.cells Z 72) = W0 := ⟨_, rfl⟩
  have hG0 : W0.heap[w.heap.size]? = some (.cells CG 47 (0, 0)) := by rw [← hW0, alloc_old _ _ (by simp; omega), alloc_old _ _ (by simp)]; exact alloc_new _ _ rfl
  have hF0 : W0.heap[w.heap.size + 1]? = some (.cells CF 61 (0, 0)) := by rw [← hW0, alloc_old _ _ (by simp)]; exact alloc_new _ _ (by simp)
  have hR0 : W0.heap[w.heap.size + 1 + 1]? = some (.cells Z 72 (0, 0)) := by rw [← hW0]; exact alloc_new _ _ (by simp)
  rw [hW0] at hB0
  have HW0 := Lib.hid hW0
  have HB0 := Lib.hid hB0
  have HG0 := Lib.hid hG0
  have HF0 := Lib.hid hF0
  have HR0 := Lib.hid hR0
  have z0 : w.heap.size + 1 + 1 < W0.heap.size := (Array.getElem?_eq_some_iff.1 hR0).1
  have HRG := Lib.hid (HCF.out W0 _ hF0).2.2
  obtain ⟨W1, hW1⟩ : ∃ W, W0.alloc (.cells FRC 59) = W := ⟨_, rfl⟩
  have hb1 : Below W0.heap.size W0 W1 := by rw [← hW1]; exact (Below.refl _ _).alloc (Nat.le_refl _) _
  have hf1 : W1.heap[W0.heap.size]? = some (.cells FRC 59 (0, 0)) := by rw [← hW1]; exact heap_alloc_new W0 _
  have zf1 : W0.heap.size < W1.heap.size := (Array.getElem?_eq_some_iff.1 hf1).1
  have HF1 := Lib.hid hf1
  have HB1 := Lib.hid hb1
  have HW1 := Lib.hid hW1
  have HFIN : Hid (∀ (W : World) (X : Array Value), Below W0.heap.size W0 W → Below w.heap.size w (W.setRow (w.heap.size + 1 + 1) X) ∧ (W.setRow (w.heap.size + 1 + 1) X).heap[w.heap.size + 1 + 1]? = some (.cells X 72 (0, 0))) := Lib.hid (fun W X hB => ⟨below_setRow (hB0.trans (hB.mono (by omega))) (by omega) _, setRow_heap _ _ _ _ _ _ ((hB.block _ z0).trans hR0)⟩)
  have k0 := (HFR.out W1 _ hf1).1
  have HBR := Lib.hid (HFR.out W1 _ hf1).2.2.2.2.2
  clear hCF hFR hCE hG hXF hIF hI3 hIX hIB hIE hSE hOE hSF hOF HO HR HH1 HH2 hbd hbz hZ hFZ hCG hB0 hW0 hG0 hF0 hR0 hW1 hb1 hf1
  go_enter Try.func18, Try.ntmps18
  go_upto_region 1 with (fail)
  rw [HW0.out]
  go_upto_region 2 with (first | (refine wpList_load_mid rfl 59 _ rfl (w.heap.size + 1) 2 rfl XL _ HRG.out Try.underlying59 rfl HIX.out ?_; rw [HXF.out]) | (refine wpList_store_row rfl 59 _ _ rfl W0.heap.size FRC rfl rfl 59 FZ (heap_alloc_new W0 _) HI3.out HSF.out HOF.out ?_; rw [World.setRow_alloc_new]))
  rw [HW1.out]
  try rw [put_none]
  obtain ⟨b8, hb8⟩ : ∃ b, W0.heap.size = b := ⟨_, rfl⟩
  have HB8 := Lib.hid hb8
  rw [hb8] at HF1 zf1 k0 HBR z0 ⊢
  clear hb8
  go_wp2_with (refine wpList_load_mid rfl 57 _ rfl b8 5 rfl BL _ HBR.out Try.underlying57 rfl HIB.out ?_)
  refine (HOO.out _).mono ?_
  rintro e2 w2 ⟨rfl, hB2⟩
  have z2 := hB2.size
  obtain ⟨W3, hW3⟩ : ∃ W, w2.alloc (.cells CE 72) = W := ⟨_, rfl⟩
  have hb3 : Below W1.heap.size W1 W3 := by rw [← hW3]; exact hB2.alloc z2 _
  have he3 : W3.heap[w2.heap.size]? = some (.cells CE 72 (0, 0)) := by rw [← hW3]; exact heap_alloc_new w2 _
  have zE3 : w2.heap.size < W3.heap.size := (Array.getElem?_eq_some_iff.1 he3).1
  have z3 := hb3.size
  have HB3 : Hid (Below b8 W0 W3) := Lib.hid (by rw [← HB8.out]; exact HB1.out.trans (hb3.mono (by have := HB1.out.size; omega)))
  have HE3 := Lib.hid he3
  have HF3 := Lib.hid ((hb3.block b8 zf1).trans HF1.out)
  have HW3 := Lib.hid hW3
  have HKE : Hid (∀ W, Below W3.heap.size W3 W → W.cell? ⟨w2.heap.size, 1, none⟩ = some (.int .i64 first) ∧ W.cell? ⟨w2.heap.size, 2, none⟩ = some (.int .i64 count) ∧ W.cell? ⟨w2.heap.size, 3, none⟩ = some (.int .i64 block) ∧ W.cell? ⟨w2.heap.size, 4, none⟩ = some (.int .i64 many) ∧ W.cell? ⟨w2.heap.size, 5, none⟩ = some (.int .i64 mate)) := Lib.hid (fun W hB => HCE.out W _ ((hB.block _ zE3).trans he3))
  have HKR : Hid (∀ W, Below W3.heap.size W3 W → W.cell? ⟨b8, 0, none⟩ = some (.int .i64 kind) ∧ W.cell? ⟨b8, 1, none⟩ = some (.int .i64 fz) ∧ W.cell? ⟨b8, 2, none⟩ = some (.int .i64 fo) ∧ W.cell? ⟨b8, 3, none⟩ = some (.int .i64 fe) ∧ W.cell? ⟨b8, 4, none⟩ = some (.int .i64 sq)) := Lib.hid (fun W hB => by
    obtain ⟨c0, c1, c2, c3, c4, -⟩ := HFR.out W b8 ((hB.block _ (by omega)).trans HF3.out)
    exact ⟨c0, c1, c2, c3, c4⟩)
  have HKF : Hid (∀ W, Below W3.heap.size W3 W → W.cell? ⟨w.heap.size + 1, 0, none⟩ = some (.int .i64 zone) ∧ W.cell? ⟨w.heap.size + 1, 1, none⟩ = some (.int .i64 off)) := Lib.hid (fun W hB => by
    obtain ⟨c0, c1, -⟩ := HCF.out W (w.heap.size + 1) (((hB.block _ (by omega)).trans (HB3.out.block _ (by omega))).trans HF0.out)
    exact ⟨c0, c1⟩)
  have HKG : Hid (∀ W, Below W3.heap.size W3 W → W.heap[w.heap.size]? = some (.cells CG 47 (0, 0))) := Lib.hid (fun W hB => ((hB.block _ (by omega)).trans (HB3.out.block _ (by omega))).trans HG0.out)
  have HFN : Hid (∀ (W : World) (X : Array Value), Below W3.heap.size W3 W → Below w.heap.size w (W.setRow (w.heap.size + 1 + 1) X) ∧ (W.setRow (w.heap.size + 1 + 1) X).heap[w.heap.size + 1 + 1]? = some (.cells X 72 (0, 0)) ∧ W.heap[w.heap.size + 1 + 1]? = some (.cells Z 72 (0, 0))) := Lib.hid (fun W X hB => by
    have h1 : Below W0.heap.size W0 W := by rw [HB8.out]; exact HB3.out.trans (hB.mono (by omega))
    exact ⟨(HFIN.out W X h1).1, (HFIN.out W X h1).2, (h1.block _ (by rw [HB8.out]; exact z0)).trans HR0.out⟩)
  clear hB2 hb3 he3 hW3 k0
  go_upto_region 3 with (refine wpList_store_row rfl 72 _ _ rfl w2.heap.size CE rfl rfl 72 Z (heap_alloc_new w2 _) HIE.out HSE.out HOE.out ?_; rw [World.setRow_alloc_new])
  rw [HW3.out]
  try rw [put_none]
  obtain ⟨b9, hb9⟩ : ∃ b, w2.heap.size = b := ⟨_, rfl⟩
  rw [hb9] at HE3 zE3 HKE ⊢
  clear hb9
  rcases hc with ⟨rfl, rfl⟩ | hc
  · go_upto_region 4 with (fail)
    obtain ⟨r1, r2, r3⟩ := HFN.out W3 Z (Below.refl _ _)
    go_wp2_with (first | (refine wpList_build_on (by rfl) 72 _ rfl #[] (by simp) Z HBZ.out ?_) | (refine wpList_store_row rfl 72 _ _ rfl (w.heap.size + 1 + 1) Z rfl rfl 72 Z r3 HIZ.out rfl HOZ.out ?_))
    refine bodyPost_ret (res_row_tmp rfl _ _ (w.heap.size + 1 + 1) 72 Z _ _ rfl r2 Try.underlying72 rfl HIZ.out) rfl ?_
    exact ⟨rfl, r1⟩
  have hok : ok = true := by
    rcases hc with ⟨h, -⟩ | ⟨h, -⟩ | ⟨h, -⟩ | ⟨h, -⟩ | ⟨h, -⟩ | ⟨h, -⟩ | ⟨h, -⟩ <;> exact h
  subst hok
  obtain ⟨hb1', hb2', hb3', hb4', hb5'⟩ := HBD.out rfl
  go_wp2_with (refine wpList_row_on (by rfl) 59 _ rfl b8 rfl 59 _ _ _ HF3.out Try.underlying59 rfl HI3.out ?_)
  refine (HRR.out _).mono ?_
  rintro e4 w4 ⟨rfl, hB4⟩
  obtain ⟨-, f1, f2, f3, f4⟩ := HKR.out w4 hB4
  obtain ⟨e1, e2, -, -, -⟩ := HKE.out w4 hB4
  obtain ⟨g1, g2⟩ := HKF.out w4 hB4
  have HB4 := Lib.hid hB4
  clear hB4
  rcases hc with ⟨-, rfl, rfl⟩ | ⟨-, rfl, t1, rfl⟩ | ⟨-, rfl, t1, t2, rfl⟩ | ⟨-, rfl, t1, t2, t3, rfl⟩ | ⟨-, rfl, t1, t2, t3, t4, rfl⟩ | ⟨-, rfl, t1, t2, t3, t4, t5, rfl⟩ | ⟨-, rfl, t1, t2, t3, t4, t5, hc⟩
  · go_upto_region 4 with (fail)
    obtain ⟨r1, r2, r3⟩ := HFN.out w4 Z HB4.out
    clear f1 f2 f3 f4 e1 e2 g1 g2
    go_wp2_with (first | (refine wpList_build_on (by rfl) 72 _ rfl #[] (by simp) Z HBZ.out ?_) | (refine wpList_store_row rfl 72 _ _ rfl (w.heap.size + 1 + 1) Z rfl rfl 72 Z r3 HIZ.out rfl HOZ.out ?_))
    refine bodyPost_ret (res_row_tmp rfl _ _ (w.heap.size + 1 + 1) 72 Z _ _ rfl r2 Try.underlying72 rfl HIZ.out) rfl ?_
    exact ⟨rfl, r1⟩
  · go_upto_region 4 with (fail)
    obtain ⟨r1, r2, r3⟩ := HFN.out w4 Z HB4.out
    clear f1 f2 f3 f4 e1 e2 g1 g2
    go_wp2_with (first | (refine wpList_build_on (by rfl) 72 _ rfl #[] (by simp) Z HBZ.out ?_) | (refine wpList_store_row rfl 72 _ _ rfl (w.heap.size + 1 + 1) Z rfl rfl 72 Z r3 HIZ.out rfl HOZ.out ?_))
    refine bodyPost_ret (res_row_tmp rfl _ _ (w.heap.size + 1 + 1) 72 Z _ _ rfl r2 Try.underlying72 rfl HIZ.out) rfl ?_
    exact ⟨rfl, r1⟩
  · go_upto_region 4 with (fail)
    obtain ⟨r1, r2, r3⟩ := HFN.out w4 Z HB4.out
    clear f1 f2 f3 f4 e1 e2 g1 g2
    go_wp2_with (first | (refine wpList_build_on (by rfl) 72 _ rfl #[] (by simp) Z HBZ.out ?_) | (refine wpList_store_row rfl 72 _ _ rfl (w.heap.size + 1 + 1) Z rfl rfl 72 Z r3 HIZ.out rfl HOZ.out ?_))
    refine bodyPost_ret (res_row_tmp rfl _ _ (w.heap.size + 1 + 1) 72 Z _ _ rfl r2 Try.underlying72 rfl HIZ.out) rfl ?_
    exact ⟨rfl, r1⟩
  · go_upto_region 4 with (fail)
    obtain ⟨r1, r2, r3⟩ := HFN.out w4 Z HB4.out
    clear f1 f2 f3 f4 e1 e2 g1 g2
    go_wp2_with (first | (refine wpList_build_on (by rfl) 72 _ rfl #[] (by simp) Z HBZ.out ?_) | (refine wpList_store_row rfl 72 _ _ rfl (w.heap.size + 1 + 1) Z rfl rfl 72 Z r3 HIZ.out rfl HOZ.out ?_))
    refine bodyPost_ret (res_row_tmp rfl _ _ (w.heap.size + 1 + 1) 72 Z _ _ rfl r2 Try.underlying72 rfl HIZ.out) rfl ?_
    exact ⟨rfl, r1⟩
  · go_upto_region 4 with (fail)
    obtain ⟨r1, r2, r3⟩ := HFN.out w4 Z HB4.out
    clear f1 f2 f3 f4 e1 e2 g1 g2
    go_wp2_with (first | (refine wpList_build_on (by rfl) 72 _ rfl #[] (by simp) Z HBZ.out ?_) | (refine wpList_store_row rfl 72 _ _ rfl (w.heap.size + 1 + 1) Z rfl rfl 72 Z r3 HIZ.out rfl HOZ.out ?_))
    refine bodyPost_ret (res_row_tmp rfl _ _ (w.heap.size + 1 + 1) 72 Z _ _ rfl r2 Try.underlying72 rfl HIZ.out) rfl ?_
    exact ⟨rfl, r1⟩
  · go_upto_region 4 with (fail)
    obtain ⟨r1, r2, r3⟩ := HFN.out w4 Z HB4.out
    clear f1 f2 f3 f4 e1 e2 g1 g2
    go_wp2_with (first | (refine wpList_build_on (by rfl) 72 _ rfl #[] (by simp) Z HBZ.out ?_) | (refine wpList_store_row rfl 72 _ _ rfl (w.heap.size + 1 + 1) Z rfl rfl 72 Z r3 HIZ.out rfl HOZ.out ?_))
    refine bodyPost_ret (res_row_tmp rfl _ _ (w.heap.size + 1 + 1) 72 Z _ _ rfl r2 Try.underlying72 rfl HIZ.out) rfl ?_
    exact ⟨rfl, r1⟩
  · go_upto_region 5 with (fail)
    clear t1 t2 t3 t4 t5 f1 f2 f3 f4 e1 e2 g1 g2
    have HKE4 : Hid (∀ W, Below w4.heap.size w4 W → W.cell? ⟨b9, 3, none⟩ = some (.int .i64 block) ∧ W.cell? ⟨b9, 4, none⟩ = some (.int .i64 many) ∧ W.cell? ⟨b9, 5, none⟩ = some (.int .i64 mate)) := Lib.hid (fun W hB => (HKE.out W (HB4.out.trans (hB.mono HB4.out.size))).2.2)
    have HKF4 : Hid (∀ W, Below w4.heap.size w4 W → W.cell? ⟨w.heap.size + 1, 0, none⟩ = some (.int .i64 zone) ∧ W.cell? ⟨w.heap.size + 1, 1, none⟩ = some (.int .i64 off)) := Lib.hid (fun W hB => HKF.out W (HB4.out.trans (hB.mono HB4.out.size)))
    have HKG4 : Hid (∀ W, Below w4.heap.size w4 W → W.heap[w.heap.size]? = some (.cells CG 47 (0, 0))) := Lib.hid (fun W hB => HKG.out W (HB4.out.trans (hB.mono HB4.out.size)))
    have HFN4 : Hid (∀ (W : World) (X : Array Value), Below w4.heap.size w4 W → Below w.heap.size w (W.setRow (w.heap.size + 1 + 1) X) ∧ (W.setRow (w.heap.size + 1 + 1) X).heap[w.heap.size + 1 + 1]? = some (.cells X 72 (0, 0)) ∧ W.heap[w.heap.size + 1 + 1]? = some (.cells Z 72 (0, 0))) := Lib.hid (fun W X hB => HFN.out W X (HB4.out.trans (hB.mono HB4.out.size)))
    have HE4' : Hid (∀ W, Below w4.heap.size w4 W → W.heap[b9]? = some (.cells CE 72 (0, 0))) := Lib.hid (fun W hB => ((HB4.out.trans (hB.mono HB4.out.size)).block b9 zE3).trans HE3.out)
    rcases hc with ⟨rfl, rfl⟩ | ⟨rfl, rfl, rfl⟩ | ⟨rfl, rfl, t6, rfl⟩ | ⟨rfl, rfl, t6, t7, rfl⟩ | ⟨rfl, rfl, t6, t7, t8, rfl⟩ | ⟨rfl, rfl, t6, t7, t8, rfl⟩
    · have hzb := HBZ2.out
      refine wp_region_conf2 45 [Fact.eq (.agg CG), Fact.eq (.pointer (some ⟨w.heap.size + 1, 0, none⟩)), Fact.eq (.int .i64 (zone)), Fact.eq (.pointer (some ⟨w.heap.size + 1, 1, none⟩)), Fact.eq (.int .i64 (off)), Fact.eq (.bool false), Fact.eq (.bool true), Fact.eq (.bool true), Fact.eq undef, Fact.eq undef, Fact.eq undef, Fact.eq undef, Fact.eq undef, Fact.eq undef, Fact.eq undef, Fact.eq (.bool true), Fact.eq (.bool true), Fact.eq undef, Fact.eq undef, Fact.eq undef, Fact.eq undef, Fact.eq undef, Fact.eq undef, Fact.eq undef, Fact.eq undef, Fact.eq undef, Fact.eq undef, Fact.eq undef, Fact.eq (.bool true), Fact.eq (.bool true), Fact.eq undef, Fact.eq undef, Fact.eq undef, Fact.eq undef, Fact.eq undef, Fact.eq (.bool true), Fact.eq (.bool true), Fact.eq undef, Fact.eq undef, Fact.eq undef, Fact.eq undef, Fact.eq undef, Fact.eq undef, Fact.eq undef, Fact.eq undef] ?raA (by kernel_rfl) (by kernel_rfl) ?rahA ?raho ?rahend
      case rahA =>
        intro vv
        simp only [putRules, Nat.reduceAdd]
        rfl
      case raho =>
        refine ⟨?_, ?_, ?_, ?_, ?_, ?_, ?_, ?_, ?_, ?_, ?_, ?_, ?_, ?_, ?_, ?_, ?_, ?_, ?_, ?_, ?_, ?_, ?_, ?_, ?_, ?_, ?_, ?_, ?_, ?_, ?_, ?_, ?_, ?_, ?_, ?_, ?_, ?_, ?_, ?_, ?_, ?_, ?_, ?_, ?_, trivial⟩
        · intro vv W K hB hd HK
          simp only [confRules] at HK
          clear hd
          refine wpList_load_row rfl 47 _ rfl w.heap.size rfl 47 _ _ _ (HKG4.out W hB) Try.underlying47 rfl HGI.out ?_
          refine HK.out _ _ (Below.refl _ _) ?_
          rfl
        · intro vv W K hB hd HK
          simp only [confRules] at HK
          clear hd
          go_wp2
          refine HK.out _ _ (Below.refl _ _) ?_
          rfl
        · intro vv W K hB hd HK
          simp only [confRules] at hd HK
          have h1 := hd
          clear hd
          simp only [h1] at HK ⊢
          clear h1
          obtain ⟨c9, -⟩ := HKF4.out W hB
          go_wp2
          refine HK.out _ _ (Below.refl _ _) ?_
          rfl
        · intro vv W K hB hd HK
          simp only [confRules] at HK
          clear hd
          go_wp2
          refine HK.out _ _ (Below.refl _ _) ?_
          rfl
        · intro vv W K hB hd HK
          simp only [confRules] at hd HK
          have h3 := hd
          clear hd
          simp only [h3] at HK ⊢
          clear h3
          obtain ⟨-, c9⟩ := HKF4.out W hB
          go_wp2
          refine HK.out _ _ (Below.refl _ _) ?_
          rfl
        · intro vv W K hB hd HK
          simp only [confRules] at hd HK
          obtain ⟨h0, h2, h4⟩ := hd
          simp only [h0, h2, h4] at HK ⊢
          clear h0 h2 h4
          go_wp2_with (refine (HHA.out _).mono ?_; rintro e w9 ⟨rfl, hB9⟩)
          refine HK.out _ _ hB9 ?_
          rfl
        · intro vv W K hB hd HK
          simp only [confRules] at hd HK
          have h5 := hd
          clear hd
          simp only [h5] at HK ⊢
          clear h5
          go_wp2
          refine HK.out _ _ (Below.refl _ _) ?_
          rfl
        · intro vv W K hB hd HK
          simp only [confRules] at hd HK
          obtain ⟨h6, h5⟩ := hd
          simp only [h6, h5] at HK ⊢
          clear h6 h5
          go_wp2
          refine HK.out _ _ (Below.refl _ _) ?_
          rfl
        · intro vv W K hB hd HK
          simp only [confRules] at hd HK
          have h7 := hd
          clear hd
          simp only [h7] at HK ⊢
          clear h7
          refine wpList_guard_no (by rfl) ?_
          refine HK.out _ _ (Below.refl _ _) ?_
          rfl
        · intro vv W K hB hd HK
          simp only [confRules] at hd HK
          have h7 := hd
          clear hd
          simp only [h7] at HK ⊢
          clear h7
          refine wpList_guard_no (by rfl) ?_
          refine HK.out _ _ (Below.refl _ _) ?_
          rfl
        · intro vv W K hB hd HK
          simp only [confRules] at hd HK
          obtain ⟨h9, h7⟩ := hd
          simp only [h9, h7] at HK ⊢
          clear h9 h7
          refine wpList_guard_no (by rfl) ?_
          refine HK.out _ _ (Below.refl _ _) ?_
          rfl
        · intro vv W K hB hd HK
          simp only [confRules] at hd HK
          have h7 := hd
          clear hd
          simp only [h7] at HK ⊢
          clear h7
          refine wpList_guard_no (by rfl) ?_
          refine HK.out _ _ (Below.refl _ _) ?_
          rfl
        · intro vv W K hB hd HK
          simp only [confRules] at hd HK
          obtain ⟨h11, h7⟩ := hd
          simp only [h11, h7] at HK ⊢
          clear h11 h7
          refine wpList_guard_no (by rfl) ?_
          refine HK.out _ _ (Below.refl _ _) ?_
          rfl
        · intro vv W K hB hd HK
          simp only [confRules] at hd HK
          obtain ⟨h8, h10, h12, h7, _⟩ := hd
          simp only [h8, h10, h12, h7] at HK ⊢
          clear h8 h10 h12 h7
          refine wpList_guard_no (by rfl) ?_
          refine HK.out _ _ (Below.refl _ _) ?_
          rfl
        · intro vv W K hB hd HK
          simp only [confRules] at hd HK
          obtain ⟨h13, h7⟩ := hd
          simp only [h13, h7] at HK ⊢
          clear h13 h7
          refine wpList_guard_no (by rfl) ?_
          refine HK.out _ _ (Below.refl _ _) ?_
          rfl
        · intro vv W K hB hd HK
          simp only [confRules] at hd HK
          obtain ⟨h7, h14⟩ := hd
          simp only [h7, h14] at HK ⊢
          clear h7 h14
          go_wp2
          refine HK.out _ _ (Below.refl _ _) ?_
          rfl
        · intro vv W K hB hd HK
          simp only [confRules] at hd HK
          obtain ⟨h15, h13⟩ := hd
          simp only [h15, h13] at HK ⊢
          clear h15 h13
          go_wp2
          refine HK.out _ _ (Below.refl _ _) ?_
          rfl
        · intro vv W K hB hd HK
          simp only [confRules] at hd HK
          have h16 := hd
          clear hd
          simp only [h16] at HK ⊢
          clear h16
          refine wpList_guard_no (by rfl) ?_
          refine HK.out _ _ (Below.refl _ _) ?_
          rfl
        · intro vv W K hB hd HK
          simp only [confRules] at hd HK
          obtain ⟨h17, h16⟩ := hd
          simp only [h17, h16] at HK ⊢
          clear h17 h16
          refine wpList_guard_no (by rfl) ?_
          refine HK.out _ _ (Below.refl _ _) ?_
          rfl
        · intro vv W K hB hd HK
          simp only [confRules] at hd HK
          have h16 := hd
          clear hd
          simp only [h16] at HK ⊢
          clear h16
          refine wpList_guard_no (by rfl) ?_
          refine HK.out _ _ (Below.refl _ _) ?_
          rfl
        · intro vv W K hB hd HK
          simp only [confRules] at hd HK
          obtain ⟨h19, h16⟩ := hd
          simp only [h19, h16] at HK ⊢
          clear h19 h16
          refine wpList_guard_no (by rfl) ?_
          refine HK.out _ _ (Below.refl _ _) ?_
          rfl
        · intro vv W K hB hd HK
          simp only [confRules] at hd HK
          obtain ⟨h18, h20, h16⟩ := hd
          simp only [h18, h20, h16] at HK ⊢
          clear h18 h20 h16
          refine wpList_guard_no (by rfl) ?_
          refine HK.out _ _ (Below.refl _ _) ?_
          rfl
        · intro vv W K hB hd HK
          simp only [confRules] at hd HK
          have h16 := hd
          clear hd
          simp only [h16] at HK ⊢
          clear h16
          refine wpList_guard_no (by rfl) ?_
          refine HK.out _ _ (Below.refl _ _) ?_
          rfl
        · intro vv W K hB hd HK
          simp only [confRules] at hd HK
          obtain ⟨h22, h16⟩ := hd
          simp only [h22, h16] at HK ⊢
          clear h22 h16
          refine wpList_guard_no (by rfl) ?_
          refine HK.out _ _ (Below.refl _ _) ?_
          rfl
        · intro vv W K hB hd HK
          simp only [confRules] at hd HK
          have h16 := hd
          clear hd
          simp only [h16] at HK ⊢
          clear h16
          refine wpList_guard_no (by rfl) ?_
          refine HK.out _ _ (Below.refl _ _) ?_
          rfl
        · intro vv W K hB hd HK
          simp only [confRules] at hd HK
          obtain ⟨h24, h16⟩ := hd
          simp only [h24, h16] at HK ⊢
          clear h24 h16
          refine wpList_guard_no (by rfl) ?_
          refine HK.out _ _ (Below.refl _ _) ?_
          rfl
        · intro vv W K hB hd HK
          simp only [confRules] at hd HK
          obtain ⟨h23, h25, h16⟩ := hd
          simp only [h23, h25, h16] at HK ⊢
          clear h23 h25 h16
          refine wpList_guard_no (by rfl) ?_
          refine HK.out _ _ (Below.refl _ _) ?_
          rfl
        · intro vv W K hB hd HK
          simp only [confRules] at hd HK
          obtain ⟨h21, h26, h16⟩ := hd
          simp only [h21, h26, h16] at HK ⊢
          clear h21 h26 h16
          refine wpList_guard_no (by rfl) ?_
          refine HK.out _ _ (Below.refl _ _) ?_
          rfl
        · intro vv W K hB hd HK
          simp only [confRules] at hd HK
          obtain ⟨h16, h27⟩ := hd
          simp only [h16, h27] at HK ⊢
          clear h16 h27
          go_wp2
          refine HK.out _ _ (Below.refl _ _) ?_
          rfl
        · intro vv W K hB hd HK
          simp only [confRules] at hd HK
          obtain ⟨h28, h16⟩ := hd
          simp only [h28, h16] at HK ⊢
          clear h28 h16
          go_wp2
          refine HK.out _ _ (Below.refl _ _) ?_
          rfl
        · intro vv W K hB hd HK
          simp only [confRules] at hd HK
          have h29 := hd
          clear hd
          simp only [h29] at HK ⊢
          clear h29
          refine wpList_guard_no (by rfl) ?_
          refine HK.out _ _ (Below.refl _ _) ?_
          rfl
        · intro vv W K hB hd HK
          simp only [confRules] at hd HK
          obtain ⟨h30, h29⟩ := hd
          simp only [h30, h29] at HK ⊢
          clear h30 h29
          refine wpList_guard_no (by rfl) ?_
          refine HK.out _ _ (Below.refl _ _) ?_
          rfl
        · intro vv W K hB hd HK
          simp only [confRules] at hd HK
          have h29 := hd
          clear hd
          simp only [h29] at HK ⊢
          clear h29
          refine wpList_guard_no (by rfl) ?_
          refine HK.out _ _ (Below.refl _ _) ?_
          rfl
        · intro vv W K hB hd HK
          simp only [confRules] at hd HK
          obtain ⟨h32, h29⟩ := hd
          simp only [h32, h29] at HK ⊢
          clear h32 h29
          refine wpList_guard_no (by rfl) ?_
          refine HK.out _ _ (Below.refl _ _) ?_
          rfl
        · intro vv W K hB hd HK
          simp only [confRules] at hd HK
          obtain ⟨h31, h33, h29⟩ := hd
          simp only [h31, h33, h29] at HK ⊢
          clear h31 h33 h29
          refine wpList_guard_no (by rfl) ?_
          refine HK.out _ _ (Below.refl _ _) ?_
          rfl
        · intro vv W K hB hd HK
          simp only [confRules] at hd HK
          obtain ⟨h29, h34⟩ := hd
          simp only [h29, h34] at HK ⊢
          clear h29 h34
          go_wp2
          refine HK.out _ _ (Below.refl _ _) ?_
          rfl
        · intro vv W K hB hd HK
          simp only [confRules] at hd HK
          obtain ⟨h35, h29⟩ := hd
          simp only [h35, h29] at HK ⊢
          clear h35 h29
          go_wp2
          refine HK.out _ _ (Below.refl _ _) ?_
          rfl
        · intro vv W K hB hd HK
          simp only [confRules] at hd HK
          have h36 := hd
          clear hd
          simp only [h36] at HK ⊢
          clear h36
          refine wpList_guard_no (by rfl) ?_
          refine HK.out _ _ (Below.refl _ _) ?_
          rfl
        · intro vv W K hB hd HK
          simp only [confRules] at hd HK
          obtain ⟨h37, h36⟩ := hd
          simp only [h37, h36] at HK ⊢
          clear h37 h36
          refine wpList_guard_no (by rfl) ?_
          refine HK.out _ _ (Below.refl _ _) ?_
          rfl
        · intro vv W K hB hd HK
          simp only [confRules] at hd HK
          have h36 := hd
          clear hd
          simp only [h36] at HK ⊢
          clear h36
          refine wpList_guard_no (by rfl) ?_
          refine HK.out _ _ (Below.refl _ _) ?_
          rfl
        · intro vv W K hB hd HK
          simp only [confRules] at hd HK
          obtain ⟨h39, h36⟩ := hd
          simp only [h39, h36] at HK ⊢
          clear h39 h36
          refine wpList_guard_no (by rfl) ?_
          refine HK.out _ _ (Below.refl _ _) ?_
          rfl
        · intro vv W K hB hd HK
          simp only [confRules] at hd HK
          obtain ⟨h38, h40, h36⟩ := hd
          simp only [h38, h40, h36] at HK ⊢
          clear h38 h40 h36
          refine wpList_guard_no (by rfl) ?_
          refine HK.out _ _ (Below.refl _ _) ?_
          rfl
        · intro vv W K hB hd HK
          simp only [confRules] at hd HK
          have h36 := hd
          clear hd
          simp only [h36] at HK ⊢
          clear h36
          refine wpList_guard_no (by rfl) ?_
          refine HK.out _ _ (Below.refl _ _) ?_
          rfl
        · intro vv W K hB hd HK
          simp only [confRules] at hd HK
          obtain ⟨h42, h36⟩ := hd
          simp only [h42, h36] at HK ⊢
          clear h42 h36
          refine wpList_guard_no (by rfl) ?_
          refine HK.out _ _ (Below.refl _ _) ?_
          rfl
        · intro vv W K hB hd HK
          simp only [confRules] at hd HK
          obtain ⟨h41, h43, h36⟩ := hd
          simp only [h41, h43, h36] at HK ⊢
          clear h41 h43 h36
          refine wpList_guard_no (by rfl) ?_
          refine HK.out _ _ (Below.refl _ _) ?_
          rfl
      case rahend =>
      intro vv W hB hf
      have e36 := hf 36 (by decide)
      have e44 := hf 44 (by decide)
      simp only [endRules] at e36 e44
      simp only [e36, e44, dropRules]
      clear hf e36 e44
      obtain ⟨r1, r2, r3⟩ := HFN4.out W Z hB
      go_wp2_with (first | (refine wpList_build_on (by rfl) 72 _ rfl #[] (by simp) Z HBZ.out ?_) | (refine wpList_store_row rfl 72 _ _ rfl (w.heap.size + 1 + 1) Z rfl rfl 72 Z r3 HIZ.out rfl HOZ.out ?_))
      refine bodyPost_ret (res_row_tmp rfl _ _ (w.heap.size + 1 + 1) 72 Z _ _ rfl r2 Try.underlying72 rfl HIZ.out) rfl ?_
      exact ⟨rfl, r1⟩
    · obtain ⟨hz1, hz2⟩ := HBZ2.out rfl
      refine wp_region_conf2 45 [Fact.eq (.agg CG), Fact.eq (.pointer (some ⟨w.heap.size + 1, 0, none⟩)), Fact.eq (.int .i64 (zone)), Fact.eq (.pointer (some ⟨w.heap.size + 1, 1, none⟩)), Fact.eq (.int .i64 (off)), Fact.eq (.bool true), Fact.eq (.bool false), Fact.eq (.bool false), Fact.eq (.agg CG), Fact.eq (.pointer (some ⟨b9, 5, none⟩)), Fact.eq (.int .i64 (mate)), Fact.eq (.pointer (some ⟨w.heap.size + 1, 1, none⟩)), Fact.eq (.int .i64 (off)), Fact.eq (.bool false), Fact.eq (.bool true), Fact.eq (.bool true), Fact.eq (.bool true), Fact.eq undef, Fact.eq undef, Fact.eq undef, Fact.eq undef, Fact.eq undef, Fact.eq undef, Fact.eq undef, Fact.eq undef, Fact.eq undef, Fact.eq undef, Fact.eq undef, Fact.eq (.bool true), Fact.eq (.bool true), Fact.eq undef, Fact.eq undef, Fact.eq undef, Fact.eq undef, Fact.eq undef, Fact.eq (.bool true), Fact.eq (.bool true), Fact.eq undef, Fact.eq undef, Fact.eq undef, Fact.eq undef, Fact.eq undef, Fact.eq undef, Fact.eq undef, Fact.eq undef] ?rbA (by kernel_rfl) (by kernel_rfl) ?rbhA ?rbho ?rbhend
      case rbhA =>
        intro vv
        simp only [putRules, Nat.reduceAdd]
        rfl
      case rbho =>
        refine ⟨?_, ?_, ?_, ?_, ?_, ?_, ?_, ?_, ?_, ?_, ?_, ?_, ?_, ?_, ?_, ?_, ?_, ?_, ?_, ?_, ?_, ?_, ?_, ?_, ?_, ?_, ?_, ?_, ?_, ?_, ?_, ?_, ?_, ?_, ?_, ?_, ?_, ?_, ?_, ?_, ?_, ?_, ?_, ?_, ?_, trivial⟩
        · intro vv W K hB hd HK
          simp only [confRules] at HK
          clear hd
          refine wpList_load_row rfl 47 _ rfl w.heap.size rfl 47 _ _ _ (HKG4.out W hB) Try.underlying47 rfl HGI.out ?_
          refine HK.out _ _ (Below.refl _ _) ?_
          rfl
        · intro vv W K hB hd HK
          simp only [confRules] at HK
          clear hd
          go_wp2
          refine HK.out _ _ (Below.refl _ _) ?_
          rfl
        · intro vv W K hB hd HK
          simp only [confRules] at hd HK
          have h1 := hd
          clear hd
          simp only [h1] at HK ⊢
          clear h1
          obtain ⟨c9, -⟩ := HKF4.out W hB
          go_wp2
          refine HK.out _ _ (Below.refl _ _) ?_
          rfl
        · intro vv W K hB hd HK
          simp only [confRules] at HK
          clear hd
          go_wp2
          refine HK.out _ _ (Below.refl _ _) ?_
          rfl
        · intro vv W K hB hd HK
          simp only [confRules] at hd HK
          have h3 := hd
          clear hd
          simp only [h3] at HK ⊢
          clear h3
          obtain ⟨-, c9⟩ := HKF4.out W hB
          go_wp2
          refine HK.out _ _ (Below.refl _ _) ?_
          rfl
        · intro vv W K hB hd HK
          simp only [confRules] at hd HK
          obtain ⟨h0, h2, h4⟩ := hd
          simp only [h0, h2, h4] at HK ⊢
          clear h0 h2 h4
          go_wp2_with (refine (HHA.out _).mono ?_; rintro e w9 ⟨rfl, hB9⟩)
          refine HK.out _ _ hB9 ?_
          rfl
        · intro vv W K hB hd HK
          simp only [confRules] at hd HK
          have h5 := hd
          clear hd
          simp only [h5] at HK ⊢
          clear h5
          go_wp2
          refine HK.out _ _ (Below.refl _ _) ?_
          rfl
        · intro vv W K hB hd HK
          simp only [confRules] at hd HK
          obtain ⟨h6, h5⟩ := hd
          simp only [h6, h5] at HK ⊢
          clear h6 h5
          go_wp2
          refine HK.out _ _ (Below.refl _ _) ?_
          rfl
        · intro vv W K hB hd HK
          simp only [confRules] at hd HK
          have h7 := hd
          clear hd
          simp only [h7] at HK ⊢
          clear h7
          refine wpList_guard_yes (by rfl) ?_
          refine wpList_load_row rfl 47 _ rfl w.heap.size rfl 47 _ _ _ (HKG4.out W hB) Try.underlying47 rfl HGI.out ?_
          refine HK.out _ _ (Below.refl _ _) ?_
          rfl
        · intro vv W K hB hd HK
          simp only [confRules] at hd HK
          have h7 := hd
          clear hd
          simp only [h7] at HK ⊢
          clear h7
          refine wpList_guard_yes (by rfl) ?_
          go_wp2
          refine HK.out _ _ (Below.refl _ _) ?_
          rfl
        · intro vv W K hB hd HK
          simp only [confRules] at hd HK
          obtain ⟨h9, h7⟩ := hd
          simp only [h9, h7] at HK ⊢
          clear h9 h7
          refine wpList_guard_yes (by rfl) ?_
          obtain ⟨-, -, c9⟩ := HKE4.out W hB
          go_wp2
          refine HK.out _ _ (Below.refl _ _) ?_
          rfl
        · intro vv W K hB hd HK
          simp only [confRules] at hd HK
          have h7 := hd
          clear hd
          simp only [h7] at HK ⊢
          clear h7
          refine wpList_guard_yes (by rfl) ?_
          go_wp2
          refine HK.out _ _ (Below.refl _ _) ?_
          rfl
        · intro vv W K hB hd HK
          simp only [confRules] at hd HK
          obtain ⟨h11, h7⟩ := hd
          simp only [h11, h7] at HK ⊢
          clear h11 h7
          refine wpList_guard_yes (by rfl) ?_
          obtain ⟨-, c9⟩ := HKF4.out W hB
          go_wp2
          refine HK.out _ _ (Below.refl _ _) ?_
          rfl
        · intro vv W K hB hd HK
          simp only [confRules] at hd HK
          obtain ⟨h8, h10, h12, h7, _⟩ := hd
          simp only [h8, h10, h12, h7] at HK ⊢
          clear h8 h10 h12 h7
          refine wpList_guard_yes (by rfl) ?_
          go_wp2_with (refine (HHB.out _).mono ?_; rintro e w9 ⟨rfl, hB9⟩)
          refine HK.out _ _ hB9 ?_
          rfl
        · intro vv W K hB hd HK
          simp only [confRules] at hd HK
          obtain ⟨h13, h7⟩ := hd
          simp only [h13, h7] at HK ⊢
          clear h13 h7
          refine wpList_guard_yes (by rfl) ?_
          go_wp2
          refine HK.out _ _ (Below.refl _ _) ?_
          rfl
        · intro vv W K hB hd HK
          simp only [confRules] at hd HK
          obtain ⟨h7, h14⟩ := hd
          simp only [h7, h14] at HK ⊢
          clear h7 h14
          go_wp2
          refine HK.out _ _ (Below.refl _ _) ?_
          rfl
        · intro vv W K hB hd HK
          simp only [confRules] at hd HK
          obtain ⟨h15, h13⟩ := hd
          simp only [h15, h13] at HK ⊢
          clear h15 h13
          go_wp2
          refine HK.out _ _ (Below.refl _ _) ?_
          rfl
        · intro vv W K hB hd HK
          simp only [confRules] at hd HK
          have h16 := hd
          clear hd
          simp only [h16] at HK ⊢
          clear h16
          refine wpList_guard_no (by rfl) ?_
          refine HK.out _ _ (Below.refl _ _) ?_
          rfl
        · intro vv W K hB hd HK
          simp only [confRules] at hd HK
          obtain ⟨h17, h16⟩ := hd
          simp only [h17, h16] at HK ⊢
          clear h17 h16
          refine wpList_guard_no (by rfl) ?_
          refine HK.out _ _ (Below.refl _ _) ?_
          rfl
        · intro vv W K hB hd HK
          simp only [confRules] at hd HK
          have h16 := hd
          clear hd
          simp only [h16] at HK ⊢
          clear h16
          refine wpList_guard_no (by rfl) ?_
          refine HK.out _ _ (Below.refl _ _) ?_
          rfl
        · intro vv W K hB hd HK
          simp only [confRules] at hd HK
          obtain ⟨h19, h16⟩ := hd
          simp only [h19, h16] at HK ⊢
          clear h19 h16
          refine wpList_guard_no (by rfl) ?_
          refine HK.out _ _ (Below.refl _ _) ?_
          rfl
        · intro vv W K hB hd HK
          simp only [confRules] at hd HK
          obtain ⟨h18, h20, h16⟩ := hd
          simp only [h18, h20, h16] at HK ⊢
          clear h18 h20 h16
          refine wpList_guard_no (by rfl) ?_
          refine HK.out _ _ (Below.refl _ _) ?_
          rfl
        · intro vv W K hB hd HK
          simp only [confRules] at hd HK
          have h16 := hd
          clear hd
          simp only [h16] at HK ⊢
          clear h16
          refine wpList_guard_no (by rfl) ?_
          refine HK.out _ _ (Below.refl _ _) ?_
          rfl
        · intro vv W K hB hd HK
          simp only [confRules] at hd HK
          obtain ⟨h22, h16⟩ := hd
          simp only [h22, h16] at HK ⊢
          clear h22 h16
          refine wpList_guard_no (by rfl) ?_
          refine HK.out _ _ (Below.refl _ _) ?_
          rfl
        · intro vv W K hB hd HK
          simp only [confRules] at hd HK
          have h16 := hd
          clear hd
          simp only [h16] at HK ⊢
          clear h16
          refine wpList_guard_no (by rfl) ?_
          refine HK.out _ _ (Below.refl _ _) ?_
          rfl
        · intro vv W K hB hd HK
          simp only [confRules] at hd HK
          obtain ⟨h24, h16⟩ := hd
          simp only [h24, h16] at HK ⊢
          clear h24 h16
          refine wpList_guard_no (by rfl) ?_
          refine HK.out _ _ (Below.refl _ _) ?_
          rfl
        · intro vv W K hB hd HK
          simp only [confRules] at hd HK
          obtain ⟨h23, h25, h16⟩ := hd
          simp only [h23, h25, h16] at HK ⊢
          clear h23 h25 h16
          refine wpList_guard_no (by rfl) ?_
          refine HK.out _ _ (Below.refl _ _) ?_
          rfl
        · intro vv W K hB hd HK
          simp only [confRules] at hd HK
          obtain ⟨h21, h26, h16⟩ := hd
          simp only [h21, h26, h16] at HK ⊢
          clear h21 h26 h16
          refine wpList_guard_no (by rfl) ?_
          refine HK.out _ _ (Below.refl _ _) ?_
          rfl
        · intro vv W K hB hd HK
          simp only [confRules] at hd HK
          obtain ⟨h16, h27⟩ := hd
          simp only [h16, h27] at HK ⊢
          clear h16 h27
          go_wp2
          refine HK.out _ _ (Below.refl _ _) ?_
          rfl
        · intro vv W K hB hd HK
          simp only [confRules] at hd HK
          obtain ⟨h28, h16⟩ := hd
          simp only [h28, h16] at HK ⊢
          clear h28 h16
          go_wp2
          refine HK.out _ _ (Below.refl _ _) ?_
          rfl
        · intro vv W K hB hd HK
          simp only [confRules] at hd HK
          have h29 := hd
          clear hd
          simp only [h29] at HK ⊢
          clear h29
          refine wpList_guard_no (by rfl) ?_
          refine HK.out _ _ (Below.refl _ _) ?_
          rfl
        · intro vv W K hB hd HK
          simp only [confRules] at hd HK
          obtain ⟨h30, h29⟩ := hd
          simp only [h30, h29] at HK ⊢
          clear h30 h29
          refine wpList_guard_no (by rfl) ?_
          refine HK.out _ _ (Below.refl _ _) ?_
          rfl
        · intro vv W K hB hd HK
          simp only [confRules] at hd HK
          have h29 := hd
          clear hd
          simp only [h29] at HK ⊢
          clear h29
          refine wpList_guard_no (by rfl) ?_
          refine HK.out _ _ (Below.refl _ _) ?_
          rfl
        · intro vv W K hB hd HK
          simp only [confRules] at hd HK
          obtain ⟨h32, h29⟩ := hd
          simp only [h32, h29] at HK ⊢
          clear h32 h29
          refine wpList_guard_no (by rfl) ?_
          refine HK.out _ _ (Below.refl _ _) ?_
          rfl
        · intro vv W K hB hd HK
          simp only [confRules] at hd HK
          obtain ⟨h31, h33, h29⟩ := hd
          simp only [h31, h33, h29] at HK ⊢
          clear h31 h33 h29
          refine wpList_guard_no (by rfl) ?_
          refine HK.out _ _ (Below.refl _ _) ?_
          rfl
        · intro vv W K hB hd HK
          simp only [confRules] at hd HK
          obtain ⟨h29, h34⟩ := hd
          simp only [h29, h34] at HK ⊢
          clear h29 h34
          go_wp2
          refine HK.out _ _ (Below.refl _ _) ?_
          rfl
        · intro vv W K hB hd HK
          simp only [confRules] at hd HK
          obtain ⟨h35, h29⟩ := hd
          simp only [h35, h29] at HK ⊢
          clear h35 h29
          go_wp2
          refine HK.out _ _ (Below.refl _ _) ?_
          rfl
        · intro vv W K hB hd HK
          simp only [confRules] at hd HK
          have h36 := hd
          clear hd
          simp only [h36] at HK ⊢
          clear h36
          refine wpList_guard_no (by rfl) ?_
          refine HK.out _ _ (Below.refl _ _) ?_
          rfl
        · intro vv W K hB hd HK
          simp only [confRules] at hd HK
          obtain ⟨h37, h36⟩ := hd
          simp only [h37, h36] at HK ⊢
          clear h37 h36
          refine wpList_guard_no (by rfl) ?_
          refine HK.out _ _ (Below.refl _ _) ?_
          rfl
        · intro vv W K hB hd HK
          simp only [confRules] at hd HK
          have h36 := hd
          clear hd
          simp only [h36] at HK ⊢
          clear h36
          refine wpList_guard_no (by rfl) ?_
          refine HK.out _ _ (Below.refl _ _) ?_
          rfl
        · intro vv W K hB hd HK
          simp only [confRules] at hd HK
          obtain ⟨h39, h36⟩ := hd
          simp only [h39, h36] at HK ⊢
          clear h39 h36
          refine wpList_guard_no (by rfl) ?_
          refine HK.out _ _ (Below.refl _ _) ?_
          rfl
        · intro vv W K hB hd HK
          simp only [confRules] at hd HK
          obtain ⟨h38, h40, h36⟩ := hd
          simp only [h38, h40, h36] at HK ⊢
          clear h38 h40 h36
          refine wpList_guard_no (by rfl) ?_
          refine HK.out _ _ (Below.refl _ _) ?_
          rfl
        · intro vv W K hB hd HK
          simp only [confRules] at hd HK
          have h36 := hd
          clear hd
          simp only [h36] at HK ⊢
          clear h36
          refine wpList_guard_no (by rfl) ?_
          refine HK.out _ _ (Below.refl _ _) ?_
          rfl
        · intro vv W K hB hd HK
          simp only [confRules] at hd HK
          obtain ⟨h42, h36⟩ := hd
          simp only [h42, h36] at HK ⊢
          clear h42 h36
          refine wpList_guard_no (by rfl) ?_
          refine HK.out _ _ (Below.refl _ _) ?_
          rfl
        · intro vv W K hB hd HK
          simp only [confRules] at hd HK
          obtain ⟨h41, h43, h36⟩ := hd
          simp only [h41, h43, h36] at HK ⊢
          clear h41 h43 h36
          refine wpList_guard_no (by rfl) ?_
          refine HK.out _ _ (Below.refl _ _) ?_
          rfl
      case rbhend =>
      intro vv W hB hf
      have e36 := hf 36 (by decide)
      have e44 := hf 44 (by decide)
      simp only [endRules] at e36 e44
      simp only [e36, e44, dropRules]
      clear hf e36 e44
      obtain ⟨r1, r2, r3⟩ := HFN4.out W Z hB
      go_wp2_with (first | (refine wpList_build_on (by rfl) 72 _ rfl #[] (by simp) Z HBZ.out ?_) | (refine wpList_store_row rfl 72 _ _ rfl (w.heap.size + 1 + 1) Z rfl rfl 72 Z r3 HIZ.out rfl HOZ.out ?_))
      refine bodyPost_ret (res_row_tmp rfl _ _ (w.heap.size + 1 + 1) 72 Z _ _ rfl r2 Try.underlying72 rfl HIZ.out) rfl ?_
      exact ⟨rfl, r1⟩
    · obtain ⟨hz1, hz2⟩ := HBZ2.out rfl
      refine wp_region_conf2 45 [Fact.eq (.agg CG), Fact.eq (.pointer (some ⟨w.heap.size + 1, 0, none⟩)), Fact.eq (.int .i64 (zone)), Fact.eq (.pointer (some ⟨w.heap.size + 1, 1, none⟩)), Fact.eq (.int .i64 (off)), Fact.eq (.bool true), Fact.eq (.bool false), Fact.eq (.bool false), Fact.eq (.agg CG), Fact.eq (.pointer (some ⟨b9, 5, none⟩)), Fact.eq (.int .i64 (mate)), Fact.eq (.pointer (some ⟨w.heap.size + 1, 1, none⟩)), Fact.eq (.int .i64 (off)), Fact.eq (.bool true), Fact.eq (.bool false), Fact.eq (.bool false), Fact.eq (.bool false), Fact.eq (.pointer (some ⟨w.heap.size + 1, 0, none⟩)), Fact.eq (.int .i64 (zone)), Fact.eq (.pointer (some ⟨w.heap.size, 1, none⟩)), Fact.eq (.int .i64 (gz)), Fact.eq (.int .i64 (zone / gz)), Fact.eq (.pointer (some ⟨b9, 5, none⟩)), Fact.eq (.int .i64 (mate)), Fact.eq (.pointer (some ⟨w.heap.size, 1, none⟩)), Fact.eq (.int .i64 (gz)), Fact.eq (.int .i64 (mate / gz)), Fact.eq (.bool true), Fact.eq (.bool true), Fact.eq (.bool true), Fact.eq undef, Fact.eq undef, Fact.eq undef, Fact.eq undef, Fact.eq undef, Fact.eq (.bool true), Fact.eq (.bool true), Fact.eq undef, Fact.eq undef, Fact.eq undef, Fact.eq undef, Fact.eq undef, Fact.eq undef, Fact.eq undef, Fact.eq undef] ?rcA (by kernel_rfl) (by kernel_rfl) ?rchA ?rcho ?rchend
      case rchA =>
        intro vv
        simp only [putRules, Nat.reduceAdd]
        rfl
      case rcho =>
        refine ⟨?_, ?_, ?_, ?_, ?_, ?_, ?_, ?_, ?_, ?_, ?_, ?_, ?_, ?_, ?_, ?_, ?_, ?_, ?_, ?_, ?_, ?_, ?_, ?_, ?_, ?_, ?_, ?_, ?_, ?_, ?_, ?_, ?_, ?_, ?_, ?_, ?_, ?_, ?_, ?_, ?_, ?_, ?_, ?_, ?_, trivial⟩
        · intro vv W K hB hd HK
          simp only [confRules] at HK
          clear hd
          refine wpList_load_row rfl 47 _ rfl w.heap.size rfl 47 _ _ _ (HKG4.out W hB) Try.underlying47 rfl HGI.out ?_
          refine HK.out _ _ (Below.refl _ _) ?_
          rfl
        · intro vv W K hB hd HK
          simp only [confRules] at HK
          clear hd
          go_wp2
          refine HK.out _ _ (Below.refl _ _) ?_
          rfl
        · intro vv W K hB hd HK
          simp only [confRules] at hd HK
          have h1 := hd
          clear hd
          simp only [h1] at HK ⊢
          clear h1
          obtain ⟨c9, -⟩ := HKF4.out W hB
          go_wp2
          refine HK.out _ _ (Below.refl _ _) ?_
          rfl
        · intro vv W K hB hd HK
          simp only [confRules] at HK
          clear hd
          go_wp2
          refine HK.out _ _ (Below.refl _ _) ?_
          rfl
        · intro vv W K hB hd HK
          simp only [confRules] at hd HK
          have h3 := hd
          clear hd
          simp only [h3] at HK ⊢
          clear h3
          obtain ⟨-, c9⟩ := HKF4.out W hB
          go_wp2
          refine HK.out _ _ (Below.refl _ _) ?_
          rfl
        · intro vv W K hB hd HK
          simp only [confRules] at hd HK
          obtain ⟨h0, h2, h4⟩ := hd
          simp only [h0, h2, h4] at HK ⊢
          clear h0 h2 h4
          go_wp2_with (refine (HHA.out _).mono ?_; rintro e w9 ⟨rfl, hB9⟩)
          refine HK.out _ _ hB9 ?_
          rfl
        · intro vv W K hB hd HK
          simp only [confRules] at hd HK
          have h5 := hd
          clear hd
          simp only [h5] at HK ⊢
          clear h5
          go_wp2
          refine HK.out _ _ (Below.refl _ _) ?_
          rfl
        · intro vv W K hB hd HK
          simp only [confRules] at hd HK
          obtain ⟨h6, h5⟩ := hd
          simp only [h6, h5] at HK ⊢
          clear h6 h5
          go_wp2
          refine HK.out _ _ (Below.refl _ _) ?_
          rfl
        · intro vv W K hB hd HK
          simp only [confRules] at hd HK
          have h7 := hd
          clear hd
          simp only [h7] at HK ⊢
          clear h7
          refine wpList_guard_yes (by rfl) ?_
          refine wpList_load_row rfl 47 _ rfl w.heap.size rfl 47 _ _ _ (HKG4.out W hB) Try.underlying47 rfl HGI.out ?_
          refine HK.out _ _ (Below.refl _ _) ?_
          rfl
        · intro vv W K hB hd HK
          simp only [confRules] at hd HK
          have h7 := hd
          clear hd
          simp only [h7] at HK ⊢
          clear h7
          refine wpList_guard_yes (by rfl) ?_
          go_wp2
          refine HK.out _ _ (Below.refl _ _) ?_
          rfl
        · intro vv W K hB hd HK
          simp only [confRules] at hd HK
          obtain ⟨h9, h7⟩ := hd
          simp only [h9, h7] at HK ⊢
          clear h9 h7
          refine wpList_guard_yes (by rfl) ?_
          obtain ⟨-, -, c9⟩ := HKE4.out W hB
          go_wp2
          refine HK.out _ _ (Below.refl _ _) ?_
          rfl
        · intro vv W K hB hd HK
          simp only [confRules] at hd HK
          have h7 := hd
          clear hd
          simp only [h7] at HK ⊢
          clear h7
          refine wpList_guard_yes (by rfl) ?_
          go_wp2
          refine HK.out _ _ (Below.refl _ _) ?_
          rfl
        · intro vv W K hB hd HK
          simp only [confRules] at hd HK
          obtain ⟨h11, h7⟩ := hd
          simp only [h11, h7] at HK ⊢
          clear h11 h7
          refine wpList_guard_yes (by rfl) ?_
          obtain ⟨-, c9⟩ := HKF4.out W hB
          go_wp2
          refine HK.out _ _ (Below.refl _ _) ?_
          rfl
        · intro vv W K hB hd HK
          simp only [confRules] at hd HK
          obtain ⟨h8, h10, h12, h7, _⟩ := hd
          simp only [h8, h10, h12, h7] at HK ⊢
          clear h8 h10 h12 h7
          refine wpList_guard_yes (by rfl) ?_
          go_wp2_with (refine (HHB.out _).mono ?_; rintro e w9 ⟨rfl, hB9⟩)
          refine HK.out _ _ hB9 ?_
          rfl
        · intro vv W K hB hd HK
          simp only [confRules] at hd HK
          obtain ⟨h13, h7⟩ := hd
          simp only [h13, h7] at HK ⊢
          clear h13 h7
          refine wpList_guard_yes (by rfl) ?_
          go_wp2
          refine HK.out _ _ (Below.refl _ _) ?_
          rfl
        · intro vv W K hB hd HK
          simp only [confRules] at hd HK
          obtain ⟨h7, h14⟩ := hd
          simp only [h7, h14] at HK ⊢
          clear h7 h14
          go_wp2
          refine HK.out _ _ (Below.refl _ _) ?_
          rfl
        · intro vv W K hB hd HK
          simp only [confRules] at hd HK
          obtain ⟨h15, h13⟩ := hd
          simp only [h15, h13] at HK ⊢
          clear h15 h13
          go_wp2
          refine HK.out _ _ (Below.refl _ _) ?_
          rfl
        · intro vv W K hB hd HK
          simp only [confRules] at hd HK
          have h16 := hd
          clear hd
          simp only [h16] at HK ⊢
          clear h16
          refine wpList_guard_yes (by rfl) ?_
          go_wp2
          refine HK.out _ _ (Below.refl _ _) ?_
          rfl
        · intro vv W K hB hd HK
          simp only [confRules] at hd HK
          obtain ⟨h17, h16⟩ := hd
          simp only [h17, h16] at HK ⊢
          clear h17 h16
          refine wpList_guard_yes (by rfl) ?_
          obtain ⟨c9, -⟩ := HKF4.out W hB
          go_wp2
          refine HK.out _ _ (Below.refl _ _) ?_
          rfl
        · intro vv W K hB hd HK
          simp only [confRules] at hd HK
          have h16 := hd
          clear hd
          simp only [h16] at HK ⊢
          clear h16
          refine wpList_guard_yes (by rfl) ?_
          go_wp2
          refine HK.out _ _ (Below.refl _ _) ?_
          rfl
        · intro vv W K hB hd HK
          simp only [confRules] at hd HK
          obtain ⟨h19, h16⟩ := hd
          simp only [h19, h16] at HK ⊢
          clear h19 h16
          refine wpList_guard_yes (by rfl) ?_
          obtain ⟨c9, -⟩ := HGG.out W w.heap.size (HKG4.out W hB)
          go_wp2
          refine HK.out _ _ (Below.refl _ _) ?_
          rfl
        · intro vv W K hB hd HK
          simp only [confRules] at hd HK
          obtain ⟨h18, h20, h16⟩ := hd
          simp only [h18, h20, h16] at HK ⊢
          clear h18 h20 h16
          refine wpList_guard_yes (by rfl) ?_
          go_wp2
          refine HK.out _ _ (Below.refl _ _) ?_
          rfl
        · intro vv W K hB hd HK
          simp only [confRules] at hd HK
          have h16 := hd
          clear hd
          simp only [h16] at HK ⊢
          clear h16
          refine wpList_guard_yes (by rfl) ?_
          go_wp2
          refine HK.out _ _ (Below.refl _ _) ?_
          rfl
        · intro vv W K hB hd HK
          simp only [confRules] at hd HK
          obtain ⟨h22, h16⟩ := hd
          simp only [h22, h16] at HK ⊢
          clear h22 h16
          refine wpList_guard_yes (by rfl) ?_
          obtain ⟨-, -, c9⟩ := HKE4.out W hB
          go_wp2
          refine HK.out _ _ (Below.refl _ _) ?_
          rfl
        · intro vv W K hB hd HK
          simp only [confRules] at hd HK
          have h16 := hd
          clear hd
          simp only [h16] at HK ⊢
          clear h16
          refine wpList_guard_yes (by rfl) ?_
          go_wp2
          refine HK.out _ _ (Below.refl _ _) ?_
          rfl
        · intro vv W K hB hd HK
          simp only [confRules] at hd HK
          obtain ⟨h24, h16⟩ := hd
          simp only [h24, h16] at HK ⊢
          clear h24 h16
          refine wpList_guard_yes (by rfl) ?_
          obtain ⟨c9, -⟩ := HGG.out W w.heap.size (HKG4.out W hB)
          go_wp2
          refine HK.out _ _ (Below.refl _ _) ?_
          rfl
        · intro vv W K hB hd HK
          simp only [confRules] at hd HK
          obtain ⟨h23, h25, h16⟩ := hd
          simp only [h23, h25, h16] at HK ⊢
          clear h23 h25 h16
          refine wpList_guard_yes (by rfl) ?_
          go_wp2
          refine HK.out _ _ (Below.refl _ _) ?_
          rfl
        · intro vv W K hB hd HK
          simp only [confRules] at hd HK
          obtain ⟨h21, h26, h16⟩ := hd
          simp only [h21, h26, h16] at HK ⊢
          clear h21 h26 h16
          refine wpList_guard_yes (by rfl) ?_
          go_wp2
          refine HK.out _ _ (Below.refl _ _) ?_
          rfl
        · intro vv W K hB hd HK
          simp only [confRules] at hd HK
          obtain ⟨h16, h27⟩ := hd
          simp only [h16, h27] at HK ⊢
          clear h16 h27
          go_wp2
          refine HK.out _ _ (Below.refl _ _) ?_
          rfl
        · intro vv W K hB hd HK
          simp only [confRules] at hd HK
          obtain ⟨h28, h16⟩ := hd
          simp only [h28, h16] at HK ⊢
          clear h28 h16
          go_wp2
          refine HK.out _ _ (Below.refl _ _) ?_
          rfl
        · intro vv W K hB hd HK
          simp only [confRules] at hd HK
          have h29 := hd
          clear hd
          simp only [h29] at HK ⊢
          clear h29
          refine wpList_guard_no (by rfl) ?_
          refine HK.out _ _ (Below.refl _ _) ?_
          rfl
        · intro vv W K hB hd HK
          simp only [confRules] at hd HK
          obtain ⟨h30, h29⟩ := hd
          simp only [h30, h29] at HK ⊢
          clear h30 h29
          refine wpList_guard_no (by rfl) ?_
          refine HK.out _ _ (Below.refl _ _) ?_
          rfl
        · intro vv W K hB hd HK
          simp only [confRules] at hd HK
          have h29 := hd
          clear hd
          simp only [h29] at HK ⊢
          clear h29
          refine wpList_guard_no (by rfl) ?_
          refine HK.out _ _ (Below.refl _ _) ?_
          rfl
        · intro vv W K hB hd HK
          simp only [confRules] at hd HK
          obtain ⟨h32, h29⟩ := hd
          simp only [h32, h29] at HK ⊢
          clear h32 h29
          refine wpList_guard_no (by rfl) ?_
          refine HK.out _ _ (Below.refl _ _) ?_
          rfl
        · intro vv W K hB hd HK
          simp only [confRules] at hd HK
          obtain ⟨h31, h33, h29⟩ := hd
          simp only [h31, h33, h29] at HK ⊢
          clear h31 h33 h29
          refine wpList_guard_no (by rfl) ?_
          refine HK.out _ _ (Below.refl _ _) ?_
          rfl
        · intro vv W K hB hd HK
          simp only [confRules] at hd HK
          obtain ⟨h29, h34⟩ := hd
          simp only [h29, h34] at HK ⊢
          clear h29 h34
          go_wp2
          refine HK.out _ _ (Below.refl _ _) ?_
          rfl
        · intro vv W K hB hd HK
          simp only [confRules] at hd HK
          obtain ⟨h35, h29⟩ := hd
          simp only [h35, h29] at HK ⊢
          clear h35 h29
          go_wp2
          refine HK.out _ _ (Below.refl _ _) ?_
          rfl
        · intro vv W K hB hd HK
          simp only [confRules] at hd HK
          have h36 := hd
          clear hd
          simp only [h36] at HK ⊢
          clear h36
          refine wpList_guard_no (by rfl) ?_
          refine HK.out _ _ (Below.refl _ _) ?_
          rfl
        · intro vv W K hB hd HK
          simp only [confRules] at hd HK
          obtain ⟨h37, h36⟩ := hd
          simp only [h37, h36] at HK ⊢
          clear h37 h36
          refine wpList_guard_no (by rfl) ?_
          refine HK.out _ _ (Below.refl _ _) ?_
          rfl
        · intro vv W K hB hd HK
          simp only [confRules] at hd HK
          have h36 := hd
          clear hd
          simp only [h36] at HK ⊢
          clear h36
          refine wpList_guard_no (by rfl) ?_
          refine HK.out _ _ (Below.refl _ _) ?_
          rfl
        · intro vv W K hB hd HK
          simp only [confRules] at hd HK
          obtain ⟨h39, h36⟩ := hd
          simp only [h39, h36] at HK ⊢
          clear h39 h36
          refine wpList_guard_no (by rfl) ?_
          refine HK.out _ _ (Below.refl _ _) ?_
          rfl
        · intro vv W K hB hd HK
          simp only [confRules] at hd HK
          obtain ⟨h38, h40, h36⟩ := hd
          simp only [h38, h40, h36] at HK ⊢
          clear h38 h40 h36
          refine wpList_guard_no (by rfl) ?_
          refine HK.out _ _ (Below.refl _ _) ?_
          rfl
        · intro vv W K hB hd HK
          simp only [confRules] at hd HK
          have h36 := hd
          clear hd
          simp only [h36] at HK ⊢
          clear h36
          refine wpList_guard_no (by rfl) ?_
          refine HK.out _ _ (Below.refl _ _) ?_
          rfl
        · intro vv W K hB hd HK
          simp only [confRules] at hd HK
          obtain ⟨h42, h36⟩ := hd
          simp only [h42, h36] at HK ⊢
          clear h42 h36
          refine wpList_guard_no (by rfl) ?_
          refine HK.out _ _ (Below.refl _ _) ?_
          rfl
        · intro vv W K hB hd HK
          simp only [confRules] at hd HK
          obtain ⟨h41, h43, h36⟩ := hd
          simp only [h41, h43, h36] at HK ⊢
          clear h41 h43 h36
          refine wpList_guard_no (by rfl) ?_
          refine HK.out _ _ (Below.refl _ _) ?_
          rfl
      case rchend =>
      intro vv W hB hf
      have e36 := hf 36 (by decide)
      have e44 := hf 44 (by decide)
      simp only [endRules] at e36 e44
      simp only [e36, e44, dropRules]
      clear hf e36 e44
      obtain ⟨r1, r2, r3⟩ := HFN4.out W Z hB
      go_wp2_with (first | (refine wpList_build_on (by rfl) 72 _ rfl #[] (by simp) Z HBZ.out ?_) | (refine wpList_store_row rfl 72 _ _ rfl (w.heap.size + 1 + 1) Z rfl rfl 72 Z r3 HIZ.out rfl HOZ.out ?_))
      refine bodyPost_ret (res_row_tmp rfl _ _ (w.heap.size + 1 + 1) 72 Z _ _ rfl r2 Try.underlying72 rfl HIZ.out) rfl ?_
      exact ⟨rfl, r1⟩
    · obtain ⟨hz1, hz2⟩ := HBZ2.out rfl
      refine wp_region_conf2 45 [Fact.eq (.agg CG), Fact.eq (.pointer (some ⟨w.heap.size + 1, 0, none⟩)), Fact.eq (.int .i64 (zone)), Fact.eq (.pointer (some ⟨w.heap.size + 1, 1, none⟩)), Fact.eq (.int .i64 (off)), Fact.eq (.bool true), Fact.eq (.bool false), Fact.eq (.bool false), Fact.eq (.agg CG), Fact.eq (.pointer (some ⟨b9, 5, none⟩)), Fact.eq (.int .i64 (mate)), Fact.eq (.pointer (some ⟨w.heap.size + 1, 1, none⟩)), Fact.eq (.int .i64 (off)), Fact.eq (.bool true), Fact.eq (.bool false), Fact.eq (.bool false), Fact.eq (.bool false), Fact.eq (.pointer (some ⟨w.heap.size + 1, 0, none⟩)), Fact.eq (.int .i64 (zone)), Fact.eq (.pointer (some ⟨w.heap.size, 1, none⟩)), Fact.eq (.int .i64 (gz)), Fact.eq (.int .i64 (zone / gz)), Fact.eq (.pointer (some ⟨b9, 5, none⟩)), Fact.eq (.int .i64 (mate)), Fact.eq (.pointer (some ⟨w.heap.size, 1, none⟩)), Fact.eq (.int .i64 (gz)), Fact.eq (.int .i64 (mate / gz)), Fact.eq (.bool false), Fact.eq (.bool false), Fact.eq (.bool false), Fact.eq (.pointer (some ⟨b9, 3, none⟩)), Fact.eq (.int .i64 (block)), Fact.eq (.pointer (some ⟨w.heap.size, 3, none⟩)), Fact.eq (.int .i64 (gb)), Fact.eq (.bool true), Fact.eq (.bool true), Fact.eq (.bool true), Fact.eq undef, Fact.eq undef, Fact.eq undef, Fact.eq undef, Fact.eq undef, Fact.eq undef, Fact.eq undef, Fact.eq undef] ?rdA (by kernel_rfl) (by kernel_rfl) ?rdhA ?rdho ?rdhend
      case rdhA =>
        intro vv
        simp only [putRules, Nat.reduceAdd]
        rfl
      case rdho =>
        refine ⟨?_, ?_, ?_, ?_, ?_, ?_, ?_, ?_, ?_, ?_, ?_, ?_, ?_, ?_, ?_, ?_, ?_, ?_, ?_, ?_, ?_, ?_, ?_, ?_, ?_, ?_, ?_, ?_, ?_, ?_, ?_, ?_, ?_, ?_, ?_, ?_, ?_, ?_, ?_, ?_, ?_, ?_, ?_, ?_, ?_, trivial⟩
        · intro vv W K hB hd HK
          simp only [confRules] at HK
          clear hd
          refine wpList_load_row rfl 47 _ rfl w.heap.size rfl 47 _ _ _ (HKG4.out W hB) Try.underlying47 rfl HGI.out ?_
          refine HK.out _ _ (Below.refl _ _) ?_
          rfl
        · intro vv W K hB hd HK
          simp only [confRules] at HK
          clear hd
          go_wp2
          refine HK.out _ _ (Below.refl _ _) ?_
          rfl
        · intro vv W K hB hd HK
          simp only [confRules] at hd HK
          have h1 := hd
          clear hd
          simp only [h1] at HK ⊢
          clear h1
          obtain ⟨c9, -⟩ := HKF4.out W hB
          go_wp2
          refine HK.out _ _ (Below.refl _ _) ?_
          rfl
        · intro vv W K hB hd HK
          simp only [confRules] at HK
          clear hd
          go_wp2
          refine HK.out _ _ (Below.refl _ _) ?_
          rfl
        · intro vv W K hB hd HK
          simp only [confRules] at hd HK
          have h3 := hd
          clear hd
          simp only [h3] at HK ⊢
          clear h3
          obtain ⟨-, c9⟩ := HKF4.out W hB
          go_wp2
          refine HK.out _ _ (Below.refl _ _) ?_
          rfl
        · intro vv W K hB hd HK
          simp only [confRules] at hd HK
          obtain ⟨h0, h2, h4⟩ := hd
          simp only [h0, h2, h4] at HK ⊢
          clear h0 h2 h4
          go_wp2_with (refine (HHA.out _).mono ?_; rintro e w9 ⟨rfl, hB9⟩)
          refine HK.out _ _ hB9 ?_
          rfl
        · intro vv W K hB hd HK
          simp only [confRules] at hd HK
          have h5 := hd
          clear hd
          simp only [h5] at HK ⊢
          clear h5
          go_wp2
          refine HK.out _ _ (Below.refl _ _) ?_
          rfl
        · intro vv W K hB hd HK
          simp only [confRules] at hd HK
          obtain ⟨h6, h5⟩ := hd
          simp only [h6, h5] at HK ⊢
          clear h6 h5
          go_wp2
          refine HK.out _ _ (Below.refl _ _) ?_
          rfl
        · intro vv W K hB hd HK
          simp only [confRules] at hd HK
          have h7 := hd
          clear hd
          simp only [h7] at HK ⊢
          clear h7
          refine wpList_guard_yes (by rfl) ?_
          refine wpList_load_row rfl 47 _ rfl w.heap.size rfl 47 _ _ _ (HKG4.out W hB) Try.underlying47 rfl HGI.out ?_
          refine HK.out _ _ (Below.refl _ _) ?_
          rfl
        · intro vv W K hB hd HK
          simp only [confRules] at hd HK
          have h7 := hd
          clear hd
          simp only [h7] at HK ⊢
          clear h7
          refine wpList_guard_yes (by rfl) ?_
          go_wp2
          refine HK.out _ _ (Below.refl _ _) ?_
          rfl
        · intro vv W K hB hd HK
          simp only [confRules] at hd HK
          obtain ⟨h9, h7⟩ := hd
          simp only [h9, h7] at HK ⊢
          clear h9 h7
          refine wpList_guard_yes (by rfl) ?_
          obtain ⟨-, -, c9⟩ := HKE4.out W hB
          go_wp2
          refine HK.out _ _ (Below.refl _ _) ?_
          rfl
        · intro vv W K hB hd HK
          simp only [confRules] at hd HK
          have h7 := hd
          clear hd
          simp only [h7] at HK ⊢
          clear h7
          refine wpList_guard_yes (by rfl) ?_
          go_wp2
          refine HK.out _ _ (Below.refl _ _) ?_
          rfl
        · intro vv W K hB hd HK
          simp only [confRules] at hd HK
          obtain ⟨h11, h7⟩ := hd
          simp only [h11, h7] at HK ⊢
          clear h11 h7
          refine wpList_guard_yes (by rfl) ?_
          obtain ⟨-, c9⟩ := HKF4.out W hB
          go_wp2
          refine HK.out _ _ (Below.refl _ _) ?_
          rfl
        · intro vv W K hB hd HK
          simp only [confRules] at hd HK
          obtain ⟨h8, h10, h12, h7, _⟩ := hd
          simp only [h8, h10, h12, h7] at HK ⊢
          clear h8 h10 h12 h7
          refine wpList_guard_yes (by rfl) ?_
          go_wp2_with (refine (HHB.out _).mono ?_; rintro e w9 ⟨rfl, hB9⟩)
          refine HK.out _ _ hB9 ?_
          rfl
        · intro vv W K hB hd HK
          simp only [confRules] at hd HK
          obtain ⟨h13, h7⟩ := hd
          simp only [h13, h7] at HK ⊢
          clear h13 h7
          refine wpList_guard_yes (by rfl) ?_
          go_wp2
          refine HK.out _ _ (Below.refl _ _) ?_
          rfl
        · intro vv W K hB hd HK
          simp only [confRules] at hd HK
          obtain ⟨h7, h14⟩ := hd
          simp only [h7, h14] at HK ⊢
          clear h7 h14
          go_wp2
          refine HK.out _ _ (Below.refl _ _) ?_
          rfl
        · intro vv W K hB hd HK
          simp only [confRules] at hd HK
          obtain ⟨h15, h13⟩ := hd
          simp only [h15, h13] at HK ⊢
          clear h15 h13
          go_wp2
          refine HK.out _ _ (Below.refl _ _) ?_
          rfl
        · intro vv W K hB hd HK
          simp only [confRules] at hd HK
          have h16 := hd
          clear hd
          simp only [h16] at HK ⊢
          clear h16
          refine wpList_guard_yes (by rfl) ?_
          go_wp2
          refine HK.out _ _ (Below.refl _ _) ?_
          rfl
        · intro vv W K hB hd HK
          simp only [confRules] at hd HK
          obtain ⟨h17, h16⟩ := hd
          simp only [h17, h16] at HK ⊢
          clear h17 h16
          refine wpList_guard_yes (by rfl) ?_
          obtain ⟨c9, -⟩ := HKF4.out W hB
          go_wp2
          refine HK.out _ _ (Below.refl _ _) ?_
          rfl
        · intro vv W K hB hd HK
          simp only [confRules] at hd HK
          have h16 := hd
          clear hd
          simp only [h16] at HK ⊢
          clear h16
          refine wpList_guard_yes (by rfl) ?_
          go_wp2
          refine HK.out _ _ (Below.refl _ _) ?_
          rfl
        · intro vv W K hB hd HK
          simp only [confRules] at hd HK
          obtain ⟨h19, h16⟩ := hd
          simp only [h19, h16] at HK ⊢
          clear h19 h16
          refine wpList_guard_yes (by rfl) ?_
          obtain ⟨c9, -⟩ := HGG.out W w.heap.size (HKG4.out W hB)
          go_wp2
          refine HK.out _ _ (Below.refl _ _) ?_
          rfl
        · intro vv W K hB hd HK
          simp only [confRules] at hd HK
          obtain ⟨h18, h20, h16⟩ := hd
          simp only [h18, h20, h16] at HK ⊢
          clear h18 h20 h16
          refine wpList_guard_yes (by rfl) ?_
          go_wp2
          refine HK.out _ _ (Below.refl _ _) ?_
          rfl
        · intro vv W K hB hd HK
          simp only [confRules] at hd HK
          have h16 := hd
          clear hd
          simp only [h16] at HK ⊢
          clear h16
          refine wpList_guard_yes (by rfl) ?_
          go_wp2
          refine HK.out _ _ (Below.refl _ _) ?_
          rfl
        · intro vv W K hB hd HK
          simp only [confRules] at hd HK
          obtain ⟨h22, h16⟩ := hd
          simp only [h22, h16] at HK ⊢
          clear h22 h16
          refine wpList_guard_yes (by rfl) ?_
          obtain ⟨-, -, c9⟩ := HKE4.out W hB
          go_wp2
          refine HK.out _ _ (Below.refl _ _) ?_
          rfl
        · intro vv W K hB hd HK
          simp only [confRules] at hd HK
          have h16 := hd
          clear hd
          simp only [h16] at HK ⊢
          clear h16
          refine wpList_guard_yes (by rfl) ?_
          go_wp2
          refine HK.out _ _ (Below.refl _ _) ?_
          rfl
        · intro vv W K hB hd HK
          simp only [confRules] at hd HK
          obtain ⟨h24, h16⟩ := hd
          simp only [h24, h16] at HK ⊢
          clear h24 h16
          refine wpList_guard_yes (by rfl) ?_
          obtain ⟨c9, -⟩ := HGG.out W w.heap.size (HKG4.out W hB)
          go_wp2
          refine HK.out _ _ (Below.refl _ _) ?_
          rfl
        · intro vv W K hB hd HK
          simp only [confRules] at hd HK
          obtain ⟨h23, h25, h16⟩ := hd
          simp only [h23, h25, h16] at HK ⊢
          clear h23 h25 h16
          refine wpList_guard_yes (by rfl) ?_
          go_wp2
          refine HK.out _ _ (Below.refl _ _) ?_
          rfl
        · intro vv W K hB hd HK
          simp only [confRules] at hd HK
          obtain ⟨h21, h26, h16⟩ := hd
          simp only [h21, h26, h16] at HK ⊢
          clear h21 h26 h16
          refine wpList_guard_yes (by rfl) ?_
          go_wp2
          refine HK.out _ _ (Below.refl _ _) ?_
          rfl
        · intro vv W K hB hd HK
          simp only [confRules] at hd HK
          obtain ⟨h16, h27⟩ := hd
          simp only [h16, h27] at HK ⊢
          clear h16 h27
          go_wp2
          refine HK.out _ _ (Below.refl _ _) ?_
          rfl
        · intro vv W K hB hd HK
          simp only [confRules] at hd HK
          obtain ⟨h28, h16⟩ := hd
          simp only [h28, h16] at HK ⊢
          clear h28 h16
          go_wp2
          refine HK.out _ _ (Below.refl _ _) ?_
          rfl
        · intro vv W K hB hd HK
          simp only [confRules] at hd HK
          have h29 := hd
          clear hd
          simp only [h29] at HK ⊢
          clear h29
          refine wpList_guard_yes (by rfl) ?_
          go_wp2
          refine HK.out _ _ (Below.refl _ _) ?_
          rfl
        · intro vv W K hB hd HK
          simp only [confRules] at hd HK
          obtain ⟨h30, h29⟩ := hd
          simp only [h30, h29] at HK ⊢
          clear h30 h29
          refine wpList_guard_yes (by rfl) ?_
          obtain ⟨c9, -, -⟩ := HKE4.out W hB
          go_wp2
          refine HK.out _ _ (Below.refl _ _) ?_
          rfl
        · intro vv W K hB hd HK
          simp only [confRules] at hd HK
          have h29 := hd
          clear hd
          simp only [h29] at HK ⊢
          clear h29
          refine wpList_guard_yes (by rfl) ?_
          go_wp2
          refine HK.out _ _ (Below.refl _ _) ?_
          rfl
        · intro vv W K hB hd HK
          simp only [confRules] at hd HK
          obtain ⟨h32, h29⟩ := hd
          simp only [h32, h29] at HK ⊢
          clear h32 h29
          refine wpList_guard_yes (by rfl) ?_
          obtain ⟨-, c9⟩ := HGG.out W w.heap.size (HKG4.out W hB)
          go_wp2
          refine HK.out _ _ (Below.refl _ _) ?_
          rfl
        · intro vv W K hB hd HK
          simp only [confRules] at hd HK
          obtain ⟨h31, h33, h29⟩ := hd
          simp only [h31, h33, h29] at HK ⊢
          clear h31 h33 h29
          refine wpList_guard_yes (by rfl) ?_
          go_wp2
          refine HK.out _ _ (Below.refl _ _) ?_
          rfl
        · intro vv W K hB hd HK
          simp only [confRules] at hd HK
          obtain ⟨h29, h34⟩ := hd
          simp only [h29, h34] at HK ⊢
          clear h29 h34
          go_wp2
          refine HK.out _ _ (Below.refl _ _) ?_
          rfl
        · intro vv W K hB hd HK
          simp only [confRules] at hd HK
          obtain ⟨h35, h29⟩ := hd
          simp only [h35, h29] at HK ⊢
          clear h35 h29
          go_wp2
          refine HK.out _ _ (Below.refl _ _) ?_
          rfl
        · intro vv W K hB hd HK
          simp only [confRules] at hd HK
          have h36 := hd
          clear hd
          simp only [h36] at HK ⊢
          clear h36
          refine wpList_guard_no (by rfl) ?_
          refine HK.out _ _ (Below.refl _ _) ?_
          rfl
        · intro vv W K hB hd HK
          simp only [confRules] at hd HK
          obtain ⟨h37, h36⟩ := hd
          simp only [h37, h36] at HK ⊢
          clear h37 h36
          refine wpList_guard_no (by rfl) ?_
          refine HK.out _ _ (Below.refl _ _) ?_
          rfl
        · intro vv W K hB hd HK
          simp only [confRules] at hd HK
          have h36 := hd
          clear hd
          simp only [h36] at HK ⊢
          clear h36
          refine wpList_guard_no (by rfl) ?_
          refine HK.out _ _ (Below.refl _ _) ?_
          rfl
        · intro vv W K hB hd HK
          simp only [confRules] at hd HK
          obtain ⟨h39, h36⟩ := hd
          simp only [h39, h36] at HK ⊢
          clear h39 h36
          refine wpList_guard_no (by rfl) ?_
          refine HK.out _ _ (Below.refl _ _) ?_
          rfl
        · intro vv W K hB hd HK
          simp only [confRules] at hd HK
          obtain ⟨h38, h40, h36⟩ := hd
          simp only [h38, h40, h36] at HK ⊢
          clear h38 h40 h36
          refine wpList_guard_no (by rfl) ?_
          refine HK.out _ _ (Below.refl _ _) ?_
          rfl
        · intro vv W K hB hd HK
          simp only [confRules] at hd HK
          have h36 := hd
          clear hd
          simp only [h36] at HK ⊢
          clear h36
          refine wpList_guard_no (by rfl) ?_
          refine HK.out _ _ (Below.refl _ _) ?_
          rfl
        · intro vv W K hB hd HK
          simp only [confRules] at hd HK
          obtain ⟨h42, h36⟩ := hd
          simp only [h42, h36] at HK ⊢
          clear h42 h36
          refine wpList_guard_no (by rfl) ?_
          refine HK.out _ _ (Below.refl _ _) ?_
          rfl
        · intro vv W K hB hd HK
          simp only [confRules] at hd HK
          obtain ⟨h41, h43, h36⟩ := hd
          simp only [h41, h43, h36] at HK ⊢
          clear h41 h43 h36
          refine wpList_guard_no (by rfl) ?_
          refine HK.out _ _ (Below.refl _ _) ?_
          rfl
      case rdhend =>
      intro vv W hB hf
      have e36 := hf 36 (by decide)
      have e44 := hf 44 (by decide)
      simp only [endRules] at e36 e44
      simp only [e36, e44, dropRules]
      clear hf e36 e44
      obtain ⟨r1, r2, r3⟩ := HFN4.out W Z hB
      go_wp2_with (first | (refine wpList_build_on (by rfl) 72 _ rfl #[] (by simp) Z HBZ.out ?_) | (refine wpList_store_row rfl 72 _ _ rfl (w.heap.size + 1 + 1) Z rfl rfl 72 Z r3 HIZ.out rfl HOZ.out ?_))
      refine bodyPost_ret (res_row_tmp rfl _ _ (w.heap.size + 1 + 1) 72 Z _ _ rfl r2 Try.underlying72 rfl HIZ.out) rfl ?_
      exact ⟨rfl, r1⟩
    · obtain ⟨hz1, hz2⟩ := HBZ2.out rfl
      refine wp_region_conf2 45 [Fact.eq (.agg CG), Fact.eq (.pointer (some ⟨w.heap.size + 1, 0, none⟩)), Fact.eq (.int .i64 (zone)), Fact.eq (.pointer (some ⟨w.heap.size + 1, 1, none⟩)), Fact.eq (.int .i64 (off)), Fact.eq (.bool true), Fact.eq (.bool false), Fact.eq (.bool false), Fact.eq (.agg CG), Fact.eq (.pointer (some ⟨b9, 5, none⟩)), Fact.eq (.int .i64 (mate)), Fact.eq (.pointer (some ⟨w.heap.size + 1, 1, none⟩)), Fact.eq (.int .i64 (off)), Fact.eq (.bool true), Fact.eq (.bool false), Fact.eq (.bool false), Fact.eq (.bool false), Fact.eq (.pointer (some ⟨w.heap.size + 1, 0, none⟩)), Fact.eq (.int .i64 (zone)), Fact.eq (.pointer (some ⟨w.heap.size, 1, none⟩)), Fact.eq (.int .i64 (gz)), Fact.eq (.int .i64 (zone / gz)), Fact.eq (.pointer (some ⟨b9, 5, none⟩)), Fact.eq (.int .i64 (mate)), Fact.eq (.pointer (some ⟨w.heap.size, 1, none⟩)), Fact.eq (.int .i64 (gz)), Fact.eq (.int .i64 (mate / gz)), Fact.eq (.bool false), Fact.eq (.bool false), Fact.eq (.bool false), Fact.eq (.pointer (some ⟨b9, 3, none⟩)), Fact.eq (.int .i64 (block)), Fact.eq (.pointer (some ⟨w.heap.size, 3, none⟩)), Fact.eq (.int .i64 (gb)), Fact.eq (.bool false), Fact.eq (.bool false), Fact.eq (.bool false), Fact.eq (.pointer (some ⟨b9, 3, none⟩)), Fact.eq (.int .i64 (block)), Fact.eq (.pointer (some ⟨b9, 4, none⟩)), Fact.eq (.int .i64 (many)), Fact.eq (.int .i64 (block + many)), Fact.eq (.pointer (some ⟨w.heap.size, 3, none⟩)), Fact.eq (.int .i64 (gb)), Fact.eq (.bool true)] ?reA (by kernel_rfl) (by kernel_rfl) ?rehA ?reho ?rehend
      case rehA =>
        intro vv
        simp only [putRules, Nat.reduceAdd]
        rfl
      case reho =>
        refine ⟨?_, ?_, ?_, ?_, ?_, ?_, ?_, ?_, ?_, ?_, ?_, ?_, ?_, ?_, ?_, ?_, ?_, ?_, ?_, ?_, ?_, ?_, ?_, ?_, ?_, ?_, ?_, ?_, ?_, ?_, ?_, ?_, ?_, ?_, ?_, ?_, ?_, ?_, ?_, ?_, ?_, ?_, ?_, ?_, ?_, trivial⟩
        · intro vv W K hB hd HK
          simp only [confRules] at HK
          clear hd
          refine wpList_load_row rfl 47 _ rfl w.heap.size rfl 47 _ _ _ (HKG4.out W hB) Try.underlying47 rfl HGI.out ?_
          refine HK.out _ _ (Below.refl _ _) ?_
          rfl
        · intro vv W K hB hd HK
          simp only [confRules] at HK
          clear hd
          go_wp2
          refine HK.out _ _ (Below.refl _ _) ?_
          rfl
        · intro vv W K hB hd HK
          simp only [confRules] at hd HK
          have h1 := hd
          clear hd
          simp only [h1] at HK ⊢
          clear h1
          obtain ⟨c9, -⟩ := HKF4.out W hB
          go_wp2
          refine HK.out _ _ (Below.refl _ _) ?_
          rfl
        · intro vv W K hB hd HK
          simp only [confRules] at HK
          clear hd
          go_wp2
          refine HK.out _ _ (Below.refl _ _) ?_
          rfl
        · intro vv W K hB hd HK
          simp only [confRules] at hd HK
          have h3 := hd
          clear hd
          simp only [h3] at HK ⊢
          clear h3
          obtain ⟨-, c9⟩ := HKF4.out W hB
          go_wp2
          refine HK.out _ _ (Below.refl _ _) ?_
          rfl
        · intro vv W K hB hd HK
          simp only [confRules] at hd HK
          obtain ⟨h0, h2, h4⟩ := hd
          simp only [h0, h2, h4] at HK ⊢
          clear h0 h2 h4
          go_wp2_with (refine (HHA.out _).mono ?_; rintro e w9 ⟨rfl, hB9⟩)
          refine HK.out _ _ hB9 ?_
          rfl
        · intro vv W K hB hd HK
          simp only [confRules] at hd HK
          have h5 := hd
          clear hd
          simp only [h5] at HK ⊢
          clear h5
          go_wp2
          refine HK.out _ _ (Below.refl _ _) ?_
          rfl
        · intro vv W K hB hd HK
          simp only [confRules] at hd HK
          obtain ⟨h6, h5⟩ := hd
          simp only [h6, h5] at HK ⊢
          clear h6 h5
          go_wp2
          refine HK.out _ _ (Below.refl _ _) ?_
          rfl
        · intro vv W K hB hd HK
          simp only [confRules] at hd HK
          have h7 := hd
          clear hd
          simp only [h7] at HK ⊢
          clear h7
          refine wpList_guard_yes (by rfl) ?_
          refine wpList_load_row rfl 47 _ rfl w.heap.size rfl 47 _ _ _ (HKG4.out W hB) Try.underlying47 rfl HGI.out ?_
          refine HK.out _ _ (Below.refl _ _) ?_
          rfl
        · intro vv W K hB hd HK
          simp only [confRules] at hd HK
          have h7 := hd
          clear hd
          simp only [h7] at HK ⊢
          clear h7
          refine wpList_guard_yes (by rfl) ?_
          go_wp2
          refine HK.out _ _ (Below.refl _ _) ?_
          rfl
        · intro vv W K hB hd HK
          simp only [confRules] at hd HK
          obtain ⟨h9, h7⟩ := hd
          simp only [h9, h7] at HK ⊢
          clear h9 h7
          refine wpList_guard_yes (by rfl) ?_
          obtain ⟨-, -, c9⟩ := HKE4.out W hB
          go_wp2
          refine HK.out _ _ (Below.refl _ _) ?_
          rfl
        · intro vv W K hB hd HK
          simp only [confRules] at hd HK
          have h7 := hd
          clear hd
          simp only [h7] at HK ⊢
          clear h7
          refine wpList_guard_yes (by rfl) ?_
          go_wp2
          refine HK.out _ _ (Below.refl _ _) ?_
          rfl
        · intro vv W K hB hd HK
          simp only [confRules] at hd HK
          obtain ⟨h11, h7⟩ := hd
          simp only [h11, h7] at HK ⊢
          clear h11 h7
          refine wpList_guard_yes (by rfl) ?_
          obtain ⟨-, c9⟩ := HKF4.out W hB
          go_wp2
          refine HK.out _ _ (Below.refl _ _) ?_
          rfl
        · intro vv W K hB hd HK
          simp only [confRules] at hd HK
          obtain ⟨h8, h10, h12, h7, _⟩ := hd
          simp only [h8, h10, h12, h7] at HK ⊢
          clear h8 h10 h12 h7
          refine wpList_guard_yes (by rfl) ?_
          go_wp2_with (refine (HHB.out _).mono ?_; rintro e w9 ⟨rfl, hB9⟩)
          refine HK.out _ _ hB9 ?_
          rfl
        · intro vv W K hB hd HK
          simp only [confRules] at hd HK
          obtain ⟨h13, h7⟩ := hd
          simp only [h13, h7] at HK ⊢
          clear h13 h7
          refine wpList_guard_yes (by rfl) ?_
          go_wp2
          refine HK.out _ _ (Below.refl _ _) ?_
          rfl
        · intro vv W K hB hd HK
          simp only [confRules] at hd HK
          obtain ⟨h7, h14⟩ := hd
          simp only [h7, h14] at HK ⊢
          clear h7 h14
          go_wp2
          refine HK.out _ _ (Below.refl _ _) ?_
          rfl
        · intro vv W K hB hd HK
          simp only [confRules] at hd HK
          obtain ⟨h15, h13⟩ := hd
          simp only [h15, h13] at HK ⊢
          clear h15 h13
          go_wp2
          refine HK.out _ _ (Below.refl _ _) ?_
          rfl
        · intro vv W K hB hd HK
          simp only [confRules] at hd HK
          have h16 := hd
          clear hd
          simp only [h16] at HK ⊢
          clear h16
          refine wpList_guard_yes (by rfl) ?_
          go_wp2
          refine HK.out _ _ (Below.refl _ _) ?_
          rfl
        · intro vv W K hB hd HK
          simp only [confRules] at hd HK
          obtain ⟨h17, h16⟩ := hd
          simp only [h17, h16] at HK ⊢
          clear h17 h16
          refine wpList_guard_yes (by rfl) ?_
          obtain ⟨c9, -⟩ := HKF4.out W hB
          go_wp2
          refine HK.out _ _ (Below.refl _ _) ?_
          rfl
        · intro vv W K hB hd HK
          simp only [confRules] at hd HK
          have h16 := hd
          clear hd
          simp only [h16] at HK ⊢
          clear h16
          refine wpList_guard_yes (by rfl) ?_
          go_wp2
          refine HK.out _ _ (Below.refl _ _) ?_
          rfl
        · intro vv W K hB hd HK
          simp only [confRules] at hd HK
          obtain ⟨h19, h16⟩ := hd
          simp only [h19, h16] at HK ⊢
          clear h19 h16
          refine wpList_guard_yes (by rfl) ?_
          obtain ⟨c9, -⟩ := HGG.out W w.heap.size (HKG4.out W hB)
          go_wp2
          refine HK.out _ _ (Below.refl _ _) ?_
          rfl
        · intro vv W K hB hd HK
          simp only [confRules] at hd HK
          obtain ⟨h18, h20, h16⟩ := hd
          simp only [h18, h20, h16] at HK ⊢
          clear h18 h20 h16
          refine wpList_guard_yes (by rfl) ?_
          go_wp2
          refine HK.out _ _ (Below.refl _ _) ?_
          rfl
        · intro vv W K hB hd HK
          simp only [confRules] at hd HK
          have h16 := hd
          clear hd
          simp only [h16] at HK ⊢
          clear h16
          refine wpList_guard_yes (by rfl) ?_
          go_wp2
          refine HK.out _ _ (Below.refl _ _) ?_
          rfl
        · intro vv W K hB hd HK
          simp only [confRules] at hd HK
          obtain ⟨h22, h16⟩ := hd
          simp only [h22, h16] at HK ⊢
          clear h22 h16
          refine wpList_guard_yes (by rfl) ?_
          obtain ⟨-, -, c9⟩ := HKE4.out W hB
          go_wp2
          refine HK.out _ _ (Below.refl _ _) ?_
          rfl
        · intro vv W K hB hd HK
          simp only [confRules] at hd HK
          have h16 := hd
          clear hd
          simp only [h16] at HK ⊢
          clear h16
          refine wpList_guard_yes (by rfl) ?_
          go_wp2
          refine HK.out _ _ (Below.refl _ _) ?_
          rfl
        · intro vv W K hB hd HK
          simp only [confRules] at hd HK
          obtain ⟨h24, h16⟩ := hd
          simp only [h24, h16] at HK ⊢
          clear h24 h16
          refine wpList_guard_yes (by rfl) ?_
          obtain ⟨c9, -⟩ := HGG.out W w.heap.size (HKG4.out W hB)
          go_wp2
          refine HK.out _ _ (Below.refl _ _) ?_
          rfl
        · intro vv W K hB hd HK
          simp only [confRules] at hd HK
          obtain ⟨h23, h25, h16⟩ := hd
          simp only [h23, h25, h16] at HK ⊢
          clear h23 h25 h16
          refine wpList_guard_yes (by rfl) ?_
          go_wp2
          refine HK.out _ _ (Below.refl _ _) ?_
          rfl
        · intro vv W K hB hd HK
          simp only [confRules] at hd HK
          obtain ⟨h21, h26, h16⟩ := hd
          simp only [h21, h26, h16] at HK ⊢
          clear h21 h26 h16
          refine wpList_guard_yes (by rfl) ?_
          go_wp2
          refine HK.out _ _ (Below.refl _ _) ?_
          rfl
        · intro vv W K hB hd HK
          simp only [confRules] at hd HK
          obtain ⟨h16, h27⟩ := hd
          simp only [h16, h27] at HK ⊢
          clear h16 h27
          go_wp2
          refine HK.out _ _ (Below.refl _ _) ?_
          rfl
        · intro vv W K hB hd HK
          simp only [confRules] at hd HK
          obtain ⟨h28, h16⟩ := hd
          simp only [h28, h16] at HK ⊢
          clear h28 h16
          go_wp2
          refine HK.out _ _ (Below.refl _ _) ?_
          rfl
        · intro vv W K hB hd HK
          simp only [confRules] at hd HK
          have h29 := hd
          clear hd
          simp only [h29] at HK ⊢
          clear h29
          refine wpList_guard_yes (by rfl) ?_
          go_wp2
          refine HK.out _ _ (Below.refl _ _) ?_
          rfl
        · intro vv W K hB hd HK
          simp only [confRules] at hd HK
          obtain ⟨h30, h29⟩ := hd
          simp only [h30, h29] at HK ⊢
          clear h30 h29
          refine wpList_guard_yes (by rfl) ?_
          obtain ⟨c9, -, -⟩ := HKE4.out W hB
          go_wp2
          refine HK.out _ _ (Below.refl _ _) ?_
          rfl
        · intro vv W K hB hd HK
          simp only [confRules] at hd HK
          have h29 := hd
          clear hd
          simp only [h29] at HK ⊢
          clear h29
          refine wpList_guard_yes (by rfl) ?_
          go_wp2
          refine HK.out _ _ (Below.refl _ _) ?_
          rfl
        · intro vv W K hB hd HK
          simp only [confRules] at hd HK
          obtain ⟨h32, h29⟩ := hd
          simp only [h32, h29] at HK ⊢
          clear h32 h29
          refine wpList_guard_yes (by rfl) ?_
          obtain ⟨-, c9⟩ := HGG.out W w.heap.size (HKG4.out W hB)
          go_wp2
          refine HK.out _ _ (Below.refl _ _) ?_
          rfl
        · intro vv W K hB hd HK
          simp only [confRules] at hd HK
          obtain ⟨h31, h33, h29⟩ := hd
          simp only [h31, h33, h29] at HK ⊢
          clear h31 h33 h29
          refine wpList_guard_yes (by rfl) ?_
          go_wp2
          refine HK.out _ _ (Below.refl _ _) ?_
          rfl
        · intro vv W K hB hd HK
          simp only [confRules] at hd HK
          obtain ⟨h29, h34⟩ := hd
          simp only [h29, h34] at HK ⊢
          clear h29 h34
          go_wp2
          refine HK.out _ _ (Below.refl _ _) ?_
          rfl
        · intro vv W K hB hd HK
          simp only [confRules] at hd HK
          obtain ⟨h35, h29⟩ := hd
          simp only [h35, h29] at HK ⊢
          clear h35 h29
          go_wp2
          refine HK.out _ _ (Below.refl _ _) ?_
          rfl
        · intro vv W K hB hd HK
          simp only [confRules] at hd HK
          have h36 := hd
          clear hd
          simp only [h36] at HK ⊢
          clear h36
          refine wpList_guard_yes (by rfl) ?_
          go_wp2
          refine HK.out _ _ (Below.refl _ _) ?_
          rfl
        · intro vv W K hB hd HK
          simp only [confRules] at hd HK
          obtain ⟨h37, h36⟩ := hd
          simp only [h37, h36] at HK ⊢
          clear h37 h36
          refine wpList_guard_yes (by rfl) ?_
          obtain ⟨c9, -, -⟩ := HKE4.out W hB
          go_wp2
          refine HK.out _ _ (Below.refl _ _) ?_
          rfl
        · intro vv W K hB hd HK
          simp only [confRules] at hd HK
          have h36 := hd
          clear hd
          simp only [h36] at HK ⊢
          clear h36
          refine wpList_guard_yes (by rfl) ?_
          go_wp2
          refine HK.out _ _ (Below.refl _ _) ?_
          rfl
        · intro vv W K hB hd HK
          simp only [confRules] at hd HK
          obtain ⟨h39, h36⟩ := hd
          simp only [h39, h36] at HK ⊢
          clear h39 h36
          refine wpList_guard_yes (by rfl) ?_
          obtain ⟨-, c9, -⟩ := HKE4.out W hB
          go_wp2
          refine HK.out _ _ (Below.refl _ _) ?_
          rfl
        · intro vv W K hB hd HK
          simp only [confRules] at hd HK
          obtain ⟨h38, h40, h36⟩ := hd
          simp only [h38, h40, h36] at HK ⊢
          clear h38 h40 h36
          refine wpList_guard_yes (by rfl) ?_
          go_wp2
          refine HK.out _ _ (Below.refl _ _) ?_
          rfl
        · intro vv W K hB hd HK
          simp only [confRules] at hd HK
          have h36 := hd
          clear hd
          simp only [h36] at HK ⊢
          clear h36
          refine wpList_guard_yes (by rfl) ?_
          go_wp2
          refine HK.out _ _ (Below.refl _ _) ?_
          rfl
        · intro vv W K hB hd HK
          simp only [confRules] at hd HK
          obtain ⟨h42, h36⟩ := hd
          simp only [h42, h36] at HK ⊢
          clear h42 h36
          refine wpList_guard_yes (by rfl) ?_
          obtain ⟨-, c9⟩ := HGG.out W w.heap.size (HKG4.out W hB)
          go_wp2
          refine HK.out _ _ (Below.refl _ _) ?_
          rfl
        · intro vv W K hB hd HK
          simp only [confRules] at hd HK
          obtain ⟨h41, h43, h36⟩ := hd
          simp only [h41, h43, h36] at HK ⊢
          clear h41 h43 h36
          refine wpList_guard_yes (by rfl) ?_
          go_wp2
          refine HK.out _ _ (Below.refl _ _) ?_
          rfl
      case rehend =>
      intro vv W hB hf
      have e36 := hf 36 (by decide)
      have e44 := hf 44 (by decide)
      simp only [endRules] at e36 e44
      simp only [e36, e44, dropRules]
      clear hf e36 e44
      obtain ⟨r1, r2, r3⟩ := HFN4.out W Z hB
      go_wp2_with (first | (refine wpList_build_on (by rfl) 72 _ rfl #[] (by simp) Z HBZ.out ?_) | (refine wpList_store_row rfl 72 _ _ rfl (w.heap.size + 1 + 1) Z rfl rfl 72 Z r3 HIZ.out rfl HOZ.out ?_))
      refine bodyPost_ret (res_row_tmp rfl _ _ (w.heap.size + 1 + 1) 72 Z _ _ rfl r2 Try.underlying72 rfl HIZ.out) rfl ?_
      exact ⟨rfl, r1⟩
    · obtain ⟨hz1, hz2⟩ := HBZ2.out rfl
      refine wp_region_conf2 45 [Fact.eq (.agg CG), Fact.eq (.pointer (some ⟨w.heap.size + 1, 0, none⟩)), Fact.eq (.int .i64 (zone)), Fact.eq (.pointer (some ⟨w.heap.size + 1, 1, none⟩)), Fact.eq (.int .i64 (off)), Fact.eq (.bool true), Fact.eq (.bool false), Fact.eq (.bool false), Fact.eq (.agg CG), Fact.eq (.pointer (some ⟨b9, 5, none⟩)), Fact.eq (.int .i64 (mate)), Fact.eq (.pointer (some ⟨w.heap.size + 1, 1, none⟩)), Fact.eq (.int .i64 (off)), Fact.eq (.bool true), Fact.eq (.bool false), Fact.eq (.bool false), Fact.eq (.bool false), Fact.eq (.pointer (some ⟨w.heap.size + 1, 0, none⟩)), Fact.eq (.int .i64 (zone)), Fact.eq (.pointer (some ⟨w.heap.size, 1, none⟩)), Fact.eq (.int .i64 (gz)), Fact.eq (.int .i64 (zone / gz)), Fact.eq (.pointer (some ⟨b9, 5, none⟩)), Fact.eq (.int .i64 (mate)), Fact.eq (.pointer (some ⟨w.heap.size, 1, none⟩)), Fact.eq (.int .i64 (gz)), Fact.eq (.int .i64 (mate / gz)), Fact.eq (.bool false), Fact.eq (.bool false), Fact.eq (.bool false), Fact.eq (.pointer (some ⟨b9, 3, none⟩)), Fact.eq (.int .i64 (block)), Fact.eq (.pointer (some ⟨w.heap.size, 3, none⟩)), Fact.eq (.int .i64 (gb)), Fact.eq (.bool false), Fact.eq (.bool false), Fact.eq (.bool false), Fact.eq (.pointer (some ⟨b9, 3, none⟩)), Fact.eq (.int .i64 (block)), Fact.eq (.pointer (some ⟨b9, 4, none⟩)), Fact.eq (.int .i64 (many)), Fact.eq (.int .i64 (block + many)), Fact.eq (.pointer (some ⟨w.heap.size, 3, none⟩)), Fact.eq (.int .i64 (gb)), Fact.eq (.bool false)] ?rfA (by kernel_rfl) (by kernel_rfl) ?rfhA ?rfho ?rfhend
      case rfhA =>
        intro vv
        simp only [putRules, Nat.reduceAdd]
        rfl
      case rfho =>
        refine ⟨?_, ?_, ?_, ?_, ?_, ?_, ?_, ?_, ?_, ?_, ?_, ?_, ?_, ?_, ?_, ?_, ?_, ?_, ?_, ?_, ?_, ?_, ?_, ?_, ?_, ?_, ?_, ?_, ?_, ?_, ?_, ?_, ?_, ?_, ?_, ?_, ?_, ?_, ?_, ?_, ?_, ?_, ?_, ?_, ?_, trivial⟩
        · intro vv W K hB hd HK
          simp only [confRules] at HK
          clear hd
          refine wpList_load_row rfl 47 _ rfl w.heap.size rfl 47 _ _ _ (HKG4.out W hB) Try.underlying47 rfl HGI.out ?_
          refine HK.out _ _ (Below.refl _ _) ?_
          rfl
        · intro vv W K hB hd HK
          simp only [confRules] at HK
          clear hd
          go_wp2
          refine HK.out _ _ (Below.refl _ _) ?_
          rfl
        · intro vv W K hB hd HK
          simp only [confRules] at hd HK
          have h1 := hd
          clear hd
          simp only [h1] at HK ⊢
          clear h1
          obtain ⟨c9, -⟩ := HKF4.out W hB
          go_wp2
          refine HK.out _ _ (Below.refl _ _) ?_
          rfl
        · intro vv W K hB hd HK
          simp only [confRules] at HK
          clear hd
          go_wp2
          refine HK.out _ _ (Below.refl _ _) ?_
          rfl
        · intro vv W K hB hd HK
          simp only [confRules] at hd HK
          have h3 := hd
          clear hd
          simp only [h3] at HK ⊢
          clear h3
          obtain ⟨-, c9⟩ := HKF4.out W hB
          go_wp2
          refine HK.out _ _ (Below.refl _ _) ?_
          rfl
        · intro vv W K hB hd HK
          simp only [confRules] at hd HK
          obtain ⟨h0, h2, h4⟩ := hd
          simp only [h0, h2, h4] at HK ⊢
          clear h0 h2 h4
          go_wp2_with (refine (HHA.out _).mono ?_; rintro e w9 ⟨rfl, hB9⟩)
          refine HK.out _ _ hB9 ?_
          rfl
        · intro vv W K hB hd HK
          simp only [confRules] at hd HK
          have h5 := hd
          clear hd
          simp only [h5] at HK ⊢
          clear h5
          go_wp2
          refine HK.out _ _ (Below.refl _ _) ?_
          rfl
        · intro vv W K hB hd HK
          simp only [confRules] at hd HK
          obtain ⟨h6, h5⟩ := hd
          simp only [h6, h5] at HK ⊢
          clear h6 h5
          go_wp2
          refine HK.out _ _ (Below.refl _ _) ?_
          rfl
        · intro vv W K hB hd HK
          simp only [confRules] at hd HK
          have h7 := hd
          clear hd
          simp only [h7] at HK ⊢
          clear h7
          refine wpList_guard_yes (by rfl) ?_
          refine wpList_load_row rfl 47 _ rfl w.heap.size rfl 47 _ _ _ (HKG4.out W hB) Try.underlying47 rfl HGI.out ?_
          refine HK.out _ _ (Below.refl _ _) ?_
          rfl
        · intro vv W K hB hd HK
          simp only [confRules] at hd HK
          have h7 := hd
          clear hd
          simp only [h7] at HK ⊢
          clear h7
          refine wpList_guard_yes (by rfl) ?_
          go_wp2
          refine HK.out _ _ (Below.refl _ _) ?_
          rfl
        · intro vv W K hB hd HK
          simp only [confRules] at hd HK
          obtain ⟨h9, h7⟩ := hd
          simp only [h9, h7] at HK ⊢
          clear h9 h7
          refine wpList_guard_yes (by rfl) ?_
          obtain ⟨-, -, c9⟩ := HKE4.out W hB
          go_wp2
          refine HK.out _ _ (Below.refl _ _) ?_
          rfl
        · intro vv W K hB hd HK
          simp only [confRules] at hd HK
          have h7 := hd
          clear hd
          simp only [h7] at HK ⊢
          clear h7
          refine wpList_guard_yes (by rfl) ?_
          go_wp2
          refine HK.out _ _ (Below.refl _ _) ?_
          rfl
        · intro vv W K hB hd HK
          simp only [confRules] at hd HK
          obtain ⟨h11, h7⟩ := hd
          simp only [h11, h7] at HK ⊢
          clear h11 h7
          refine wpList_guard_yes (by rfl) ?_
          obtain ⟨-, c9⟩ := HKF4.out W hB
          go_wp2
          refine HK.out _ _ (Below.refl _ _) ?_
          rfl
        · intro vv W K hB hd HK
          simp only [confRules] at hd HK
          obtain ⟨h8, h10, h12, h7, _⟩ := hd
          simp only [h8, h10, h12, h7] at HK ⊢
          clear h8 h10 h12 h7
          refine wpList_guard_yes (by rfl) ?_
          go_wp2_with (refine (HHB.out _).mono ?_; rintro e w9 ⟨rfl, hB9⟩)
          refine HK.out _ _ hB9 ?_
          rfl
        · intro vv W K hB hd HK
          simp only [confRules] at hd HK
          obtain ⟨h13, h7⟩ := hd
          simp only [h13, h7] at HK ⊢
          clear h13 h7
          refine wpList_guard_yes (by rfl) ?_
          go_wp2
          refine HK.out _ _ (Below.refl _ _) ?_
          rfl
        · intro vv W K hB hd HK
          simp only [confRules] at hd HK
          obtain ⟨h7, h14⟩ := hd
          simp only [h7, h14] at HK ⊢
          clear h7 h14
          go_wp2
          refine HK.out _ _ (Below.refl _ _) ?_
          rfl
        · intro vv W K hB hd HK
          simp only [confRules] at hd HK
          obtain ⟨h15, h13⟩ := hd
          simp only [h15, h13] at HK ⊢
          clear h15 h13
          go_wp2
          refine HK.out _ _ (Below.refl _ _) ?_
          rfl
        · intro vv W K hB hd HK
          simp only [confRules] at hd HK
          have h16 := hd
          clear hd
          simp only [h16] at HK ⊢
          clear h16
          refine wpList_guard_yes (by rfl) ?_
          go_wp2
          refine HK.out _ _ (Below.refl _ _) ?_
          rfl
        · intro vv W K hB hd HK
          simp only [confRules] at hd HK
          obtain ⟨h17, h16⟩ := hd
          simp only [h17, h16] at HK ⊢
          clear h17 h16
          refine wpList_guard_yes (by rfl) ?_
          obtain ⟨c9, -⟩ := HKF4.out W hB
          go_wp2
          refine HK.out _ _ (Below.refl _ _) ?_
          rfl
        · intro vv W K hB hd HK
          simp only [confRules] at hd HK
          have h16 := hd
          clear hd
          simp only [h16] at HK ⊢
          clear h16
          refine wpList_guard_yes (by rfl) ?_
          go_wp2
          refine HK.out _ _ (Below.refl _ _) ?_
          rfl
        · intro vv W K hB hd HK
          simp only [confRules] at hd HK
          obtain ⟨h19, h16⟩ := hd
          simp only [h19, h16] at HK ⊢
          clear h19 h16
          refine wpList_guard_yes (by rfl) ?_
          obtain ⟨c9, -⟩ := HGG.out W w.heap.size (HKG4.out W hB)
          go_wp2
          refine HK.out _ _ (Below.refl _ _) ?_
          rfl
        · intro vv W K hB hd HK
          simp only [confRules] at hd HK
          obtain ⟨h18, h20, h16⟩ := hd
          simp only [h18, h20, h16] at HK ⊢
          clear h18 h20 h16
          refine wpList_guard_yes (by rfl) ?_
          go_wp2
          refine HK.out _ _ (Below.refl _ _) ?_
          rfl
        · intro vv W K hB hd HK
          simp only [confRules] at hd HK
          have h16 := hd
          clear hd
          simp only [h16] at HK ⊢
          clear h16
          refine wpList_guard_yes (by rfl) ?_
          go_wp2
          refine HK.out _ _ (Below.refl _ _) ?_
          rfl
        · intro vv W K hB hd HK
          simp only [confRules] at hd HK
          obtain ⟨h22, h16⟩ := hd
          simp only [h22, h16] at HK ⊢
          clear h22 h16
          refine wpList_guard_yes (by rfl) ?_
          obtain ⟨-, -, c9⟩ := HKE4.out W hB
          go_wp2
          refine HK.out _ _ (Below.refl _ _) ?_
          rfl
        · intro vv W K hB hd HK
          simp only [confRules] at hd HK
          have h16 := hd
          clear hd
          simp only [h16] at HK ⊢
          clear h16
          refine wpList_guard_yes (by rfl) ?_
          go_wp2
          refine HK.out _ _ (Below.refl _ _) ?_
          rfl
        · intro vv W K hB hd HK
          simp only [confRules] at hd HK
          obtain ⟨h24, h16⟩ := hd
          simp only [h24, h16] at HK ⊢
          clear h24 h16
          refine wpList_guard_yes (by rfl) ?_
          obtain ⟨c9, -⟩ := HGG.out W w.heap.size (HKG4.out W hB)
          go_wp2
          refine HK.out _ _ (Below.refl _ _) ?_
          rfl
        · intro vv W K hB hd HK
          simp only [confRules] at hd HK
          obtain ⟨h23, h25, h16⟩ := hd
          simp only [h23, h25, h16] at HK ⊢
          clear h23 h25 h16
          refine wpList_guard_yes (by rfl) ?_
          go_wp2
          refine HK.out _ _ (Below.refl _ _) ?_
          rfl
        · intro vv W K hB hd HK
          simp only [confRules] at hd HK
          obtain ⟨h21, h26, h16⟩ := hd
          simp only [h21, h26, h16] at HK ⊢
          clear h21 h26 h16
          refine wpList_guard_yes (by rfl) ?_
          go_wp2
          refine HK.out _ _ (Below.refl _ _) ?_
          rfl
        · intro vv W K hB hd HK
          simp only [confRules] at hd HK
          obtain ⟨h16, h27⟩ := hd
          simp only [h16, h27] at HK ⊢
          clear h16 h27
          go_wp2
          refine HK.out _ _ (Below.refl _ _) ?_
          rfl
        · intro vv W K hB hd HK
          simp only [confRules] at hd HK
          obtain ⟨h28, h16⟩ := hd
          simp only [h28, h16] at HK ⊢
          clear h28 h16
          go_wp2
          refine HK.out _ _ (Below.refl _ _) ?_
          rfl
        · intro vv W K hB hd HK
          simp only [confRules] at hd HK
          have h29 := hd
          clear hd
          simp only [h29] at HK ⊢
          clear h29
          refine wpList_guard_yes (by rfl) ?_
          go_wp2
          refine HK.out _ _ (Below.refl _ _) ?_
          rfl
        · intro vv W K hB hd HK
          simp only [confRules] at hd HK
          obtain ⟨h30, h29⟩ := hd
          simp only [h30, h29] at HK ⊢
          clear h30 h29
          refine wpList_guard_yes (by rfl) ?_
          obtain ⟨c9, -, -⟩ := HKE4.out W hB
          go_wp2
          refine HK.out _ _ (Below.refl _ _) ?_
          rfl
        · intro vv W K hB hd HK
          simp only [confRules] at hd HK
          have h29 := hd
          clear hd
          simp only [h29] at HK ⊢
          clear h29
          refine wpList_guard_yes (by rfl) ?_
          go_wp2
          refine HK.out _ _ (Below.refl _ _) ?_
          rfl
        · intro vv W K hB hd HK
          simp only [confRules] at hd HK
          obtain ⟨h32, h29⟩ := hd
          simp only [h32, h29] at HK ⊢
          clear h32 h29
          refine wpList_guard_yes (by rfl) ?_
          obtain ⟨-, c9⟩ := HGG.out W w.heap.size (HKG4.out W hB)
          go_wp2
          refine HK.out _ _ (Below.refl _ _) ?_
          rfl
        · intro vv W K hB hd HK
          simp only [confRules] at hd HK
          obtain ⟨h31, h33, h29⟩ := hd
          simp only [h31, h33, h29] at HK ⊢
          clear h31 h33 h29
          refine wpList_guard_yes (by rfl) ?_
          go_wp2
          refine HK.out _ _ (Below.refl _ _) ?_
          rfl
        · intro vv W K hB hd HK
          simp only [confRules] at hd HK
          obtain ⟨h29, h34⟩ := hd
          simp only [h29, h34] at HK ⊢
          clear h29 h34
          go_wp2
          refine HK.out _ _ (Below.refl _ _) ?_
          rfl
        · intro vv W K hB hd HK
          simp only [confRules] at hd HK
          obtain ⟨h35, h29⟩ := hd
          simp only [h35, h29] at HK ⊢
          clear h35 h29
          go_wp2
          refine HK.out _ _ (Below.refl _ _) ?_
          rfl
        · intro vv W K hB hd HK
          simp only [confRules] at hd HK
          have h36 := hd
          clear hd
          simp only [h36] at HK ⊢
          clear h36
          refine wpList_guard_yes (by rfl) ?_
          go_wp2
          refine HK.out _ _ (Below.refl _ _) ?_
          rfl
        · intro vv W K hB hd HK
          simp only [confRules] at hd HK
          obtain ⟨h37, h36⟩ := hd
          simp only [h37, h36] at HK ⊢
          clear h37 h36
          refine wpList_guard_yes (by rfl) ?_
          obtain ⟨c9, -, -⟩ := HKE4.out W hB
          go_wp2
          refine HK.out _ _ (Below.refl _ _) ?_
          rfl
        · intro vv W K hB hd HK
          simp only [confRules] at hd HK
          have h36 := hd
          clear hd
          simp only [h36] at HK ⊢
          clear h36
          refine wpList_guard_yes (by rfl) ?_
          go_wp2
          refine HK.out _ _ (Below.refl _ _) ?_
          rfl
        · intro vv W K hB hd HK
          simp only [confRules] at hd HK
          obtain ⟨h39, h36⟩ := hd
          simp only [h39, h36] at HK ⊢
          clear h39 h36
          refine wpList_guard_yes (by rfl) ?_
          obtain ⟨-, c9, -⟩ := HKE4.out W hB
          go_wp2
          refine HK.out _ _ (Below.refl _ _) ?_
          rfl
        · intro vv W K hB hd HK
          simp only [confRules] at hd HK
          obtain ⟨h38, h40, h36⟩ := hd
          simp only [h38, h40, h36] at HK ⊢
          clear h38 h40 h36
          refine wpList_guard_yes (by rfl) ?_
          go_wp2
          refine HK.out _ _ (Below.refl _ _) ?_
          rfl
        · intro vv W K hB hd HK
          simp only [confRules] at hd HK
          have h36 := hd
          clear hd
          simp only [h36] at HK ⊢
          clear h36
          refine wpList_guard_yes (by rfl) ?_
          go_wp2
          refine HK.out _ _ (Below.refl _ _) ?_
          rfl
        · intro vv W K hB hd HK
          simp only [confRules] at hd HK
          obtain ⟨h42, h36⟩ := hd
          simp only [h42, h36] at HK ⊢
          clear h42 h36
          refine wpList_guard_yes (by rfl) ?_
          obtain ⟨-, c9⟩ := HGG.out W w.heap.size (HKG4.out W hB)
          go_wp2
          refine HK.out _ _ (Below.refl _ _) ?_
          rfl
        · intro vv W K hB hd HK
          simp only [confRules] at hd HK
          obtain ⟨h41, h43, h36⟩ := hd
          simp only [h41, h43, h36] at HK ⊢
          clear h41 h43 h36
          refine wpList_guard_yes (by rfl) ?_
          go_wp2
          refine HK.out _ _ (Below.refl _ _) ?_
          rfl
      case rfhend =>
      intro vv W hB hf
      have e36 := hf 36 (by decide)
      have e44 := hf 44 (by decide)
      simp only [endRules] at e36 e44
      simp only [e36, e44, dropRules]
      clear hf e36 e44
      obtain ⟨r1, r2, r3⟩ := HFN4.out W CE hB
      have he9 := HE4'.out W hB
      go_wp2_with (first | (refine wpList_load_row rfl 72 _ rfl b9 rfl 72 _ _ _ he9 Try.underlying72 rfl HIE.out ?_) | (refine wpList_store_row rfl 72 _ _ rfl (w.heap.size + 1 + 1) CE rfl rfl 72 Z r3 HIE.out HSE.out HOE.out ?_))
      refine bodyPost_ret (res_row_tmp rfl _ _ (w.heap.size + 1 + 1) 72 CE _ _ rfl r2 Try.underlying72 rfl HIE.out) rfl ?_
      exact ⟨rfl, r1⟩
end Go.Proofs.Ytoiephmngdecaaa
namespace Go.Proofs.Ytoiephmngdecaaa
open Go.RowKit Go.Rv Rl Frm
set_option linter.unusedVariables false
theorem holdsG_17 {g : Geo.G} (hr : Geo.right g = true) (z o : Int) : holdsG g z o = hold17 g z o := by
  unfold holdsG hold17
  rw [hr, Bool.true_and]
  unfold Geo.inB
  rw [Bool.and_assoc]
  congr 1
  congr 1
  · exact decide_eq_decide.2 ⟨fun h => by omega, fun h => by omega⟩
  · congr 1
    exact decide_eq_decide.2 ⟨fun h => by omega, fun h => by omega⟩
theorem hold17_dom {g : Geo.G} {z o : Int} (h : hold17 g z o = true) : 0 ≤ z ∧ z < g.d * g.z ∧ domOf g z = z / g.z := by
  unfold hold17 at h
  simp only [Bool.and_eq_true, decide_eq_true_eq] at h
  exact ⟨h.1, h.2.1, if_pos ⟨h.1, h.2.1⟩⟩
theorem rrec17_any (g : Geo.G) (hgr : Geo.right g = true) (epoch : Int) (f : Fnd) (w : World) (hq : FndQ f) :
    Calls Try.prog 18 #[.agg (GC g), .int .i64 epoch, .agg (fndC f)] w fun e w' => e = .returned (.tuple #[.agg (EC ((recE g epoch f).getD En.E.zero)), .bool (recE g epoch f).isSome]) ∧ Below w.heap.size w w' := by
  have hqq := hq
  obtain ⟨-, -, hbd, -⟩ := hq
  have hs := ((Geo.right_iff g).1 hgr).1
  have hcase := readE_cases f.fr hbd
  have hob : EBody (En.ofE f.fr.kind f.fr.body).1 := ofE_body hbd.1 hbd.2
  have hright : (En.ofE f.fr.kind f.fr.body).2 = 0 → En.right (En.ofE f.fr.kind f.fr.body).1 = true := by
    unfold En.ofE
    split
    · intro _; assumption
    · intro h; cases h
  obtain ⟨r, hr⟩ : ∃ r, En.ofE f.fr.kind f.fr.body = r := ⟨_, rfl⟩
  have hof := fun W => rof_any f.fr.kind f.fr.body W hbd.1 hbd.2
  rw [hr] at hcase hob hright hof
  unfold RofPost at hof
  obtain ⟨rb, hrb⟩ : ∃ b, (recE g epoch f).isSome = b := ⟨_, rfl⟩
  have hnone : (readE f.fr).2 ≠ 0 → rb = false := fun h => by
    rw [← hrb]
    unfold recE
    rw [if_neg (fun hh => h hh.1)]
    rfl
  have hsome : readE f.fr = (r.1, 0) → recE g epoch f = if f.fr.epoch = epoch ∧ f.fr.zone = f.zone ∧ f.fr.off = f.off ∧ Rl.lies g f r.1 = true then some r.1 else none := fun h => by
    unfold recE
    rw [h]
    simp
  have hres : EC ((recE g epoch f).getD En.E.zero) = if rb = true then EC r.1 else EC En.E.zero := by
    by_cases h0 : (readE f.fr).2 = 0
    · have h1 : readE f.fr = (r.1, 0) := by
        rcases hcase with ⟨-, h⟩ | ⟨-, -, h⟩ | ⟨-, -, -, h⟩ | ⟨-, -, -, -, h⟩ | ⟨-, -, -, -, h, -⟩
        · rw [h] at h0; cases h0
        · rw [h] at h0; cases h0
        · rw [h] at h0; cases h0
        · rw [h] at h0; cases h0
        · exact h
      rw [← hrb, hsome h1]
      split <;> rfl
    · have h1 := hnone h0
      rw [h1] at hrb
      have h2 : recE g epoch f = none := by
        cases h : recE g epoch f with
        | none => rfl
        | some e => rw [h] at hrb; cases hrb
      rw [h2, h1]
      rfl
  rw [hres, hrb]
  refine rrec17_core w (fndC f) (FC f.fr) (EC r.1) g epoch f.zone f.off f.fr.kind f.fr.zone f.fr.off f.fr.epoch f.fr.seq r.1.first r.1.count r.1.block r.1.many r.1.mate g.z g.b (decide (r.2 = 0)) (rightF f.fr) (hold17 g f.zone f.off) (hold17 g r.1.mate f.off) rb (FC f.fr).toList (byteCells f.fr.body).toList
    ?_ ?_ ?_ ?_ (by simp) (size_f16 hqq) (size_f3 hbd.1) (by rw [Array.length_toList]; exact size_f3 hbd.1) (by rw [Array.length_toList]; exact size_body hbd.1) (size_re hob.1) (by rw [EC_size, EC_size, hob.1]; rfl) (EC_one _) (by rw [FC_size, FC_size, hbd.1]; rfl) (FC_one _) ?_ (fun W => rfright_any f.fr W) (fun W => hold17_any g _ _ W hs) (fun W => hold17_any g _ _ W hs) ?_ ?_ hs.2.1 ?_
  · intro W b h
    obtain ⟨c0, c1, -⟩ := fnd_cells h
    exact ⟨c0, c1, fnd_range h⟩
  · intro W b h
    obtain ⟨c0, c1, c2, c3, c4⟩ := frame_cells h
    refine ⟨c0, c1, c2, c3, c4, fun j v hv => ?_⟩
    rw [cell_of_row _ _ _ _ _ _ h, ← hv, Array.getElem?_toList]
    unfold FC
    rw [Array.getElem?_append_right (by simp)]
    simp
  · intro W b h
    obtain ⟨-, c1, c2, c3, c4, c5⟩ := ent_cells h
    exact ⟨c1, c2, c3, c4, c5⟩
  · intro W b h
    obtain ⟨-, c1, -, c3, -⟩ := geo_cells h
    exact ⟨c1, c3⟩
  · intro W
    rw [Array.toArray_toList]
    exact hof W
  · intro h
    obtain ⟨a, b, c, m, t2, he, h1, h2, h3, h4, h5, h6⟩ := En.right_nat (hright (of_decide_eq_true h))
    rw [he]
    simp only
    omega
  · intro h
    obtain ⟨h1, h2, -⟩ := hold17_dom h
    have := (Geo.dz_bd hs).2
    omega
  · rcases hcase with ⟨h1, h⟩ | ⟨h0, h1, h⟩ | ⟨h0, h1, h2, h⟩ | ⟨h0, h1, h2, h3, h⟩ | ⟨h0, h1, h2, h3, h, -⟩
    · exact .inl ⟨decide_eq_false h1, hnone (by rw [h]; decide)⟩
    · exact .inr (.inl ⟨decide_eq_true h0, h1, hnone (by rw [h]; decide)⟩)
    · exact .inr (.inr (.inl ⟨decide_eq_true h0, h1, decide_eq_true h2, hnone (by rw [h]; decide)⟩))
    · exact .inr (.inr (.inr (.inl ⟨decide_eq_true h0, h1, decide_eq_false h2, decide_eq_true h3, hnone (by rw [h]; decide)⟩)))
    · have hs2 := hsome h
      have hb : rb = decide (f.fr.epoch = epoch ∧ f.fr.zone = f.zone ∧ f.fr.off = f.off ∧ Rl.lies g f r.1 = true) := by
        rw [← hrb, hs2]
        split
        · rename_i hh; rw [decide_eq_true hh]; rfl
        · rename_i hh; rw [decide_eq_false hh]; rfl
      obtain ⟨a, b, c, m, t2, he, k1, k2, k3, k4, k5, k6⟩ := En.right_nat (hright h0)
      have em : 0 ≤ r.1.many := by rw [he]; exact Int.natCast_nonneg _
      have hlies : Rl.lies g f r.1 = (hold17 g f.zone f.off && (hold17 g r.1.mate f.off && (decide (domOf g f.zone ≠ domOf g r.1.mate) && decide (r.1.block + max r.1.many 1 ≤ g.b)))) := by
        unfold Rl.lies
        rw [holdsG_17 hgr, holdsG_17 hgr]
      rw [hlies] at hb
      by_cases e1 : f.fr.epoch = epoch
      · by_cases e2 : f.fr.zone = f.zone
        · by_cases e3 : f.fr.off = f.off
          · refine .inr (.inr (.inr (.inr (.inr (.inr (.inr ⟨decide_eq_true h0, h1, decide_eq_false h2, decide_eq_false h3, by simp [e1], by simp [e2], by simp [e3], ?_⟩))))))
            cases j1 : hold17 g f.zone f.off
            · exact .inl ⟨rfl, by rw [hb, j1]; simp⟩
            · cases j2 : hold17 g r.1.mate f.off
              · exact .inr (.inl ⟨rfl, rfl, by rw [hb, j2]; simp⟩)
              · have d1 := (hold17_dom j1).2.2
                have d2 := (hold17_dom j2).2.2
                rw [j1, j2, d1, d2] at hb
                by_cases j3 : f.zone / g.z = r.1.mate / g.z
                · exact .inr (.inr (.inl ⟨rfl, rfl, by simp [j3], by rw [hb]; simp [j3]⟩))
                · by_cases j4 : g.b ≤ r.1.block
                  · exact .inr (.inr (.inr (.inl ⟨rfl, rfl, by simp [j3], decide_eq_true j4, by rw [hb]; simp; omega⟩)))
                  · by_cases j5 : g.b < r.1.block + r.1.many
                    · exact .inr (.inr (.inr (.inr (.inl ⟨rfl, rfl, by simp [j3], decide_eq_false j4, decide_eq_true j5, by rw [hb]; simp; omega⟩))))
                    · exact .inr (.inr (.inr (.inr (.inr ⟨rfl, rfl, by simp [j3], decide_eq_false j4, decide_eq_false j5, by rw [hb]; simp [e1, e2, e3, j3]; omega⟩))))
          · exact .inr (.inr (.inr (.inr (.inr (.inr (.inl ⟨decide_eq_true h0, h1, decide_eq_false h2, decide_eq_false h3, by simp [e1], by simp [e2], by simp [e3], by rw [hb]; simp [e3]⟩))))))
        · exact .inr (.inr (.inr (.inr (.inr (.inl ⟨decide_eq_true h0, h1, decide_eq_false h2, decide_eq_false h3, by simp [e1], by simp [e2], by rw [hb]; simp [e2]⟩)))))
      · exact .inr (.inr (.inr (.inr (.inl ⟨decide_eq_true h0, h1, decide_eq_false h2, decide_eq_false h3, by simp [e1], by rw [hb]; simp [e1]⟩))))
end Go.Proofs.Ytoiephmngdecaaa
namespace Go.Proofs.Ytoiephmngdecaaa
open Go.RowKit Go.Rv Rl Frm
set_option linter.unusedVariables false
namespace Rl
theorem getBang {l : List Int} {i : Nat} (h : i < l.length) : l.toArray[i]! = l[i] := by
  simp [getElem!_pos, h]
theorem mem_compact (l : List Int) (z : Int) : z ∈ Lib.compact l ↔ z ∈ l := by
  unfold Lib.compact Lib.compactUpTo
  simp only [List.mem_map, List.mem_filter, List.mem_range]
  constructor
  · rintro ⟨i, ⟨hi, -⟩, rfl⟩
    rw [getBang hi]
    exact List.getElem_mem hi
  · intro hz
    obtain ⟨i, hi, he⟩ := List.getElem_of_mem hz
    have key : ∀ n, ∀ i, i ≤ n → (hi : i < l.length) → l[i] = z → ∃ a, (a < l.length ∧ Lib.keeps l.toArray a = true) ∧ l.toArray[a]! = z := by
      intro n
      induction n with
      | zero =>
        intro i h0 hi he
        refine ⟨i, ⟨hi, ?_⟩, by rw [getBang hi]; exact he⟩
        have : i = 0 := by omega
        subst this
        simp [Lib.keeps]
      | succ n ih =>
        intro i hn hi he
        by_cases h0 : i = 0
        · subst h0
          exact ⟨0, ⟨hi, by simp [Lib.keeps]⟩, by rw [getBang hi]; exact he⟩
        · by_cases hk : l.toArray[i]! = l.toArray[i - 1]!
          · exact ih (i - 1) (by omega) (by omega) (by rw [← getBang (by omega), ← hk, getBang hi]; exact he)
          · exact ⟨i, ⟨hi, Lib.keeps_pos hk⟩, by rw [getBang hi]; exact he⟩
    exact key i i (Nat.le_refl _) hi he
theorem compact_lt {l : List Int} (hs : l.Pairwise (· ≤ ·)) : (Lib.compact l).Pairwise (· < ·) := by
  unfold Lib.compact Lib.compactUpTo
  rw [List.pairwise_map]
  refine List.Pairwise.imp_of_mem (R := (· < ·)) ?_ (List.Pairwise.filter _ List.pairwise_lt_range)
  intro i j hi hj hij
  rw [List.mem_filter, List.mem_range] at hi hj
  have hk := hj.2
  unfold Lib.keeps at hk
  simp only [decide_eq_true_eq] at hk
  rw [getBang hi.1]
  rcases hk with h | h
  · omega
  · rw [getBang hj.1, getBang (by omega)] at h
    rw [getBang hj.1]
    have hget := List.pairwise_iff_getElem.1 hs
    have h1 : l[i] ≤ l[j - 1] := by
      by_cases e : i = j - 1
      · subst e; exact Int.le_refl _
      · exact hget i (j - 1) hi.1 (by omega) (by omega)
    have h2 : l[j - 1] ≤ l[j] := hget (j - 1) j (by omega) hj.1 (by omega)
    omega
theorem sortedI_pairwise (l : List Int) : (sortedI l).Pairwise (· ≤ ·) := by
  unfold sortedI
  have h := List.pairwise_mergeSort (le := fun x y : Int => decide (x ≤ y)) (fun a b c h1 h2 => by simp at *; omega) (fun a b => by simp; omega) l
  exact h.imp (fun h => by simpa using h)
theorem zonesOf_mem (R : List (Int × Rec)) (z : Int) : z ∈ zonesOf R ↔ ∃ x ∈ R, x.2.zone = z := by
  unfold zonesOf zones
  rw [mem_compact]
  unfold sortedI
  rw [List.mem_mergeSort, List.mem_map]
theorem zonesOf_lt (R : List (Int × Rec)) {i : Nat} (h : i + 1 < (zonesOf R).length) : (zonesOf R)[i] < (zonesOf R)[i + 1] :=
  List.pairwise_iff_getElem.1 (show (zonesOf R).Pairwise (· < ·) from compact_lt (sortedI_pairwise (zones R))) i (i + 1) (by omega) h (by omega)
/-- is it a record from a number on, found in a zone? -/
def isRec (g : Geo.G) (epoch next : Int) (f : Fnd) : Bool := (recE g epoch f).isSome && decide (next ≤ f.fr.seq)
theorem recF_some {g : Geo.G} {epoch next : Int} {f : Fnd} (h : isRec g epoch next f = true) : ∃ x, recF g epoch next f = some x ∧ x.2.zone = f.zone := by
  unfold isRec at h
  rw [Bool.and_eq_true, decide_eq_true_eq] at h
  unfold recF
  cases hr : recE g epoch f with
  | none => rw [hr] at h; cases h.1
  | some e =>
    simp only
    rw [if_neg (by omega)]
    exact ⟨_, rfl, rfl⟩
theorem recF_of {g : Geo.G} {epoch next : Int} {f : Fnd} {x : Int × Rec} (h : recF g epoch next f = some x) : isRec g epoch next f = true ∧ x.2.zone = f.zone := by
  unfold recF at h
  unfold isRec
  cases hr : recE g epoch f with
  | none => rw [hr] at h; cases h
  | some e =>
    rw [hr] at h
    simp only at h
    split at h
    · cases h
    · simp only [Option.some.injEq] at h
      subst h
      exact ⟨by simp; omega, rfl⟩
theorem zones_recs (g : Geo.G) (epoch next : Int) (l : List Fnd) (z : Int) : z ∈ zonesOf (recs g epoch next l) ↔ ∃ f ∈ l, isRec g epoch next f = true ∧ f.zone = z := by
  rw [zonesOf_mem]
  unfold recs
  constructor
  · rintro ⟨x, hx, rfl⟩
    rw [List.mem_filterMap] at hx
    obtain ⟨f, hf, hx⟩ := hx
    obtain ⟨h1, h2⟩ := recF_of hx
    exact ⟨f, hf, h1, h2.symm⟩
  · rintro ⟨f, hf, h1, rfl⟩
    obtain ⟨x, hx, h2⟩ := recF_some h1
    exact ⟨x, List.mem_filterMap.2 ⟨f, hf, hx⟩, h2⟩
end Rl
end Go.Proofs.Ytoiephmngdecaaa
namespace Go.Proofs.Ytoiephmngdecaaa
open Go.RowKit Go.Rv Rl Frm
set_option linter.unusedVariables false
attribute [local go_sem] Oper.semAt_some
theorem Try.infoF163 : (Try.prog.info? 61).map (fun i => (i.zero, i.size, i.bytes)) = some (some (.agg (fndC fnd0)), 51, 104) := by kernel_rfl
theorem built_f16 (z o : Int) (f : Fr) (h : f.body.length = 44) : Try.prog.built 61 [(0, .int .i64 z), (1, .int .i64 o), (2, .agg (FC f))] = some (fndC ⟨z, o, f⟩) := by
  obtain ⟨k, z1, o1, e, s, l⟩ := f
  obtain ⟨fn, rfl⟩ := list_fn l 44 h
  kernel_rfl
/-- a slice of one that was found, as the document has it -/
theorem wpList_slice1d {w : World} {ops : Array Oper} {rest : List Oper} {o : Oper} {a : Act} {Q : Exit → Act → World → Prop} (hg : o.guard = none) (x : Operand) (ho : o.op = .buildSlice 48 1 #[(0, x)]) (r : Fnd) (hq : r.fr.body.length = 44) (X : Array Value) (hX : fndC r = X) (hx : a.eval x = .agg X)
    (h : wpList Try.prog ops Q rest (a.put o.dst (.slice (some ⟨w.heap.size, 0, none⟩) 1 1)) (w.alloc (.cells X 61))) : wpList Try.prog ops Q (o :: rest) a w := by
  subst hX
  have hi := Try.infoF16
  cases hie : Try.prog.info? 61 with
  | none => rw [hie] at hi; cases hi
  | some ie =>
    rw [hie, Option.map_some, Option.some.injEq, Prod.mk.injEq] at hi
    obtain ⟨hz, hs⟩ := hi
    refine wpList_buildSlice hg 48 61 1 #[(0, x)] ho (fndC r) ie (.agg (fndC fnd0)) Try.underlying48 hie hz (by rw [hs]; decide) (by rw [hs]; decide) ?_ h
    rw [hs]
    have h1 := filled_fnd r hq _ rfl
    simp only [List.map_toArray, List.map_cons, List.map_nil, hx]
    exact h1
set_option maxRecDepth 100000 in
set_option maxHeartbeats 16000000 in
theorem found_any (w : World) (a2 : Option Addr) (l2 : List Fnd) (c2 : Nat) (hI : RowOf w 51 fndC FndQ a2 l2) (hl : l2.length ≤ 1000) :
    Calls Try.prog 15 #[.slice a2 l2.length c2] w fun e w' => ∃ u, e = .returned u ∧ OwnM w' 61 51 fndC FndQ w.heap.size u l2 ∧ Below w.heap.size w w' := by
  have HI := Lib.hid hI
  have hzf := (zero_of_info Try.infoFnd).1
  obtain ⟨n2, hn2⟩ : ∃ n, l2.length = n := ⟨_, rfl⟩
  have HN2 := Lib.hid hn2
  rw [hn2] at hl ⊢
  clear hI hn2
  go_enter Try.func15, Try.ntmps15
  go_upto_region 3 with (fail)
  go_loopw [3, 8] (fun x u wr => ∃ (k : Nat) (v : Value), k ≤ n2 ∧ u = .int .i64 k ∧ v = x ∧ OwnM wr 61 51 fndC FndQ w.heap.size v (l2.take k) ∧ Below w.heap.size w wr) (fun _ u _ => n2 - (intOf u).toNat)
  case atStart => exact ⟨0, _, Nat.zero_le _, rfl, rfl, OwnM.nil _ _ _ _ _ _, Below.refl _ _⟩
  case round =>
    obtain ⟨k, v, hk, rfl, rfl, hown, hBr⟩ := hrel
    have zr := hBr.size
    have HOW := Lib.hid hown
    have HBR := Lib.hid hBr
    clear hown hBr
    by_cases hlt : k < n2
    · obtain ⟨f, hf⟩ : ∃ f, l2[k]? = some f := ⟨_, List.getElem?_eq_getElem (by rw [HN2.out]; exact hlt)⟩
      have hq := HI.out.all f (List.mem_of_getElem? hf)
      obtain ⟨ab, ao, rfl, -, -, -⟩ := HI.out.at hf
      have HGF := Lib.hid (Rl2.rowOf_range (HI.out.below HBR.out) kinFnd.size hf)
      have HTK : Hid (l2.take (k + 1) = l2.take k ++ [f]) := Lib.hid (by rw [List.take_add_one, hf]; rfl)
      have HIF1 := Lib.hid (size_fnd hq)
      have HIL1 : Hid ((Try.prog.info? 70).map (·.size) = some (fndC f).toList.length) := Lib.hid (size_fnd hq)
      have HZF1 : Hid ((fndC fnd0).size = (fndC f).size) := Lib.hid (by rw [kinFnd.size f hq]; rfl)
      have HOF1 := Lib.hid (kinFnd.one f hq)
      have HLF : Hid ((l2.take k).length ≤ 1000) := Lib.hid (by rw [List.length_take]; omega)
      have HQ := Lib.hid hq
      have HB16 := Lib.hid (built_f16 f.zone f.off f.fr hq.2.2.1.1)
      have HIX : Hid ((Try.prog.info? 68).map (·.size) = some (FC f.fr).toList.length) := Lib.hid (by rw [Array.length_toList]; exact size_frm hq.2.2.1.1)
      obtain ⟨W5, hW5⟩ : ∃ W, wr.alloc (.cells (fndC f) 70) = W := ⟨_, rfl⟩
      have hb5 : Below wr.heap.size wr W5 := by rw [← hW5]; exact (Below.refl _ _).alloc (Nat.le_refl _) _
      have hf5 : W5.heap[wr.heap.size]? = some (.cells (fndC f) 70 (0, 0)) := by rw [← hW5]; exact heap_alloc_new wr _
      have c0 := (fnd_cells hf5).1
      have c1 := (fnd_cells hf5).2.1
      have HRG := Lib.hid (fnd_range hf5)
      have HO5 := Lib.hid (HOW.out.below hb5)
      have HB5 := Lib.hid (HBR.out.trans (hb5.mono zr))
      have z5 := hb5.size
      obtain ⟨W6, hW6⟩ : ∃ W, W5.alloc (.cells (fndC f) 61) = W := ⟨_, rfl⟩
      have hb6 : Below W5.heap.size W5 W6 := by rw [← hW6]; exact (Below.refl _ _).alloc (Nat.le_refl _) _
      have hf6 : W6.heap[W5.heap.size]? = some (.cells (fndC f) 61 (0, 0)) := by rw [← hW6]; exact heap_alloc_new W5 _
      have HR6 : Hid (RowOf W6 51 fndC FndQ (some ⟨W5.heap.size, 0, none⟩) [f]) := Lib.hid (one_rowOf (t := 61) (fr := (0, 0)) hf6 hq)
      have HO6 := Lib.hid (HO5.out.below hb6)
      have hs6 : w.heap.size ≤ W6.heap.size := by have h1 := hb6.size; omega
      have HB6 := Lib.hid (HB5.out.trans (hb6.mono (by omega)))
      have hfe : f = ⟨f.zone, f.off, f.fr⟩ := rfl
      obtain ⟨CF, hCF⟩ : ∃ C, fndC f = C := ⟨_, rfl⟩
      have hb16 := HB16.out
      rw [← hfe, hCF] at hb16
      have HB17 := Lib.hid hb16
      rw [hCF] at hW5 hW6 HGF HIF1 HIL1 HZF1 HOF1
      have HW5 := Lib.hid hW5
      have HW6 := Lib.hid hW6
      have HCF := Lib.hid hCF
      obtain ⟨zn, hzn⟩ : ∃ z, f.zone = z := ⟨_, rfl⟩
      obtain ⟨of, hof⟩ : ∃ z, f.off = z := ⟨_, rfl⟩
      obtain ⟨FX, hFX⟩ : ∃ X, (FC f.fr).toList = X := ⟨_, rfl⟩
      have hfa : (.agg (FC f.fr) : Value) = .agg FX.toArray := by rw [← hFX]
      rw [hzn] at c0
      rw [hof] at c1
      rw [hzn, hof, hfa] at HB17
      rw [hFX] at HRG HIX
      obtain ⟨FZ, hFZ⟩ : ∃ Z, fndC fnd0 = Z := ⟨_, rfl⟩
      rw [hFZ] at hzf HZF1
      clear hf hq hb5 hf5 hW5 hb6 hf6 hW6 hfe hCF hb16 hzn hof hFX hfa HB16 hFZ
      go_upto_region 5 with (first | (refine wpList_load_mid rfl 70 _ rfl ab (ao + k * 51) rfl CF.toList _ HGF.out Try.underlying70 rfl HIL1.out ?_) | (refine wpList_store_row rfl 70 _ _ rfl wr.heap.size CF rfl rfl 70 FZ (heap_alloc_new wr _) HIF1.out HZF1.out HOF1.out ?_; rw [World.setRow_alloc_new]))
      rw [HW5.out]
      try rw [put_none]
      go_wp2_with (first | (refine wpList_load_mid rfl 68 _ rfl wr.heap.size 2 rfl FX _ HRG.out Try.underlying68 rfl HIX.out ?_) | (refine wpList_build_on (by rfl) 61 _ rfl #[(0, .int .i64 zn), (1, .int .i64 of), (2, .agg FX.toArray)] (by simp [Act.eval, Act.put]) _ HB17.out ?_) | (refine wpList_slice1d rfl (.tmp 19) rfl f HQ.out.2.2.1.1 CF HCF.out rfl ?_; rw [HW6.out]) | (at_builtin; refine wpList_appendM rfl (.tmp 12) (.tmp 20) 48 rfl 61 51 fndC FndQ kinFnd (by decide) (.agg (fndC fnd0)) 104 Try.underlying48 Try.infoF163 rfl w.heap.size _ (l2.take k) rfl HO6.out (some ⟨W5.heap.size, 0, none⟩) 1 [f] (by rfl) HR6.out (by simp) (by have := HLF.out; unfold maxLen; simp; omega) (by have := HLF.out; simp; omega) hs6 ?_; intro v11 w11 hv11 hg11 _; have HV11 := Lib.hid hv11; have HB11 := Lib.hid (HB6.out.trans (HO6.out.grown hg11 hs6)); clear hv11 hg11))
      clear c0 c1
      have hv := HV11.out
      rw [← HTK.out] at hv
      first | exact ⟨⟨k + 1, _, by omega, by go_num, rfl, hv, HB11.out⟩, by simp [intOf]; omega⟩ | (refine ⟨⟨_, _, _, ⟨k + 1, by omega, ?_, hv, HB11.out⟩, rfl, rfl, rfl⟩, by simp [intOf]; omega⟩; go_num)
    · obtain rfl : k = n2 := by omega
      have hown := HOW.out
      rw [List.take_of_length_le (by rw [HN2.out]; exact Nat.le_refl _)] at hown
      have HOF := Lib.hid hown
      clear hown
      go_wp2
      go_ret
      exact ⟨_, rfl, HOF.out, HBR.out⟩
end Go.Proofs.Ytoiephmngdecaaa
