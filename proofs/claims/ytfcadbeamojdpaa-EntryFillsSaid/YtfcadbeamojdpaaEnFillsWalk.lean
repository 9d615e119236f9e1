/- Proved here: the walk of the law on blocks that are filled. -/
import Derived.Test.YtfcadbeamojdpaaEnAnchor
import Derived.LoopTactic
namespace Go.Proofs.Ytfcadbeamojdpaa
open Go.RowKit Go.Rv Frm
set_option linter.unusedVariables false
theorem index_filled (x : Nat) : ∀ k : Nat, k < 32 → ∀ W, (Instr.index 53 (.agg (byteCells (List.replicate 32 x))) (.int .i64 (k : Nat))).run Try.prog W = .ok (.int .u8 (x : Nat)) W
  | 0, _ => fun W => by kernel_rfl
  | 1, _ => fun W => by kernel_rfl
  | 2, _ => fun W => by kernel_rfl
  | 3, _ => fun W => by kernel_rfl
  | 4, _ => fun W => by kernel_rfl
  | 5, _ => fun W => by kernel_rfl
  | 6, _ => fun W => by kernel_rfl
  | 7, _ => fun W => by kernel_rfl
  | 8, _ => fun W => by kernel_rfl
  | 9, _ => fun W => by kernel_rfl
  | 10, _ => fun W => by kernel_rfl
  | 11, _ => fun W => by kernel_rfl
  | 12, _ => fun W => by kernel_rfl
  | 13, _ => fun W => by kernel_rfl
  | 14, _ => fun W => by kernel_rfl
  | 15, _ => fun W => by kernel_rfl
  | 16, _ => fun W => by kernel_rfl
  | 17, _ => fun W => by kernel_rfl
  | 18, _ => fun W => by kernel_rfl
  | 19, _ => fun W => by kernel_rfl
  | 20, _ => fun W => by kernel_rfl
  | 21, _ => fun W => by kernel_rfl
  | 22, _ => fun W => by kernel_rfl
  | 23, _ => fun W => by kernel_rfl
  | 24, _ => fun W => by kernel_rfl
  | 25, _ => fun W => by kernel_rfl
  | 26, _ => fun W => by kernel_rfl
  | 27, _ => fun W => by kernel_rfl
  | 28, _ => fun W => by kernel_rfl
  | 29, _ => fun W => by kernel_rfl
  | 30, _ => fun W => by kernel_rfl
  | 31, _ => fun W => by kernel_rfl
  | k + 32, h => by omega
def trimE (block many : Int) : En.E := ⟨2, 0, 1, block, many, 0, List.replicate 32 0⟩
theorem trim_body (block many : Int) : EBody (trimE block many) := ⟨by simp [trimE], by simp [trimE]⟩
theorem trim_right (block many : Int) : En.right (trimE block many) = true ↔ (0 ≤ block ∧ block ≤ 255 ∧ 1 ≤ many ∧ many ≤ 256 - block) := by
  simp only [En.right, En.counts, trimE, Bool.and_eq_true, En.inB_iff]
  simp only [show ((2 : Int) == 1) = false from rfl, show ((2 : Int) == 2) = true from rfl, show ((1 : Int) == 1) = true from rfl, Bool.false_eq_true, if_false, if_true, Bool.and_eq_true, En.inB_iff, decide_true, and_true, true_and]
  omega
theorem built_trim (block many : Int) : Try.prog.built 55 [(0, .int .i64 2), (2, .int .i64 1), (3, .int .i64 block), (4, .int .i64 many)] = some (EC (trimE block many)) := by kernel_rfl
theorem trim_zero (block many : Int) (k : Nat) (h : k < 32) : (En.body (trimE block many)).getD (12 + k) 0 = 0 := by
  have h1 : En.body (trimE block many) = (Cod.leN 6 (0 : Int).toNat ++ Cod.leN 1 (1 : Int).toNat ++ Cod.leN 1 block.toNat ++ Cod.leN 2 many.toNat ++ Cod.leN 2 (0 : Int).toNat) ++ List.replicate 32 0 := rfl
  have hl : (Cod.leN 6 (0 : Int).toNat ++ Cod.leN 1 (1 : Int).toNat ++ Cod.leN 1 block.toNat ++ Cod.leN 2 many.toNat ++ Cod.leN 2 (0 : Int).toNat).length = 12 := by simp [Cod.leN_length]
  rw [h1, List.getD_eq_getElem?_getD, List.getElem?_append_right (by omega), hl, show 12 + k - 12 = k by omega, List.getElem?_replicate, if_pos h]
  rfl
set_option maxRecDepth 100000 in
set_option maxHeartbeats 4000000 in
theorem en_fills_core (x : Nat) (hx : x < 256) (block many : Int) (b : List Nat) (er : Int) (w : World) (hbl : b.length = 44)
    (HBO' : ∀ W, Calls Try.prog 28 #[.agg (EC (trimE block many))] W fun x w' => x = .returned (.tuple #[.agg (byteCells b), .int .i64 er]) ∧ Below W.heap.size W w')
    (hr : (block < 0 ∧ er = 10) ∨ (0 ≤ block ∧ 255 < block ∧ er = 10) ∨ (0 ≤ block ∧ block ≤ 255 ∧ many < 1 ∧ er = 10) ∨ (0 ≤ block ∧ block ≤ 255 ∧ 1 ≤ many ∧ 256 - block < many ∧ er = 10) ∨ (0 ≤ block ∧ block ≤ 255 ∧ 1 ≤ many ∧ many ≤ 256 - block ∧ er = 0 ∧ ∀ k, k < 32 → b.getD (12 + k) 0 = 0)) :
    Calls Try.prog 11 #[.int .u8 (x : Nat), .int .i64 block, .int .i64 many] w fun e w' => e = .returned (.bool true) ∧ Below w.heap.size w w' := by
  have hzK := (zero_of_info Try.infoBlock).1
  have hzB := (zero_of_info Try.infoBody).1
  have HIB := Lib.hid (size_body hbl)
  have H1B := Lib.hid (one_byteCells b)
  have HZB := Lib.hid (show (byteCells (List.replicate 44 0)).size = (byteCells b).size by rw [size_byteCells, size_byteCells, hbl]; rfl)
  have HIK := Lib.hid (size_blk (l := List.replicate 32 x) (by simp))
  have H1K := Lib.hid (one_byteCells (List.replicate 32 x))
  have HZK := Lib.hid (show (byteCells (List.replicate 32 0)).size = (byteCells (List.replicate 32 x)).size by simp [size_byteCells])
  have HBL := Lib.hid hbl
  have HBU := Lib.hid (built_trim block many)
  have HBO := Lib.hid HBO'
  have HR := Lib.hid hr
  have HFI := Lib.hid (fun W => efill_any x W hx)
  have HIX := Lib.hid (index_filled x)
  have HAN := Lib.hid (fun W => en_anchor W)
  clear HBO' hr hbl
  have HXX : Hid ((((x : Nat) : Int) != ((x : Nat) : Int)) = false) := Lib.hid (by simp)
  have HBC := Lib.hid (fun (W : World) (g j : Nat) (h : W.heap[g]? = some (.cells (byteCells b) 22 (0, 0))) (hj : j < b.length) => (cell_of_row _ _ _ _ _ _ h).trans (byteCells_at b j hj))
  generalize byteCells (List.replicate 44 0) = ZB at *
  generalize byteCells (List.replicate 32 0) = ZK at *
  generalize byteCells (List.replicate 32 x) = K at *
  generalize byteCells b = BC at *
  generalize EC (trimE block many) = C at *
  go_enter Try.func11, Try.ntmps11
  go_wp2_with fail
  refine (HAN.out _).mono ?_
  rintro e1 w1 ⟨rfl, hB1⟩
  go_wp2_with fail
  refine (HFI.out _).mono ?_
  rintro e2 w2 ⟨rfl, hB2⟩
  have hBB2 := hB1.trans (hB2.mono hB1.size)
  have hba := (Below.refl w2.heap.size w2).alloc (Nat.le_refl _) (.cells K 53)
  have hK3 := heap_alloc_new w2 (.cells K 53)
  obtain ⟨W3, hW3⟩ : ∃ W3, w2.alloc (.cells K 53) = W3 := ⟨_, rfl⟩
  rw [hW3] at hba hK3
  have hBB3 := hBB2.trans (hba.mono hBB2.size)
  have HW3 := Lib.hid hW3
  clear hW3 hba hB1 hB2 hBB2
  go_wp2_with (first | (refine wpList_store_row rfl 53 _ _ rfl w2.heap.size K rfl rfl 53 ZK (heap_alloc_new w2 _) HIK.out HZK.out H1K.out ?_; rw [World.setRow_alloc_new, HW3.out]) | (refine wpList_load_row rfl 53 _ rfl w2.heap.size rfl 53 _ _ _ hK3 Try.underlying53 rfl HIK.out ?_))
  go_loop [19] (fun i => ∃ k : Nat, k ≤ 32 ∧ i = .int .i64 k) (fun i => 32 - (intOf i).toNat)
  case atStart => exact ⟨0, by omega, rfl⟩
  case round =>
    obtain ⟨k, hk, rfl⟩ := hrel
    by_cases hlt : k < 32
    · have hix := HIX.out k hlt
      have hxx := HXX.out
      go_wp2
      go_round
      case rel => exact ⟨k + 1, by omega, by go_num⟩
      case measure => simp [intOf]; omega
    · obtain rfl : k = 32 := by omega
      go_wp2_with (refine wpList_build_asked (by rfl) 55 _ rfl #[(0, .int .i64 2), (2, .int .i64 1), (3, .int .i64 block), (4, .int .i64 many)] (by simp [Act.eval, Act.put]) C HBU.out ?_)
      refine (HBO.out _).mono ?_
      rintro e4 w4 ⟨rfl, hB4⟩
      have hBB4 := hBB3.trans (hB4.mono hBB3.size)
      have hba := (Below.refl w4.heap.size w4).alloc (Nat.le_refl _) (.cells BC 22)
      have hX5 := heap_alloc_new w4 (.cells BC 22)
      obtain ⟨W5, hW5⟩ : ∃ W5, w4.alloc (.cells BC 22) = W5 := ⟨_, rfl⟩
      rw [hW5] at hba hX5
      have hBB5 := hBB4.trans (hba.mono hBB4.size)
      have HW5 := Lib.hid hW5
      clear hW5 hba hB4 hBB4
      go_upto_region 11 with (refine wpList_store_row rfl 22 _ _ rfl w4.heap.size BC rfl rfl 22 ZB (heap_alloc_new w4 _) HIB.out HZB.out H1B.out ?_; rw [World.setRow_alloc_new, HW5.out])
      rcases HR.out with ⟨t1, rfl⟩ | ⟨t1, t2, rfl⟩ | ⟨t1, t2, t3, rfl⟩ | ⟨t1, t2, t3, t4, rfl⟩ | ⟨t1, t2, t3, t4, rfl, hz⟩
      · clear HR
        go_wp2
        go_ret
        exact ⟨rfl, hBB5⟩
      · clear HR
        go_wp2
        go_ret
        exact ⟨rfl, hBB5⟩
      · clear HR
        go_wp2
        go_ret
        exact ⟨rfl, hBB5⟩
      · clear HR
        go_wp2
        go_ret
        exact ⟨rfl, hBB5⟩
      · have HZ := Lib.hid hz
        clear HR hz
        go_wp2
        go_loop [53] (fun i => ∃ k : Nat, k ≤ 32 ∧ i = .int .i64 k) (fun i => 32 - (intOf i).toNat)
        case atStart => exact ⟨0, by omega, rfl⟩
        case round =>
          obtain ⟨k, hk, rfl⟩ := hrel
          by_cases hlt : k < 32
          · have hc := HBC.out _ _ (12 + k) hX5 (by rw [HBL.out]; omega)
            rw [HZ.out k hlt] at hc
            go_wp2
            go_round
            case rel => exact ⟨k + 1, by omega, by go_num⟩
            case measure => simp [intOf]; omega
          · obtain rfl : k = 32 := by omega
            go_wp2
            go_ret
            exact ⟨rfl, hBB5⟩
theorem en_fills_walk (x : Nat) (hx : x < 256) (block many : Int) (w : World) :
    Calls Try.prog 11 #[.int .u8 (x : Nat), .int .i64 block, .int .i64 many] w fun e w' => e = .returned (.bool true) ∧ Below w.heap.size w w' := by
  have hb := trim_body block many
  have hi := trim_right block many
  cases hr : En.right (trimE block many)
  · refine en_fills_core x hx block many (List.replicate 44 0) 10 w (by simp) (fun W => ebody_no _ W hb hr) ?_
    rw [hr] at hi
    have hn : ¬ (0 ≤ block ∧ block ≤ 255 ∧ 1 ≤ many ∧ many ≤ 256 - block) := fun h => by have := hi.2 h; cases this
    by_cases h1 : block < 0
    · exact .inl ⟨h1, rfl⟩
    · by_cases h2 : 255 < block
      · exact .inr (.inl ⟨by omega, h2, rfl⟩)
      · by_cases h3 : many < 1
        · exact .inr (.inr (.inl ⟨by omega, by omega, h3, rfl⟩))
        · exact .inr (.inr (.inr (.inl ⟨by omega, by omega, by omega, by omega, rfl⟩)))
  · refine en_fills_core x hx block many (En.body (trimE block many)) 0 w (En.body_length hb.1) (fun W => ebody_yes _ W hb hr) ?_
    obtain ⟨h1, h2, h3, h4⟩ := hi.1 hr
    exact .inr (.inr (.inr (.inr ⟨h1, h2, h3, h4, rfl, trim_zero block many⟩)))
end Go.Proofs.Ytfcadbeamojdpaa
