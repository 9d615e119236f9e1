/- Proved here: what the text of the law CodecReads does: it answers true. -/
import Derived.Test.YtihngpibccodfaaCodAnchor
import Derived.Test.YtihngpibccodfaaRd
import Derived.Test.YtihngpibccodfaaRRead
import Derived.Test.YtihngpibccodfaaKitI
namespace Go.Proofs.Ytihngpibccodfaa
open Go.RowKit Go.Rv
set_option linter.unusedVariables false
set_option maxRecDepth 100000 in
set_option maxHeartbeats 8000000 in
theorem reads_walk (a : Option Addr) (l : List Nat) (cap : Nat) (aw : Option Addr) (ws : List Int) (capw : Nat) (w : World) (ha : Bytes w a l) (hcap : a = none → cap = 0) (hlc : l.length ≤ cap) (hw : Ints w aw ws) (h200 : l.length ≤ 200) (h100 : ws.length ≤ 100) :
    Calls Try.prog 6 #[.slice a l.length cap, .slice aw ws.length capw] w fun e w' => e = .returned (.bool true) ∧ Below w.heap.size w w' := by
  obtain ⟨N, hN⟩ : ∃ N, N = l.length := ⟨_, rfl⟩
  have HNW := Lib.hid (fun W hb => rd_new a l cap W hb hcap (by omega))
  rw [← hN] at HNW hlc h200 ⊢
  have HN := Lib.hid hN
  clear hN
  go_enter Try.func6, Try.ntmps6
  go_wp2_with (first | (go_at_call 8; refine (anchor_any _).mono ?_; rintro e w1 ⟨rfl, hB1⟩; have z1 := hB1.size) | (go_at_call 11; refine (HNW.out _ (ha.below hB1)).mono ?_; rintro e w2 ⟨g, rfl, hg, hR2, hB12⟩))
  have hB2 := hB1.trans (hB12.mono z1)
  have hgw : w.heap.size ≤ g := by omega
  obtain ⟨B, hB⟩ : ∃ B, B = w1.heap.size := ⟨_, rfl⟩
  rw [← hB] at hR2
  clear hB hg hB12 z1 hB1
  go_loopw [6, 7, 27] (fun at_ bad i wr => ∃ (k p : Nat) (b : Bool), k ≤ ws.length ∧ p ≤ N ∧ i = .int .i64 k ∧ at_ = .int .i64 p ∧ bad = .bool b ∧ RdAt wr B g (if b then [] else l.drop p) b ∧ Below w.heap.size w wr) (fun _ _ i _ => ws.length - (intOf i).toNat)
  case atStart => exact ⟨0, 0, false, by omega, by omega, rfl, rfl, rfl, by simpa using hR2, hB2⟩
  case round =>
    obtain ⟨k, p, b, hk, hp, rfl, rfl, rfl, hR, hB⟩ := hrel
    have HZ := Lib.hid (fun W (hR : RdAt W B g [] true) => rd_rest g [] true W hR)
    rw [show ((([] : List Nat).length : Nat) : Int) = 0 from rfl] at HZ
    by_cases hlt : k < ws.length
    · obtain ⟨bw, ow, wd, rfl, hbw, hcw, hwd1, hwd2, -⟩ := (hw.below hB).at hlt
      have hdl : (l.drop p).length = N - p := by have := HN.out; simp; omega
      have HDL := Lib.hid hdl
      clear hdl
      have hpar : k % 2 = 0 ∨ k % 2 = 1 := by omega
      rcases hpar with hpar | hpar
      · have p1 : ((k : Int) % 2 == 1) = false := by rw [beq_eq_false_iff_ne]; omega
        have p0 : ((k : Int) % 2 == 0) = true := by rw [beq_iff_eq]; omega
        clear hpar
        cases b
        · simp only [Bool.false_eq_true, if_false] at hR
          by_cases h1 : wd < 0
          · have HNO := Lib.hid (fun W (hR : RdAt W B g (l.drop p) false) => rd_num_no g (l.drop p) false wd W hR (.inr (.inl (by omega))))
            have d1 : decide (wd < 0) = true := decide_eq_true (by omega)
            go_wp2_with (first | (go_at_call 18; refine (HNO.out _ hR).mono ?_; rintro e w5 ⟨rfl, hR5, hO5⟩; have hB5 := hB.trans (hO5.below (by simp; omega) hB.size)) | (go_at_call 16; refine (HZ.out _ hR5).mono ?_; rintro e w6 ⟨rfl, rfl⟩))
            go_roundw
            case rel => exact ⟨k + 1, p, true, by omega, hp, by go_num, rfl, rfl, hR5, hB5⟩
            case measure => simp [intOf]; omega
          · by_cases h2 : (N : Int) - (p : Int) < wd
            · have HNO := Lib.hid (fun W (hR : RdAt W B g (l.drop p) false) => rd_num_no g (l.drop p) false wd W hR (.inr (.inr (.inr (by rw [HDL.out]; omega)))))
              have d1 : decide (wd < 0) = false := decide_eq_false (by omega)
              have d2 : decide ((N : Int) - (p : Int) < wd) = true := decide_eq_true (by omega)
              go_wp2_with (first | (go_at_call 18; refine (HNO.out _ hR).mono ?_; rintro e w5 ⟨rfl, hR5, hO5⟩; have hB5 := hB.trans (hO5.below (by simp; omega) hB.size)) | (go_at_call 16; refine (HZ.out _ hR5).mono ?_; rintro e w6 ⟨rfl, rfl⟩))
              go_roundw
              case rel => exact ⟨k + 1, p, true, by omega, hp, by go_num, rfl, rfl, hR5, hB5⟩
              case measure => simp [intOf]; omega
            · by_cases h3 : wd < 1
              · have HNO := Lib.hid (fun W (hR : RdAt W B g (l.drop p) false) => rd_num_no g (l.drop p) false wd W hR (.inr (.inl h3)))
                have d1 : decide (wd < 0) = false := decide_eq_false (by omega)
                have d2 : decide ((N : Int) - (p : Int) < wd) = false := decide_eq_false (by omega)
                have d3 : decide (wd < 1) = true := decide_eq_true (by omega)
                go_wp2_with (first | (go_at_call 18; refine (HNO.out _ hR).mono ?_; rintro e w5 ⟨rfl, hR5, hO5⟩; have hB5 := hB.trans (hO5.below (by simp; omega) hB.size)) | (go_at_call 16; refine (HZ.out _ hR5).mono ?_; rintro e w6 ⟨rfl, rfl⟩))
                go_roundw
                case rel => exact ⟨k + 1, p, true, by omega, hp, by go_num, rfl, rfl, hR5, hB5⟩
                case measure => simp [intOf]; omega
              · by_cases h4 : 7 < wd
                · have HNO := Lib.hid (fun W (hR : RdAt W B g (l.drop p) false) => rd_num_no g (l.drop p) false wd W hR (.inr (.inr (.inl h4))))
                  have d1 : decide (wd < 0) = false := decide_eq_false (by omega)
                  have d2 : decide ((N : Int) - (p : Int) < wd) = false := decide_eq_false (by omega)
                  have d3 : decide (wd < 1) = false := decide_eq_false (by omega)
                  have d4 : decide ((7 : Int) < wd) = true := decide_eq_true (by omega)
                  go_wp2_with (first | (go_at_call 18; refine (HNO.out _ hR).mono ?_; rintro e w5 ⟨rfl, hR5, hO5⟩; have hB5 := hB.trans (hO5.below (by simp; omega) hB.size)) | (go_at_call 16; refine (HZ.out _ hR5).mono ?_; rintro e w6 ⟨rfl, rfl⟩))
                  go_roundw
                  case rel => exact ⟨k + 1, p, true, by omega, hp, by go_num, rfl, rfl, hR5, hB5⟩
                  case measure => simp [intOf]; omega
                · obtain ⟨m, rfl⟩ := Int.eq_ofNat_of_zero_le (show 0 ≤ wd by omega)
                  have d1 : decide ((m : Int) < 0) = false := decide_eq_false (by omega)
                  have d2 : decide ((N : Int) - (p : Int) < (m : Int)) = false := decide_eq_false (by omega)
                  have d3 : decide ((m : Int) < 1) = false := decide_eq_false (by omega)
                  have d4 : decide ((7 : Int) < (m : Int)) = false := decide_eq_false (by omega)
                  obtain ⟨b0, o0, _, rfl, _⟩ := ha.at (show 0 < l.length by have := HN.out; omega)
                  have hsum : p + m ≤ N := by omega
                  have HY := Lib.hid (fun W (hR : RdAt W B g (l.drop p) false) => rd_num_yes g (l.drop p) m W hR (by omega) (by omega) (by rw [HDL.out]; omega))
                  have hlm : ((l.drop p).take m).length = m := by rw [List.length_take, HDL.out]; omega
                  have HRD := Lib.hid (fun W h => rread_any (some ⟨b0, o0 + p, none⟩) ((l.drop p).take m) (cap - p) W h (by rw [hlm]; omega))
                  rw [hlm] at HRD
                  have HRE := Lib.hid (fun W (hR : RdAt W B g ((l.drop p).drop m) false) => rd_rest g ((l.drop p).drop m) false W hR)
                  rw [show ((((l.drop p).drop m).length : Nat) : Int) = (N : Int) - ((p : Int) + (m : Int)) by rw [List.length_drop, HDL.out]; omega] at HRE
                  generalize hrv : Cod.rd ((l.drop p).take m) = rv at *
                  have hvv : ((rv : Int) != (rv : Int)) = false := by simp
                  have hrr : ((N : Int) - ((p : Int) + (m : Int)) != (N : Int) - ((p : Int) + (m : Int))) = false := by simp
                  have i1 : (p : Int) + (m : Int) ≤ (cap : Int) := by omega
                  have i2 : (0 : Int) ≤ (p : Int) := by omega
                  have i3 : (p : Int) ≤ (p : Int) + (m : Int) := by omega
                  have hcp : ¬ cap = p := by omega
                  have ep : p + m - p = m := by omega
                  clear hlm hrv h1 h2 h3 h4
                  go_wp2_with (first | (go_at_call 18; refine (HY.out _ hR).mono ?_; rintro e w5 ⟨rfl, hR5, hO5⟩; have hB5 := hB.trans (hO5.below (by simp; omega) hB.size)) | (go_at_call 19; refine (HRD.out _ (((ha.below hB5).drop p).take m)).mono ?_; rintro e w7 ⟨rfl, rfl⟩) | (go_at_call 16; refine (HRE.out _ hR5).mono ?_; rintro e w6 ⟨rfl, rfl⟩))
                  go_roundw
                  case rel => exact ⟨k + 1, p + m, false, by omega, hsum, by go_num, by go_num, rfl, by rw [List.drop_drop] at hR5; simpa using hR5, hB5⟩
                  case measure => simp [intOf]; omega
        · simp only [if_true] at hR
          have HNO := Lib.hid (fun W (hR : RdAt W B g [] true) => rd_num_no g [] true wd W hR (.inl rfl))
          go_wp2_with (first | (go_at_call 18; refine (HNO.out _ hR).mono ?_; rintro e w5 ⟨rfl, hR5, hO5⟩; have hB5 := hB.trans (hO5.below (by simp; omega) hB.size)) | (go_at_call 16; refine (HZ.out _ hR5).mono ?_; rintro e w6 ⟨rfl, rfl⟩))
          go_roundw
          case rel => exact ⟨k + 1, p, true, by omega, hp, by go_num, rfl, rfl, hR5, hB5⟩
          case measure => simp [intOf]; omega
      · have p1 : ((k : Int) % 2 == 1) = true := by rw [beq_iff_eq]; omega
        have p0 : ((k : Int) % 2 == 0) = false := by rw [beq_eq_false_iff_ne]; omega
        clear hpar
        by_cases h7 : 7 < wd
        · have d7 : decide ((7 : Int) < wd) = true := decide_eq_true (by omega)
          cases b
          · simp only [Bool.false_eq_true, if_false] at hR
            by_cases h2 : (N : Int) - (p : Int) < 8
            · have d2 : decide ((N : Int) - (p : Int) < 8) = true := decide_eq_true (by omega)
              have HNO := Lib.hid (fun W (hR : RdAt W B g (l.drop p) false) => rd_bytes_no g (l.drop p) false 8 W hR (.inr (.inr (by rw [HDL.out]; omega))))
              go_wp2_with (first | (go_at_call 15; refine (HNO.out _ hR).mono ?_; rintro e w5 ⟨rfl, hR5, hO5⟩; have hB5 := hB.trans (hO5.below (by simp; omega) hB.size)) | (go_at_call 16; refine (HZ.out _ hR5).mono ?_; rintro e w6 ⟨rfl, rfl⟩))
              go_roundw
              case rel => exact ⟨k + 1, p, true, by omega, hp, by go_num, rfl, rfl, hR5, hB5⟩
              case measure => simp [intOf]; omega
            · have d2 : decide ((N : Int) - (p : Int) < 8) = false := decide_eq_false (by omega)
              obtain ⟨b0, o0, _, rfl, _⟩ := ha.at (show 0 < l.length by have := HN.out; omega)
              have hsum : p + 8 ≤ N := by omega
              have HY := Lib.hid (fun W (hR : RdAt W B g (l.drop p) false) => rd_bytes_yes g (l.drop p) 8 W hR (by rw [HDL.out]; omega))
              rw [show (((8 : Nat) : Int)) = 8 from rfl] at HY
              have hlm : ((l.drop p).take 8).length = 8 := by rw [List.length_take, HDL.out]; omega
              have HS := Lib.hid (fun W ax h1 h2 => rsame_b ax (some ⟨b0, o0 + p, none⟩) ((l.drop p).take 8) ((l.drop p).take 8) 8 (cap - p) W h1 h2 (by rw [hlm]; omega) (by rw [hlm]; omega) true (by simp))
              rw [hlm] at HS
              have HRE := Lib.hid (fun W (hR : RdAt W B g ((l.drop p).drop 8) false) => rd_rest g ((l.drop p).drop 8) false W hR)
              rw [show ((((l.drop p).drop 8).length : Nat) : Int) = (N : Int) - ((p : Int) + 8) by rw [List.length_drop, HDL.out]; omega] at HRE
              have hrr : ((N : Int) - ((p : Int) + 8) != (N : Int) - ((p : Int) + 8)) = false := by simp
              have i1 : (p : Int) + 8 ≤ (cap : Int) := by omega
              have i2 : (0 : Int) ≤ (p : Int) := by omega
              have i3 : (p : Int) ≤ (p : Int) + 8 := by omega
              have hcp : ¬ cap = p := by omega
              have ep : p + 8 - p = 8 := by omega
              clear hlm
              go_wp2_with (first | (go_at_call 15; refine (HY.out _ hR).mono ?_; rintro e w5 ⟨ax, rfl, hbx, hnx, hxx, hR5, hO5⟩; have hB5 := hB.trans (hO5.below (by simp; omega) hB.size)) | (go_at_call 14; refine (HS.out _ ax hbx (((ha.below hB5).drop p).take 8)).mono ?_; rintro e w7 ⟨rfl, hB7⟩; have hR7 := hR5.below hB7; have hB7' := hB5.trans (hB7.mono hB5.size)) | (go_at_call 16; refine (HRE.out _ hR7).mono ?_; rintro e w6 ⟨rfl, rfl⟩))
              go_roundw
              case rel => exact ⟨k + 1, p + 8, false, by omega, hsum, by go_num, by go_num, rfl, by rw [List.drop_drop] at hR7; simpa using hR7, hB7'⟩
              case measure => simp [intOf]; omega
          · simp only [if_true] at hR
            have HNO := Lib.hid (fun W (hR : RdAt W B g [] true) => rd_bytes_no g [] true 8 W hR (.inl rfl))
            go_wp2_with (first | (go_at_call 15; refine (HNO.out _ hR).mono ?_; rintro e w5 ⟨rfl, hR5, hO5⟩; have hB5 := hB.trans (hO5.below (by simp; omega) hB.size)) | (go_at_call 16; refine (HZ.out _ hR5).mono ?_; rintro e w6 ⟨rfl, rfl⟩))
            go_roundw
            case rel => exact ⟨k + 1, p, true, by omega, hp, by go_num, rfl, rfl, hR5, hB5⟩
            case measure => simp [intOf]; omega
        · have d7 : decide ((7 : Int) < wd) = false := decide_eq_false (by omega)
          cases b
          · simp only [Bool.false_eq_true, if_false] at hR
            by_cases h1 : wd < 0
            · have d1 : decide (wd < 0) = true := decide_eq_true (by omega)
              have HNO := Lib.hid (fun W (hR : RdAt W B g (l.drop p) false) => rd_bytes_no g (l.drop p) false wd W hR (.inr (.inl h1)))
              go_wp2_with (first | (go_at_call 15; refine (HNO.out _ hR).mono ?_; rintro e w5 ⟨rfl, hR5, hO5⟩; have hB5 := hB.trans (hO5.below (by simp; omega) hB.size)) | (go_at_call 16; refine (HZ.out _ hR5).mono ?_; rintro e w6 ⟨rfl, rfl⟩))
              go_roundw
              case rel => exact ⟨k + 1, p, true, by omega, hp, by go_num, rfl, rfl, hR5, hB5⟩
              case measure => simp [intOf]; omega
            · by_cases h2 : (N : Int) - (p : Int) < wd
              · have d1 : decide (wd < 0) = false := decide_eq_false (by omega)
                have d2 : decide ((N : Int) - (p : Int) < wd) = true := decide_eq_true (by omega)
                have HNO := Lib.hid (fun W (hR : RdAt W B g (l.drop p) false) => rd_bytes_no g (l.drop p) false wd W hR (.inr (.inr (by rw [HDL.out]; omega))))
                go_wp2_with (first | (go_at_call 15; refine (HNO.out _ hR).mono ?_; rintro e w5 ⟨rfl, hR5, hO5⟩; have hB5 := hB.trans (hO5.below (by simp; omega) hB.size)) | (go_at_call 16; refine (HZ.out _ hR5).mono ?_; rintro e w6 ⟨rfl, rfl⟩))
                go_roundw
                case rel => exact ⟨k + 1, p, true, by omega, hp, by go_num, rfl, rfl, hR5, hB5⟩
                case measure => simp [intOf]; omega
              · by_cases h0 : wd = 0
                · have HP := Lib.hid hp
                  obtain rfl : wd = 0 := by omega
                  have d1 : decide ((0 : Int) < 0) = false := decide_eq_false (by omega)
                  have d2 : decide ((N : Int) - (p : Int) < (0 : Int)) = false := decide_eq_false (by omega)
                  have HY := Lib.hid (fun W (hR : RdAt W B g (l.drop p) false) => rd_bytes_yes g (l.drop p) 0 W hR (by omega))
                  rw [show (((0 : Nat) : Int)) = 0 from rfl] at HY
                  have HS := Lib.hid (fun W ax aa cc h1 h2 => rsame_b ax aa [] [] 0 cc W h1 h2 (by simp) (by simp) true (by simp))
                  rw [show ([] : List Nat).length = 0 from rfl] at HS
                  have HRE := Lib.hid (fun W (hR : RdAt W B g ((l.drop p).drop 0) false) => rd_rest g ((l.drop p).drop 0) false W hR)
                  rw [show ((((l.drop p).drop 0).length : Nat) : Int) = (N : Int) - (p : Int) by rw [List.length_drop, HDL.out]; omega] at HRE
                  have hrr : ((N : Int) - (p : Int) != (N : Int) - (p : Int)) = false := by simp
                  have i1 : (p : Int) ≤ (cap : Int) := by omega
                  have i2 : (0 : Int) ≤ (p : Int) := by omega
                  have i4 : p ≤ cap := by omega
                  have ep : p - p = 0 := by omega
                  clear h1 h2 h7
                  skip
                  rcases a with _ | ⟨b0, o0, spot⟩
                  · have hc0 := hcap rfl
                    subst hc0
                    obtain rfl : p = 0 := by omega
                    go_wp2_with (first | (go_at_call 15; refine (HY.out _ hR).mono ?_; rintro e w5 ⟨ax, rfl, hbx, hnx, hxx, hR5, hO5⟩; have hB5 := hB.trans (hO5.below (by simp; omega) hB.size)) | (go_at_call 14; refine (HS.out _ ax _ _ (Bytes.nil _ _) (Bytes.nil _ _)).mono ?_; rintro e w7 ⟨rfl, hB7⟩; have hR7 := hR5.below hB7; have hB7' := hB5.trans (hB7.mono hB5.size)) | (go_at_call 16; refine (HRE.out _ hR7).mono ?_; rintro e w6 ⟨rfl, rfl⟩))
                    go_roundw
                    case rel => exact ⟨k + 1, 0, false, by omega, HP.out, by go_num, by go_num, rfl, by simpa using hR7, hB7'⟩
                    case measure => simp [intOf]; omega
                  · by_cases hcp : cap = p
                    · subst hcp
                      go_wp2_with (first | (go_at_call 15; refine (HY.out _ hR).mono ?_; rintro e w5 ⟨ax, rfl, hbx, hnx, hxx, hR5, hO5⟩; have hB5 := hB.trans (hO5.below (by simp; omega) hB.size)) | (go_at_call 14; refine (HS.out _ ax _ _ (Bytes.nil _ _) (Bytes.nil _ _)).mono ?_; rintro e w7 ⟨rfl, hB7⟩; have hR7 := hR5.below hB7; have hB7' := hB5.trans (hB7.mono hB5.size)) | (go_at_call 16; refine (HRE.out _ hR7).mono ?_; rintro e w6 ⟨rfl, rfl⟩))
                      go_roundw
                      case rel => exact ⟨k + 1, cap, false, by omega, HP.out, by go_num, by go_num, rfl, by simpa using hR7, hB7'⟩
                      case measure => simp [intOf]; omega
                    · by_cases hN0 : N = 0
                      · obtain rfl : p = 0 := by have := HP.out; omega
                        clear hN0
                        go_wp2_with (first | (go_at_call 15; refine (HY.out _ hR).mono ?_; rintro e w5 ⟨ax, rfl, hbx, hnx, hxx, hR5, hO5⟩; have hB5 := hB.trans (hO5.below (by simp; omega) hB.size)) | (go_at_call 14; refine (HS.out _ ax _ _ (Bytes.nil _ _) (Bytes.nil _ _)).mono ?_; rintro e w7 ⟨rfl, hB7⟩; have hR7 := hR5.below hB7; have hB7' := hB5.trans (hB7.mono hB5.size)) | (go_at_call 16; refine (HRE.out _ hR7).mono ?_; rintro e w6 ⟨rfl, rfl⟩))
                        go_roundw
                        case rel => exact ⟨k + 1, 0, false, by omega, HP.out, by go_num, by go_num, rfl, by simpa using hR7, hB7'⟩
                        case measure => simp [intOf]; omega
                      · obtain ⟨b9, o9, _, e9, _⟩ := ha.at (show 0 < l.length by have := HN.out; omega)
                        cases e9
                        clear hN0
                        go_wp2_with (first | (go_at_call 15; refine (HY.out _ hR).mono ?_; rintro e w5 ⟨ax, rfl, hbx, hnx, hxx, hR5, hO5⟩; have hB5 := hB.trans (hO5.below (by simp; omega) hB.size)) | (go_at_call 14; refine (HS.out _ ax _ _ (Bytes.nil _ _) (Bytes.nil _ _)).mono ?_; rintro e w7 ⟨rfl, hB7⟩; have hR7 := hR5.below hB7; have hB7' := hB5.trans (hB7.mono hB5.size)) | (go_at_call 16; refine (HRE.out _ hR7).mono ?_; rintro e w6 ⟨rfl, rfl⟩))
                        go_roundw
                        case rel => exact ⟨k + 1, p, false, by omega, HP.out, by go_num, by go_num, rfl, by simpa using hR7, hB7'⟩
                        case measure => simp [intOf]; omega
                · obtain ⟨m, rfl⟩ := Int.eq_ofNat_of_zero_le (show 0 ≤ wd by omega)
                  · have d1 : decide ((m : Int) < 0) = false := decide_eq_false (by omega)
                    have d2 : decide ((N : Int) - (p : Int) < (m : Int)) = false := decide_eq_false (by omega)
                    obtain ⟨b0, o0, _, rfl, _⟩ := ha.at (show 0 < l.length by have := HN.out; omega)
                    have hsum : p + m ≤ N := by omega
                    have HY := Lib.hid (fun W (hR : RdAt W B g (l.drop p) false) => rd_bytes_yes g (l.drop p) m W hR (by rw [HDL.out]; omega))
                    have hlm : ((l.drop p).take m).length = m := by rw [List.length_take, HDL.out]; omega
                    have HS := Lib.hid (fun W ax h1 h2 => rsame_b ax (some ⟨b0, o0 + p, none⟩) ((l.drop p).take m) ((l.drop p).take m) m (cap - p) W h1 h2 (by rw [hlm]; omega) (by rw [hlm]; omega) true (by simp))
                    rw [hlm] at HS
                    have HRE := Lib.hid (fun W (hR : RdAt W B g ((l.drop p).drop m) false) => rd_rest g ((l.drop p).drop m) false W hR)
                    rw [show ((((l.drop p).drop m).length : Nat) : Int) = (N : Int) - ((p : Int) + (m : Int)) by rw [List.length_drop, HDL.out]; omega] at HRE
                    have hrr : ((N : Int) - ((p : Int) + (m : Int)) != (N : Int) - ((p : Int) + (m : Int))) = false := by simp
                    have i1 : (p : Int) + (m : Int) ≤ (cap : Int) := by omega
                    have i2 : (0 : Int) ≤ (p : Int) := by omega
                    have i3 : (p : Int) ≤ (p : Int) + (m : Int) := by omega
                    have hcp : ¬ cap = p := by omega
                    have ep : p + m - p = m := by omega
                    clear hlm
                    go_wp2_with (first | (go_at_call 15; refine (HY.out _ hR).mono ?_; rintro e w5 ⟨ax, rfl, hbx, hnx, hxx, hR5, hO5⟩; have hB5 := hB.trans (hO5.below (by simp; omega) hB.size)) | (go_at_call 14; refine (HS.out _ ax hbx (((ha.below hB5).drop p).take m)).mono ?_; rintro e w7 ⟨rfl, hB7⟩; have hR7 := hR5.below hB7; have hB7' := hB5.trans (hB7.mono hB5.size)) | (go_at_call 16; refine (HRE.out _ hR7).mono ?_; rintro e w6 ⟨rfl, rfl⟩))
                    go_roundw
                    case rel => exact ⟨k + 1, p + m, false, by omega, hsum, by go_num, by go_num, rfl, by rw [List.drop_drop] at hR7; simpa using hR7, hB7'⟩
                    case measure => simp [intOf]; omega
          · simp only [if_true] at hR
            have HNO := Lib.hid (fun W (hR : RdAt W B g [] true) => rd_bytes_no g [] true wd W hR (.inl rfl))
            go_wp2_with (first | (go_at_call 15; refine (HNO.out _ hR).mono ?_; rintro e w5 ⟨rfl, hR5, hO5⟩; have hB5 := hB.trans (hO5.below (by simp; omega) hB.size)) | (go_at_call 16; refine (HZ.out _ hR5).mono ?_; rintro e w6 ⟨rfl, rfl⟩))
            go_roundw
            case rel => exact ⟨k + 1, p, true, by omega, hp, by go_num, rfl, rfl, hR5, hB5⟩
            case measure => simp [intOf]; omega
    · obtain rfl : ws.length = k := by omega
      have HDL : Hid ((l.drop p).length = N - p) := by have := HN.out; show (l.drop p).length = N - p; simp; omega
      cases b
      · simp only [Bool.false_eq_true, if_false] at hR
        have HDO := Lib.hid (fun W (hR : RdAt W B g (l.drop p) false) => rd_done g (l.drop p) false W hR (by rw [HDL.out]; omega))
        by_cases hpN : p = N
        · have hd : doneOf (l.drop p) false = 0 := by
            have : l.drop p = [] := List.eq_nil_of_length_eq_zero (by rw [HDL.out]; omega)
            rw [this]; rfl
          rw [hd] at HDO
          have e1 : ((p : Int) == (N : Int)) = true := by rw [beq_iff_eq]; omega
          clear hpN hd
          go_wp2_with (go_at_call 20; refine (HDO.out _ hR).mono ?_; rintro e w5 ⟨rfl, rfl⟩)
          go_ret
          exact ⟨rfl, hB⟩
        · have hd : doneOf (l.drop p) false = 14 := by
            unfold doneOf
            rw [if_neg]
            rintro ⟨_, h⟩
            have := HDL.out
            rw [h] at this
            simp at this
            omega
          rw [hd] at HDO
          have e1 : ((p : Int) == (N : Int)) = false := by rw [beq_eq_false_iff_ne]; omega
          clear hpN hd
          go_wp2_with (go_at_call 20; refine (HDO.out _ hR).mono ?_; rintro e w5 ⟨rfl, rfl⟩)
          go_ret
          exact ⟨rfl, hB⟩
      · simp only [if_true] at hR
        have HDO := Lib.hid (fun W (hR : RdAt W B g [] true) => rd_done g [] true W hR (by simp))
        rw [show doneOf [] true = 14 from rfl] at HDO
        go_wp2_with (go_at_call 20; refine (HDO.out _ hR).mono ?_; rintro e w5 ⟨rfl, rfl⟩)
        go_ret
        exact ⟨rfl, hB⟩
end Go.Proofs.Ytihngpibccodfaa
