/- Proved here: the walk of the law on a queue that is taken and put back. -/
import Derived.Test.YtogijlpclceanaaQSame
import Derived.WalkLawsBesides
namespace Go.Rv
open Go.RowKit
theorem OwnV.ints {w : World} {e : TypeId} {base : Nat} {v : Value} {l : List Int} (h : OwnV w e base v (l.map (Value.int .i64))) (hr : ∀ c ∈ l, -9223372036854775808 ≤ c ∧ c ≤ 9223372036854775807) :
    ∃ a cp, v = .slice a l.length cp ∧ Ints w a l ∧ (a = none → cp = 0) := by
  obtain ⟨a, cp, hv, hn, hx⟩ := h.shape
  rw [List.length_map] at hv
  refine ⟨a, cp, hv, ⟨hr, ?_⟩, hn⟩
  by_cases h0 : 0 < l.length
  · right
    obtain ⟨g, cp', e', -, hlt, -, -, hc, -⟩ := h.open (by rw [List.length_map]; exact h0)
    rw [hv] at e'
    simp only [Value.slice.injEq] at e'
    obtain ⟨rfl, -, -⟩ := e'
    exact ⟨g, 0, rfl, hlt, fun i hi => by rw [Nat.zero_add, hc i (.int .i64 (l.getD i 0)) (by simp [hi])]⟩
  · left
    exact List.eq_nil_of_length_eq_zero (by omega)
end Go.Rv
namespace Go.Proofs.Ytogijlpclceanaa
open Go.Conc Go.RowKit Go.Rv
set_option linter.unusedVariables false
/-- the first thing behind all others -/
def rot1 : List Int → List Int
  | [] => []
  | x :: l => l ++ [x]
def rotN : Nat → List Int → List Int
  | 0, l => l
  | k + 1, l => rot1 (rotN k l)
theorem rotN_add (j k : Nat) (l : List Int) : rotN (j + k) l = rotN j (rotN k l) := by
  induction j with
  | zero => rw [Nat.zero_add]; rfl
  | succ j ih => rw [Nat.succ_add]; exact congrArg rot1 ih
theorem rotN_app (a b : List Int) : rotN a.length (a ++ b) = b ++ a := by
  induction a generalizing b with
  | nil => simp [rotN]
  | cons x a ih =>
    rw [List.length_cons, rotN_add a.length 1]
    show rotN a.length (rot1 (x :: (a ++ b))) = _
    simp only [rot1, List.append_assoc]
    rw [ih]
    simp
theorem rotN_len (l : List Int) : rotN l.length l = l := by have := rotN_app l []; simpa using this
theorem rotN_mul (r : Nat) (l : List Int) : rotN (r * l.length) l = l := by
  induction r with
  | zero => simp [rotN]
  | succ r ih => rw [Nat.succ_mul, rotN_add, rotN_len, ih]
theorem rotN_length (k : Nat) (l : List Int) : (rotN k l).length = l.length := by
  induction k with
  | zero => rfl
  | succ k ih =>
    rw [← ih]
    simp only [rotN]
    cases rotN k l <;> simp [rot1]
theorem filter_true (l : List Int) : l.filter (fun _ => true) = l := by simp
theorem dropN_true (l : List Int) (k : Nat) : dropN (fun _ => true) l k = 0 := by simp [dropN]
theorem all_any (x : Int) (W : World) : Calls Try.prog 26 #[.int .i64 x] W fun e w' => e = .returned (.bool true) ∧ W = w' := by
  go_enter Try.func26, Try.ntmps26
  go_wp2
  go_ret
  exact ⟨rfl, rfl⟩
set_option maxRecDepth 100000 in
set_option maxHeartbeats 4000000 in
theorem q_rounds_core (n : Nat) (h1 : 1 ≤ n) (h2 : n ≤ 4096) (a : Option Addr) (l : List Int) (cp r : Nat) (w : World) (hI : Ints w a l) (hl : l.length ≤ 100) (hr : r ≤ 5) :
    Calls Try.prog 6 #[.int .i64 (n : Nat), .slice a l.length cp, .int .i64 (r : Nat)] w fun e w' => e = .returned (.bool true) ∧ Below w.heap.size w w' := by
  have HA := Lib.hid (fun W => q_anchor W)
  have HN := Lib.hid (fun W => qi_new n W h1 h2)
  have HI := Lib.hid hI
  have hinfo : (Try.prog.info? 3).map (fun i => (i.zero, i.size, i.bytes)) = some (some (.int .i64 0), 1, 8) := by kernel_rfl
  have HIN := Lib.hid hinfo
  clear hI hinfo
  go_enter Try.func6, Try.ntmps6
  go_wp2_with fail
  refine (HA.out _).mono ?_
  rintro e w0 ⟨rfl, hB0⟩
  go_wp2_with fail
  refine (HN.out _).mono ?_
  rintro e w1 ⟨rfl, hQ1, hB1, z1⟩
  have hBW := hB0.trans (hB1.mono hB0.size)
  obtain ⟨c, hc⟩ : ∃ c, w0.heap.size = c := ⟨_, rfl⟩
  have zc : w.heap.size ≤ c := by have := hB0.size; omega
  rw [hc] at hQ1 z1 ⊢
  have HQ1 := Lib.hid hQ1
  have HZ1 := Lib.hid z1
  clear hQ1 hB0 hB1 hc HA HN z1
  go_wp2
  go_loopw [9, 43] (fun x i wr => ∃ (k : Nat) (o : Value), k ≤ l.length ∧ i = .int .i64 k ∧ o = x ∧ OwnV wr 3 w1.heap.size o (iV (l.take (min k n))) ∧ QiIsQ wr (c + 1) c n (iV (l.take (min k n))) ∧ Only [c] w1 wr) (fun _ i _ => l.length - (intOf i).toNat)
  case atStart => exact ⟨0, _, Nat.zero_le _, rfl, rfl, by simpa [iV] using OwnV.nil _ _ _, by simpa [iV] using HQ1.out, Only.refl _ _⟩
  case round =>
    obtain ⟨k, o, hk, rfl, rfl, hown, hq, hO⟩ := hrel
    by_cases hlt : k < l.length
    · obtain ⟨b, ob, y, rfl, hbl, hcz, -, -, hy⟩ := HI.out.at hlt
      have hbx : Below w.heap.size w wr := hBW.trans (hO.below (B := w.heap.size) (by simp; omega) (by have := HZ1.out; omega))
      have hcell := (hbx.cell (p := ⟨b, ob + k, none⟩) hbl).trans hcz
      have hlm : (l.take (min k n)).length = min k n := by rw [List.length_take]; omega
      by_cases hkn : k < n
      · have HP := Lib.hid (qi_put_room wr (c + 1) c n _ (.int .i64 y) hq (by rw [iV_length, hlm]; omega))
        have HS : Hid (iV (l.take (min (k + 1) n)) = iV (l.take (min k n)) ++ [.int .i64 y]) := Lib.hid (by rw [show min (k + 1) n = k + 1 by omega, show min k n = k by omega]; exact iV_take l k y hy)
        have HO := Lib.hid hown
        have HQK := Lib.hid hq
        have HLEN : Hid ((iV (l.take (min k n))).length = k) := Lib.hid (by rw [iV_length, hlm]; omega)
        clear hq hown hy hcz hbx hlm HI
        go_wp2_with fail
        refine HP.out.mono ?_
        rintro e w3 ⟨rfl, hq3, hO3⟩
        have hO3' := hO.trans hO3
        have z3 := hO3'.size
        have HW := Lib.hid (HQK.out.own HO.out hO3)
        have hown4 := HW.out.below ((Below.refl _ w3).alloc (Nat.le_refl _) (.cells #[.int .i64 y] 3))
        have hq4 := hq3.only ((Only.refl [] w3).alloc (.cells #[.int .i64 y] 3)) (by simp) (by simp)
        have hO4 := hO3'.alloc (.cells #[.int .i64 y] 3)
        have hb : ∀ j, o.ownBlock = some j → w1.heap.size ≤ j := fun j hj => (hown4.cells hj).1
        have HQ3 := Lib.hid hq4
        have HO3 := Lib.hid hO4
        have hz1 := HZ1.out
        have HZ2 := Lib.hid hz1
        clear hq3 hq4 hO3 hO3' hO4 HP hO HQ1 hz1
        go_wp2_with (at_builtin; refine wpList_append_one rfl (.tmp 51) (.tmp 53) 32 rfl 3 (.int .i64 0) 8 Try.underlying32 HIN.out rfl w1.heap.size _ _ rfl hown4 _ _ _ _ rfl (heap_alloc_new _ _) rfl (by rw [HLEN.out]; unfold maxLen; omega) (by rw [HLEN.out]; omega) (by simp; omega) ?_; intro v' w' hv hg)
        have HQ5 := HQ3.out.grown hg (fun e => by have := hb _ e; have := HZ2.out; omega) (fun e => by have := hb _ e; have := HZ2.out; omega)
        have HO5 := HO3.out.grown hg (fun j e => .inr (hb j e))
        go_roundw
        case rel => exact ⟨k + 1, _, by omega, by go_num, rfl, by rw [HS.out]; exact hv, by rw [HS.out]; exact HQ5, HO5⟩
        case measure => simp [intOf]; omega
      · have HP := Lib.hid (qi_put_full wr (c + 1) c n _ (.int .i64 y) hq (by rw [iV_length, hlm]; omega))
        have HO := Lib.hid hown
        have HQK := Lib.hid hq
        clear hq hown hy hcz hbx hlm HI HQ1
        go_wp2_with fail
        refine HP.out.mono ?_
        rintro e w3 ⟨rfl, rfl⟩
        go_wp2
        go_roundw
        case rel => exact ⟨k + 1, _, by omega, by go_num, rfl, by rw [show min (k + 1) n = min k n by omega]; exact HO.out, by rw [show min (k + 1) n = min k n by omega]; exact HQK.out, hO⟩
        case measure => simp [intOf]; omega
    · obtain rfl : k = l.length := by omega
      obtain ⟨m, hm⟩ : ∃ m, l.take (min l.length n) = m := ⟨_, rfl⟩
      have hml : m.length ≤ 100 := by rw [← hm, List.length_take]; omega
      have hmn : m.length ≤ n := by rw [← hm, List.length_take]; omega
      have hmr : ∀ c ∈ m, -9223372036854775808 ≤ c ∧ c ≤ 9223372036854775807 := fun x hx => HI.out.1 x (by rw [← hm] at hx; exact List.mem_of_mem_take hx)
      rw [hm] at hown hq
      have hrm : r * m.length ≤ 500 := Nat.le_trans (Nat.mul_le_mul hr hml) (by omega)
      have hri : ((r * m.length : Nat) : Int) = (r : Int) * (m.length : Int) := by simp
      have HRI := Lib.hid hri.symm
      have HO := Lib.hid hown
      have HQK := Lib.hid hq
      have HL := Lib.hid (q_len wr (c + 1) c n m hq)
      have HR0 := Lib.hid (show rotN 0 m = m from rfl)
      have HRM := Lib.hid (rotN_mul r m)
      have HRL := Lib.hid (fun k => rotN_length k m)
      have hrI : (0 : Int) ≤ (r : Int) * (m.length : Int) ∧ (r : Int) * (m.length : Int) ≤ 500 := by rw [← hri]; omega
      obtain ⟨hr1, hr2⟩ := hrI
      clear hown hq hri hm HI HQ1
      go_wp2_with fail
      refine HL.out.mono ?_
      rintro e w3 ⟨rfl, rfl⟩
      clear HL
      obtain ⟨wo, hwo⟩ : ∃ wo : World, wo = wr := ⟨_, rfl⟩
      subst hwo
      go_wp2
      rw [HRI.out]
      clear hr1 hr2
      generalize hRT : r * m.length = R at *
      go_loopw [60] (fun i wr => ∃ j : Nat, j ≤ R ∧ i = .int .i64 j ∧ OwnV wr 3 w1.heap.size o (iV m) ∧ QiIsQ wr (c + 1) c n (iV (rotN j m)) ∧ Only [c] w1 wr) (fun i _ => R - (intOf i).toNat)
      case atStart => exact ⟨0, Nat.zero_le _, rfl, HO.out, by rw [HR0.out]; exact HQK.out, hO⟩
      case round =>
        obtain ⟨j, hj, rfl, hown, hq, hO⟩ := hrel
        by_cases hlt : j < R
        · have hm0 : (rotN j m).length ≠ 0 := by
            rw [HRL.out]
            intro e
            rw [e, Nat.mul_zero] at hRT
            omega
          obtain ⟨y, t, hyt⟩ : ∃ y t, rotN j m = y :: t := by
            cases h : rotN j m with
            | nil => rw [h] at hm0; simp at hm0
            | cons y t => exact ⟨y, t, rfl⟩
          have hlt1 : t.length < n := by
            have := HRL.out j
            rw [hyt] at this
            simp at this
            omega
          have HS : Hid (iV (rotN (j + 1) m) = iV t ++ [.int .i64 y]) := Lib.hid (by show iV (rot1 (rotN j m)) = _; rw [hyt]; simp [rot1, iV])
          rw [hyt] at hq
          have HT := Lib.hid (qi_take_some wr (c + 1) c n (.int .i64 y) (iV t) hq)
          have HOW := Lib.hid hown
          have HQ2 := Lib.hid hq
          clear hq hown hyt hm0 hRT
          go_wp2_with fail
          refine HT.out.mono ?_
          rintro e w3 ⟨rfl, hq3, hO3⟩
          have HP := Lib.hid (qi_put_room w3 (c + 1) c n (iV t) (.int .i64 y) hq3 (by rw [iV_length]; exact hlt1))
          have HW3 := Lib.hid (HQ2.out.own HOW.out hO3)
          have HQ3 := Lib.hid hq3
          clear hq3 HT
          go_wp2_with fail
          refine HP.out.mono ?_
          rintro e w4 ⟨rfl, hq4, hO4⟩
          have HQ4 := Lib.hid hq4
          have HW4 := Lib.hid (HQ3.out.own HW3.out hO4)
          clear hq4 HP
          go_wp2
          go_roundw
          case rel => exact ⟨j + 1, by omega, by go_num, HW4.out, by rw [HS.out]; exact HQ4.out, (hO.trans hO3).trans hO4⟩
          case measure => simp [intOf]; omega
        · obtain rfl : j = R := by omega
          rw [HRM.out] at hq
          have HKP := Lib.hid (q_keep_all (fun _ => true) wr (c + 1) c n m hq hmn h2 (fun x W => all_any x W))
          have HD := Lib.hid (dropN_true m m.length)
          have HFT := Lib.hid (filter_true m)
          have HOW := Lib.hid hown
          have HQ2 := Lib.hid hq
          clear hq hown hRT
          go_wp2_with fail
          refine HKP.out.mono ?_
          rw [HD.out, HFT.out]
          rintro e w3 ⟨rfl, hq3, hO3⟩
          have hown3 := HQ2.out.own HOW.out hO3
          obtain ⟨a', cp', rfl, hI3, -⟩ := hown3.ints hmr
          have HSM := Lib.hid (q_same w3 (c + 1) c n m a' cp' hq3 hmn h2 hI3)
          clear hq3 hI3 hown3 HKP
          go_wp2_with fail
          refine HSM.out.mono ?_
          rintro e w4 ⟨rfl, -, hO4⟩
          have hBE : Below w.heap.size w w4 := hBW.trans (((hO.trans hO3).trans hO4).below (B := w.heap.size) (by simp; omega) (by have := HZ1.out; omega))
          go_wp2
          go_ret
          exact ⟨rfl, hBE⟩
set_option maxRecDepth 100000 in
set_option maxHeartbeats 2000000 in
theorem q_rounds_walk (room : Int) (a : Option Addr) (l : List Int) (cp : Nat) (rounds : Int) (w : World) (hI : Ints w a l) (hl63 : l.length ≤ 9223372036854775807) :
    Calls Try.prog 6 #[.int .i64 room, .slice a l.length cp, .int .i64 rounds] w fun e w' => e = .returned (.bool true) ∧ Below w.heap.size w w' := by
  by_cases h1 : 1 ≤ room ∧ room ≤ 4096
  · obtain ⟨n, rfl⟩ : ∃ n : Nat, room = n := ⟨room.toNat, by omega⟩
    by_cases h2 : l.length ≤ 100
    · by_cases h3 : 0 ≤ rounds ∧ rounds ≤ 5
      · obtain ⟨r, rfl⟩ : ∃ r : Nat, rounds = r := ⟨rounds.toNat, by omega⟩
        exact q_rounds_core n (by omega) (by omega) a l cp r w hI h2 (by omega)
      · have HA := Lib.hid (fun W => q_anchor W)
        have HN := Lib.hid (fun W => qi_new n W (by omega) (by omega))
        have t0 : decide (100 < (l.length : Int)) = false := decide_eq_false (by omega)
        by_cases h4 : rounds < 0
        · have t1 : decide (rounds < 0) = true := decide_eq_true h4
          clear h3 hI
          go_enter Try.func6, Try.ntmps6
          go_wp2_with fail
          refine (HA.out _).mono ?_
          rintro e w0 ⟨rfl, hB0⟩
          go_wp2_with fail
          refine (HN.out _).mono ?_
          rintro e w1 ⟨rfl, -, hB1, -⟩
          have hBW := hB0.trans (hB1.mono hB0.size)
          go_wp2
          go_ret
          exact ⟨rfl, hBW⟩
        · have t1 : decide (rounds < 0) = false := decide_eq_false h4
          have t2 : decide (5 < rounds) = true := decide_eq_true (by omega)
          clear h3 hI
          go_enter Try.func6, Try.ntmps6
          go_wp2_with fail
          refine (HA.out _).mono ?_
          rintro e w0 ⟨rfl, hB0⟩
          go_wp2_with fail
          refine (HN.out _).mono ?_
          rintro e w1 ⟨rfl, -, hB1, -⟩
          have hBW := hB0.trans (hB1.mono hB0.size)
          go_wp2
          go_ret
          exact ⟨rfl, hBW⟩
    · have HA := Lib.hid (fun W => q_anchor W)
      have HN := Lib.hid (fun W => qi_new n W (by omega) (by omega))
      have t0 : decide (100 < (l.length : Int)) = true := decide_eq_true (by omega)
      clear hI
      go_enter Try.func6, Try.ntmps6
      go_wp2_with fail
      refine (HA.out _).mono ?_
      rintro e w0 ⟨rfl, hB0⟩
      go_wp2_with fail
      refine (HN.out _).mono ?_
      rintro e w1 ⟨rfl, -, hB1, -⟩
      have hBW := hB0.trans (hB1.mono hB0.size)
      go_wp2
      go_ret
      exact ⟨rfl, hBW⟩
  · have HA := Lib.hid (fun W => q_anchor W)
    have HN := Lib.hid (fun W => qi_new_no room W (by omega))
    clear hI
    go_enter Try.func6, Try.ntmps6
    go_wp2_with fail
    refine (HA.out _).mono ?_
    rintro e w0 ⟨rfl, hB0⟩
    go_wp2_with fail
    refine (HN.out _).mono ?_
    rintro e w1 ⟨rfl, rfl⟩
    go_wp2
    go_ret
    exact ⟨rfl, hB0⟩
end Go.Proofs.Ytogijlpclceanaa
