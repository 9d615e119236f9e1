/- Proved here: what the text of the law CodecWrites does: it answers true. -/
import Derived.Test.YtihngpibccodfaaCodAnchor
import Derived.Test.YtihngpibccodfaaRd
import Derived.Test.YtihngpibccodfaaFits
import Derived.Test.YtihngpibccodfaaRNum
import Derived.Test.YtihngpibccodfaaItems
import Derived.Deep.RegionHeld3
import Derived.Deep.DrawnRows
namespace Go.Proofs.Ytihngpibccodfaa
open Go.RowKit Go.Rv
set_option linter.unusedVariables false
attribute [local go_sem ↓] Go.wp_at_zero Go.wp_at_succ
/-- an item's bytes -/
def encIt (x : It) : List Nat := if x.wd = 0 then x.b else if Cod.fits x.wd x.v then Cod.leN x.wd.toNat x.v.toNat else []
def badIt (x : It) : Bool := !(x.wd == 0) && !Cod.fits x.wd x.v
def penL (xs : List It) : List Nat := xs.flatMap encIt
theorem penL_take {xs : List It} {k : Nat} {x : It} (h : xs[k]? = some x) : penL (xs.take (k + 1)) = penL (xs.take k) ++ encIt x := by
  obtain ⟨hk, rfl⟩ := List.getElem?_eq_some_iff.1 h
  unfold penL
  rw [List.take_succ_eq_append_getElem hk, List.flatMap_append]
  simp only [List.flatMap_cons, List.flatMap_nil, List.append_nil]
theorem penL_drop {xs : List It} {k : Nat} {x : It} (h : xs[k]? = some x) : penL (xs.drop k) = encIt x ++ penL (xs.drop (k + 1)) := by
  obtain ⟨hk, rfl⟩ := List.getElem?_eq_some_iff.1 h
  unfold penL
  rw [List.drop_eq_getElem_cons hk]
  simp only [List.flatMap_cons]
theorem any_take {xs : List It} {k : Nat} {x : It} (h : xs[k]? = some x) : (xs.take (k + 1)).any badIt = ((xs.take k).any badIt || badIt x) := by
  obtain ⟨hk, rfl⟩ := List.getElem?_eq_some_iff.1 h
  rw [List.take_succ_eq_append_getElem hk, List.any_append]
  simp only [List.any_cons, List.any_nil, Bool.or_false]
theorem short_take {xs : List It} {k : Nat} {x : It} (h : xs[k]? = some x) (hx : x.b.length ≤ 100) (hs : ∀ y ∈ xs.take k, y.b.length ≤ 100) : ∀ y ∈ xs.take (k + 1), y.b.length ≤ 100 := by
  obtain ⟨hk, rfl⟩ := List.getElem?_eq_some_iff.1 h
  rw [List.take_succ_eq_append_getElem hk]
  intro y hy
  rcases List.mem_append.1 hy with hy | hy
  · exact hs y hy
  · simp at hy; rw [hy]; exact hx
theorem encIt_len {x : It} (hx : x.b.length ≤ 100) : (encIt x).length ≤ 100 := by
  unfold encIt
  split
  · exact hx
  · split
    · rename_i h
      obtain ⟨k, n, h1, h2, _, h7, _⟩ := (Cod.fits_iff _ _).1 h
      rw [Cod.leN_length, h1]
      simp
      omega
    · simp
theorem apart_pen {f f2 own : Option Nat} {H : Nat} (hf2 : f2 = f ∨ ∃ k, f2 = some k ∧ H ≤ k) (hf : ∀ j, f = some j → own ≠ some j) (hown : ∀ j, own = some j → j < H) : ∀ j, f2 = some j → own ≠ some j := by
  intro j hj hoj
  rcases hf2 with h | ⟨k, h, hk⟩
  · exact hf j (h ▸ hj) hoj
  · rw [h] at hj; cases hj
    have := hown _ hoj
    omega
theorem apart_row {f2 own own' : Option Nat} {H : Nat} (h : ∀ j, f2 = some j → own ≠ some j) (h2 : ∀ j, f2 = some j → j < H) (hat : own' = own ∨ own' = some H) : ∀ j, f2 = some j → own' ≠ some j := by
  intro j hj hoj
  rcases hat with e | e
  · exact h j hj (e ▸ hoj)
  · rw [e] at hoj; cases hoj
    have := h2 _ hj
    omega
/-- the want's row is appended to: the pen stays -/
theorem pen_stays {w w' : World} {g : Nat} {f : Option Nat} {l W : List Nat} {bad : Bool} {v : Value} (hP : PenAt w g f l bad) (hW : OwnB w 5 0 v W) (hg : w.grownBy w' v.ownBlock) (hf : ∀ j, f = some j → v.ownBlock ≠ some j) : PenAt w' g f l bad := by
  refine hP.only (S := v.ownBlock.toList) ((Only.refl _ _).grown hg fun k hk => .inl (by rw [hk]; simp)) ?_ ?_
  · intro h
    rw [Option.mem_toList] at h
    obtain ⟨v0, hg0, _⟩ := hP
    exact hW.ne_block hg0 (by decide) h
  · intro k hk h
    rw [Option.mem_toList] at h
    exact hf k hk h
/-- what holds between two rounds of the first loop -/
def WSt (xs : List It) (w wr : World) (g : Nat) (want : Value) (F : Bool) (k : Nat) : Prop :=
  ∃ (f : Option Nat) (W : List Nat), F = !(xs.take k).any badIt ∧ (∀ y ∈ xs.take k, y.b.length ≤ 100) ∧ PenAt wr g f (penL (xs.take k)) (!F) ∧ OwnB wr 5 0 want W ∧ (F = true → W = penL (xs.take k)) ∧ W.length ≤ 100 * k ∧ (penL (xs.take k)).length ≤ 100 * k ∧
    (∀ j, f = some j → w.heap.size ≤ j ∧ want.ownBlock ≠ some j) ∧ (∀ j, want.ownBlock = some j → w.heap.size ≤ j) ∧ w.heap.size ≤ g ∧ Below w.heap.size w wr
set_option maxRecDepth 100000 in
set_option maxHeartbeats 4000000 in
theorem writes_walk (a : Option Addr) (xs : List It) (cap : Nat) (w : World) (hI : Items w a xs) (h40 : xs.length ≤ 40) (hlc : xs.length ≤ cap) :
    Calls Try.prog 7 #[.slice a xs.length cap] w fun e w' => e = .returned (.bool true) ∧ Below w.heap.size w w' := by
  go_enter Try.func7, Try.ntmps7
  go_wp2_with (go_at_call 8; refine (anchor_any _).mono ?_; rintro e w1 ⟨rfl, hB1⟩)
  have z1 := hB1.size
  have hp1 := PenAt.new w1
  go_loopw [4, 5, 22] (fun want F i wr => ∃ (k : Nat) (b : Bool), k ≤ xs.length ∧ i = .int .i64 k ∧ F = .bool b ∧ WSt xs w wr w1.heap.size want b k) (fun _ _ i _ => xs.length - (intOf i).toNat)
  case atStart => exact ⟨0, true, by omega, rfl, rfl, none, [], by simp, by simp, by simpa [penL] using hp1, OwnB.nil _ _ _, fun _ => by simp [penL], by simp, by simp [penL], (fun j h => (by cases h)), (fun j h => (by simp [Value.ownBlock] at h)), z1, hB1.alloc z1 _⟩
  case round =>
    obtain ⟨k, F, hk, rfl, rfl, f, W, hF, hsh, hP, hW, hWL, hWl, hPl, hfw, hwb, hg, hB⟩ := hrel
    have hIr := hI.below hB
    have HF := Lib.hid hF
    have HWL := Lib.hid hWL
    clear hF hWL
    by_cases hlt : k < xs.length
    · obtain ⟨x, hx⟩ : ∃ x, xs[k]? = some x := ⟨_, List.getElem?_eq_getElem hlt⟩
      obtain ⟨hwd, hv, hxb, hxn, hxl, hxc⟩ := hIr.1 x (List.mem_of_getElem? hx)
      obtain ⟨bi, oi, rfl, hbi, hci⟩ : ∃ b o, a = some ⟨b, o, none⟩ ∧ b < wr.heap.size ∧ ∀ i x, xs[i]? = some x → wr.cell? ⟨b, o + i * 3, none⟩ = some (.int .i64 x.wd) ∧ wr.cell? ⟨b, o + i * 3 + 1, none⟩ = some (.int .i64 x.v) ∧ wr.cell? ⟨b, o + i * 3 + 2, none⟩ = some (.slice x.a x.b.length x.cap) := by
        rcases hIr.2 with h | h
        · rw [h] at hlt; simp at hlt
        · exact h
      obtain ⟨hc0, hc1, hc2⟩ := hci k x hx
      clear hci
      obtain ⟨xw, xv, xa, xc, xb⟩ := x
      simp only at hc0 hc1 hc2 hwd hv hxb hxn hxl hxc
      by_cases h100 : 100 < xb.length
      · have d1 : decide ((100 : Int) < (xb.length : Int)) = true := decide_eq_true (by omega)
        go_wp2
        go_ret
        exact ⟨rfl, hB.alloc hB.size _⟩
      · have d1 : decide ((100 : Int) < (xb.length : Int)) = false := decide_eq_false (by omega)
        have hba : Below wr.heap.size wr (wr.alloc (.cells #[.int .i64 xw, .int .i64 xv, .slice xa xb.length xc] 48)) := (Below.refl _ _).alloc (Nat.le_refl _) _
        have hPa := hP.below hba
        have hWa := hW.below hba
        have hxa := hxb.below hba
        have hBa := hB.trans (hba.mono hB.size)
        have hgl := hP.lt
        have hbox : (wr.alloc (.cells #[.int .i64 xw, .int .i64 xv, .slice xa xb.length xc] 48)).heap[wr.heap.size]? = some (.cells #[.int .i64 xw, .int .i64 xv, .slice xa xb.length xc] 48 (0, 0)) := heap_alloc_new _ _
        have henc := encIt_len (x := ⟨xw, xv, xa, xc, xb⟩) (by simp only; omega)
        have hsh' := short_take hx (by simp only; omega) hsh
        have hpt := penL_take hx
        have hat := any_take hx
        have hxm := List.mem_of_getElem? hx
        have HX := Lib.hid hx
        clear hx
        have HN : Hid (w1.heap.size ∉ ([] : List Nat)) := by intro h; cases h
        by_cases h0 : xw = 0
        · subst h0
          have he : encIt ⟨0, xv, xa, xc, xb⟩ = xb := rfl
          have hbd : badIt ⟨0, xv, xa, xc, xb⟩ = false := rfl
          rw [he] at hpt henc
          rw [hbd, Bool.or_false] at hat
          have HPT := Lib.hid hpt
          have HAT := Lib.hid hat
          clear hpt hat he hbd
          go_wp2_with fail
          refine (pen_bytes _ _ _ _ xa xb xc _ hPa hxa hxn (by omega) (by omega)).mono ?_
          rintro e w2 ⟨rfl, f2, hP2, hO2, hf2⟩
          have z2 := hO2.size
          simp only [World.size_alloc] at z2
          have hW2 := hWa.only hO2 (by
            intro j hj
            simp only [List.mem_cons, Option.mem_toList, not_or]
            refine ⟨?_, fun h => (hfw j h).2 hj⟩
            rintro rfl
            exact hWa.ne_block hPa.choose_spec.1 (by decide) hj)
          have hbox2 := (hO2.block wr.heap.size (by simp) (by
            simp only [List.mem_cons, Option.mem_toList, not_or]
            refine ⟨by omega, fun h => ?_⟩
            have := hP.row_lt h
            omega)).trans hbox
          have hB2 : Below w.heap.size w w2 := hBa.trans (hO2.below (by
            intro y hy
            simp only [List.mem_cons, Option.mem_toList] at hy
            rcases hy with rfl | hy
            · exact hg
            · exact (hfw y hy).1) hBa.size)
          have hx2 : Bytes w2 xa xb := ((hI.1 _ (hxm)).2.2.1).below hB2
          have hc2' : w2.cell? ⟨wr.heap.size, 2, none⟩ = some (.slice xa xb.length xc) := by rw [cell_of_row _ _ _ _ _ _ hbox2]; rfl
          go_wp2_with (at_builtin; refine wpList_append_bytes_at rfl (.tmp 37) (.tmp 39) 26 rfl 5 Try.underlying26 Try.infoU8 0 u4 W rfl hW2 xa xc xb rfl hx2 hxn (by omega) (by omega) ?_; intro v3 w3 hown3 hgr3 hat3)
          have hap2 := apart_pen hf2 (fun j hj => (hfw j hj).2) (fun j hj => by have := (hW.lt hj).2; simp; omega)
          have hP3 := pen_stays hP2 hW2 hgr3 hap2
          have hap3 := apart_row hap2 (fun j hj => hP2.row_lt hj) hat3
          have hB3 : Below w.heap.size w w3 := hB2.grown hgr3 hB2.size hwb
          have hfl : ∀ j, f2 = some j → w.heap.size ≤ j := by
            intro j hj
            rcases hf2 with h | ⟨k', h, hk'⟩
            · exact (hfw j (h ▸ hj)).1
            · rw [h] at hj; cases hj; have := hB.size; simp at hk'; omega
          have hvl : ∀ j, v3.ownBlock = some j → w.heap.size ≤ j := by
            intro j hj
            rcases hat3 with h | h
            · exact hwb j (h ▸ hj)
            · rw [h] at hj; cases hj; exact hB2.size
          go_roundw
          case rel =>
            refine ⟨k + 1, F, by omega, by go_num, rfl, f2, W ++ xb, by rw [HAT.out]; exact HF.out, hsh', by rw [HPT.out]; exact hP3, hown3, (fun h => by rw [HPT.out, HWL.out h]), by simp; omega, by rw [HPT.out]; simp; omega, fun j hj => ⟨hfl j hj, hap3 j hj⟩, hvl, hg, hB3⟩
          case measure => simp [intOf]; omega
        · have e0 : ((xw : Int) == 0) = false := by rw [beq_eq_false_iff_ne]; exact h0
          cases hft : Cod.fits xw xv
          · have he : encIt ⟨xw, xv, xa, xc, xb⟩ = [] := by unfold encIt; simp only; rw [if_neg h0, hft]; rfl
            have hbd : badIt ⟨xw, xv, xa, xc, xb⟩ = true := by unfold badIt; simp only; rw [e0, hft]; rfl
            rw [he, List.append_nil] at hpt
            rw [hbd, Bool.or_true] at hat
            have HPT := Lib.hid hpt
            have HAT := Lib.hid hat
            clear hpt hat he hbd
            have HFT := Lib.hid (fun W => rfits_any xw xv W hv.1 hv.2)
            rw [hft] at HFT
            clear h0
            go_wp2_with fail
            refine (pen_num_no _ _ _ _ xw xv _ hPa hv.1 hv.2 hft).mono ?_
            rintro e w2 ⟨rfl, f2, hP2, hO2, hf2⟩
            have z2 := hO2.size
            simp only [World.size_alloc] at z2
            have hW2 := hWa.only hO2 (by
              intro j hj
              simp only [List.mem_cons, Option.mem_toList, not_or]
              refine ⟨?_, fun h => (hfw j h).2 hj⟩
              rintro rfl
              exact hWa.ne_block hPa.choose_spec.1 (by decide) hj)
            have hbox2 := (hO2.block wr.heap.size (by simp) (by
              simp only [List.mem_cons, Option.mem_toList, not_or]
              refine ⟨by omega, fun h => ?_⟩
              have := hP.row_lt h
              omega)).trans hbox
            have hB2 : Below w.heap.size w w2 := hBa.trans (hO2.below (by
              intro y hy
              simp only [List.mem_cons, Option.mem_toList] at hy
              rcases hy with rfl | hy
              · exact hg
              · exact (hfw y hy).1) hBa.size)
            have hc0' : w2.cell? ⟨wr.heap.size, 0, none⟩ = some (.int .i64 xw) := by rw [cell_of_row _ _ _ _ _ _ hbox2]; rfl
            have hc1' : w2.cell? ⟨wr.heap.size, 1, none⟩ = some (.int .i64 xv) := by rw [cell_of_row _ _ _ _ _ _ hbox2]; rfl
            have hap2 := apart_pen hf2 (fun j hj => (hfw j hj).2) (fun j hj => by have := (hW.lt hj).2; simp; omega)
            have hfl : ∀ j, f2 = some j → w.heap.size ≤ j := by
              intro j hj
              rcases hf2 with h | ⟨k', h, hk'⟩
              · exact (hfw j (h ▸ hj)).1
              · rw [h] at hj; cases hj; have := hB.size; simp at hk'; omega
            have HR := Lib.hid (show WSt xs w w2 w1.heap.size u4 false (k + 1) from ⟨f2, W, by rw [HAT.out]; rfl, hsh', by rw [HPT.out]; exact hP2, hW2, (fun h => (by cases h)), by omega, by rw [HPT.out]; omega, fun j hj => ⟨hfl j hj, hap2 j hj⟩, hwb, hg, hB2⟩)
            clear hP2 hW2 hO2
            cases F
            · go_wp2
              go_roundw
              case rel => exact ⟨k + 1, false, by omega, by go_num, rfl, HR.out⟩
              case measure => simp [intOf]; omega
            · go_wp2_with (go_at_call 10; refine (HFT.out _).mono ?_; rintro e w3 ⟨rfl, rfl⟩)
              go_roundw
              case rel => exact ⟨k + 1, false, by omega, by go_num, rfl, HR.out⟩
              case measure => simp [intOf]; omega
          · obtain ⟨kk, n, rfl, rfl, hk1, hk7, hn⟩ := (Cod.fits_iff _ _).1 hft
            have he : encIt ⟨(kk : Int), (n : Int), xa, xc, xb⟩ = Cod.leN kk n := by unfold encIt; simp only; rw [if_neg h0, hft]; rfl
            have hbd : badIt ⟨(kk : Int), (n : Int), xa, xc, xb⟩ = false := by unfold badIt; simp only; rw [e0, hft]; rfl
            rw [he] at hpt henc
            rw [hbd, Bool.or_false] at hat
            have HPT := Lib.hid hpt
            have HAT := Lib.hid hat
            clear hpt hat he hbd
            have HFT := Lib.hid (fun W => rfits_any kk n W hv.1 hv.2)
            rw [hft] at HFT
            have hln := Cod.leN_length kk n
            have hHLN := Lib.hid hln
            have hn63 : n < 9223372036854775808 := by omega
            clear h0 hln hft
            go_wp2_with fail
            refine (pen_num_yes _ _ _ _ kk n _ hPa hk1 hk7 hn (by omega)).mono ?_
            rintro e w2 ⟨rfl, f2, hP2, hO2, hf2⟩
            have z2 := hO2.size
            simp only [World.size_alloc] at z2
            have hW2 := hWa.only hO2 (by
              intro j hj
              simp only [List.mem_cons, Option.mem_toList, not_or]
              refine ⟨?_, fun h => (hfw j h).2 hj⟩
              rintro rfl
              exact hWa.ne_block hPa.choose_spec.1 (by decide) hj)
            have hbox2 := (hO2.block wr.heap.size (by simp) (by
              simp only [List.mem_cons, Option.mem_toList, not_or]
              refine ⟨by omega, fun h => ?_⟩
              have := hP.row_lt h
              omega)).trans hbox
            have hB2 : Below w.heap.size w w2 := hBa.trans (hO2.below (by
              intro y hy
              simp only [List.mem_cons, Option.mem_toList] at hy
              rcases hy with rfl | hy
              · exact hg
              · exact (hfw y hy).1) hBa.size)
            have hc0' : w2.cell? ⟨wr.heap.size, 0, none⟩ = some (.int .i64 kk) := by rw [cell_of_row _ _ _ _ _ _ hbox2]; rfl
            have hc1' : w2.cell? ⟨wr.heap.size, 1, none⟩ = some (.int .i64 n) := by rw [cell_of_row _ _ _ _ _ _ hbox2]; rfl
            have hap2 := apart_pen hf2 (fun j hj => (hfw j hj).2) (fun j hj => by have := (hW.lt hj).2; simp; omega)
            have hfl : ∀ j, f2 = some j → w.heap.size ≤ j := by
              intro j hj
              rcases hf2 with h | ⟨k', h, hk'⟩
              · exact (hfw j (h ▸ hj)).1
              · rw [h] at hj; cases hj; have := hB.size; simp at hk'; omega
            cases F
            · have HR := Lib.hid (show WSt xs w w2 w1.heap.size u4 false (k + 1) from ⟨f2, W, by rw [HAT.out]; exact HF.out, hsh', by rw [HPT.out]; exact hP2, hW2, (fun h => (by cases h)), by omega, by rw [HPT.out, List.length_append]; omega, fun j hj => ⟨hfl j hj, hap2 j hj⟩, hwb, hg, hB2⟩)
              clear hP2 hW2 hO2
              go_wp2
              go_roundw
              case rel => exact ⟨k + 1, false, by omega, by go_num, rfl, HR.out⟩
              case measure => simp [intOf]; omega
            · go_wp2_with (first | (go_at_call 10; refine (HFT.out _).mono ?_; rintro e w3 ⟨rfl, rfl⟩) | (go_at_call 21; refine (rnum_any kk n (by omega) hn63 _).mono ?_; rintro e w3 ⟨v3, rfl, hown3, hB3⟩; obtain ⟨a3, c3, rfl, hb3, hn3, hx3⟩ := hown3.bytes) | (at_builtin; refine wpList_append_bytes_at rfl (.tmp 56) (.tmp 61) 26 rfl 5 Try.underlying26 Try.infoU8 0 u4 W rfl (hW2.below hB3) a3 c3 (Cod.leN kk n) rfl hb3 hn3 (by rw [hHLN.out]; omega) (by omega) ?_; intro v4 w4 hown4 hgr4 hat4))
              have hP3 := hP2.below hB3
              have hW3 := hW2.below hB3
              have hB3' := hB2.trans (hB3.mono hB2.size)
              have hP4 := pen_stays hP3 hW3 hgr4 hap2
              have hap4 := apart_row hap2 (fun j hj => hP3.row_lt hj) hat4
              have hB4 : Below w.heap.size w w4 := hB3'.grown hgr4 hB3'.size hwb
              have hvl : ∀ j, v4.ownBlock = some j → w.heap.size ≤ j := by
                intro j hj
                rcases hat4 with h | h
                · exact hwb j (h ▸ hj)
                · rw [h] at hj; cases hj; exact hB3'.size
              go_roundw
              case rel =>
                refine ⟨k + 1, true, by omega, by go_num, rfl, f2, W ++ Cod.leN kk n, by rw [HAT.out]; exact HF.out, hsh', by rw [HPT.out]; exact hP4, hown4, (fun h => by rw [HPT.out, HWL.out trivial]), by rw [List.length_append, hHLN.out]; omega, by rw [HPT.out, List.length_append]; omega, fun j hj => ⟨hfl j hj, hap4 j hj⟩, hvl, hg, hB4⟩
              case measure => simp [intOf]; omega
    · obtain rfl : k = xs.length := by omega
      rw [List.take_length] at HF HWL hP hPl hsh
      go_wp2_with fail
      refine (pen_out _ _ _ _ _ hP (by omega)).mono ?_
      rintro e w2 ⟨⟨v2, rfl, hown2, hno2⟩, hB2⟩
      have hB2' := hB.trans (hB2.mono hB.size)
      cases F
      · obtain rfl := hno2 rfl
        go_wp2
        go_ret
        exact ⟨rfl, hB2'⟩
      · simp only [Bool.not_true, Bool.false_eq_true, if_false] at hown2 ⊢
        obtain rfl : W = penL xs := HWL.out rfl
        have hgood : ∀ x ∈ xs, badIt x = false := by
          have h := HF.out
          simp only [Bool.true_eq, Bool.not_eq_true'] at h
          rw [List.any_eq_false] at h
          intro x hx
          simpa using h x hx
        obtain ⟨a2, c2, rfl, hb2, hn2, -⟩ := hown2.bytes
        obtain ⟨a3, c3, rfl, hb3, hn3, -⟩ := (hW.below hB2).bytes
        have hL4 : (penL xs).length ≤ 4000 := by omega
        have HS := Lib.hid (fun W h1 h2 => rsame_b a2 a3 (penL xs) (penL xs) c2 c3 W h1 h2 (by omega) (by omega) true (by simp))
        obtain ⟨L, hL⟩ : ∃ L, L = penL xs := ⟨_, rfl⟩
        rw [← hL] at HS hb2 hb3 hL4 ⊢
        have HL := Lib.hid hL
        have HG := Lib.hid hgood
        clear hown2 hW hWl hPl HWL HF hP hIr hsh hL hgood
        go_wp2_with fail
        refine (HS.out _ hb2 hb3).mono ?_
        rintro e w3 ⟨rfl, hB3⟩
        have hB3' := hB2'.trans (hB3.mono hB2'.size)
        go_wp2_with fail
        refine (rd_new a2 L c2 w3 (hb2.below hB3) hn2 (by omega)).mono ?_
        rintro e w4 ⟨g4, rfl, hg4, hR4, hB4⟩
        have hB4' := hB3'.trans (hB4.mono hB3'.size)
        have hgw : w.heap.size ≤ g4 := by have := hB3'.size; omega
        generalize w3.heap.size = B at hR4
        rw [HL.out] at hR4
        clear hg4
        go_wp2
        go_loopw [90] (fun i wr => ∃ (k : Nat), k ≤ xs.length ∧ i = .int .i64 k ∧ RdAt wr B g4 (penL (xs.drop k)) false ∧ Below w.heap.size w wr) (fun i _ => xs.length - (intOf i).toNat)
        case atStart => exact ⟨0, by omega, rfl, by simpa using hR4, hB4'⟩
        case round =>
          obtain ⟨k, hk, rfl, hR, hBk⟩ := hrel
          have hIr := hI.below hBk
          by_cases hlt2 : k < xs.length
          · obtain ⟨x, hx⟩ : ∃ x, xs[k]? = some x := ⟨_, List.getElem?_eq_getElem hlt2⟩
            have hxm := List.mem_of_getElem? hx
            obtain ⟨hwd, hv, hxb, hxn, hxl, hxc⟩ := hIr.1 x hxm
            obtain ⟨bi, oi, rfl, hbi, hci⟩ : ∃ b o, a = some ⟨b, o, none⟩ ∧ b < wr.heap.size ∧ ∀ i x, xs[i]? = some x → wr.cell? ⟨b, o + i * 3, none⟩ = some (.int .i64 x.wd) ∧ wr.cell? ⟨b, o + i * 3 + 1, none⟩ = some (.int .i64 x.v) ∧ wr.cell? ⟨b, o + i * 3 + 2, none⟩ = some (.slice x.a x.b.length x.cap) := by
              rcases hIr.2 with h | h
              · rw [h] at hlt2; simp at hlt2
              · exact h
            obtain ⟨hc0, hc1, hc2⟩ := hci k x hx
            have hgx := HG.out x hxm
            have hpd := penL_drop hx
            clear hci hx
            obtain ⟨xw, xv, xa, xc, xb⟩ := x
            simp only at hc0 hc1 hc2 hwd hv hxb hxn hxl hxc
            have hba : Below wr.heap.size wr (wr.alloc (.cells #[.int .i64 xw, .int .i64 xv, .slice xa xb.length xc] 48)) := (Below.refl _ _).alloc (Nat.le_refl _) _
            have hBa := hBk.trans (hba.mono hBk.size)
            have hbox : (wr.alloc (.cells #[.int .i64 xw, .int .i64 xv, .slice xa xb.length xc] 48)).heap[wr.heap.size]? = some (.cells #[.int .i64 xw, .int .i64 xv, .slice xa xb.length xc] 48 (0, 0)) := heap_alloc_new _ _
            have hgl := hR.lt
            have hRa := hR.below hba
            rw [hpd] at hRa
            by_cases h0 : xw = 0
            · subst h0
              have he : encIt ⟨0, xv, xa, xc, xb⟩ = xb := rfl
              rw [he] at hRa
              have HRB := Lib.hid (fun W (hR : RdAt W B g4 (xb ++ penL (xs.drop (k + 1))) false) => rd_bytes_yes g4 _ xb.length W hR (by simp))
              have HSX := Lib.hid (fun W ax h1 h2 => rsame_b ax xa xb xb xb.length xc W h1 h2 (by omega) (by omega) true (by simp))
              have hBw := (hI.1 _ hxm).2.2.1
              have HW := Lib.hid hBw
              clear hpd he hgx hBw
              go_wp2_with fail
              go_region_held3 (fun W => W.cell? ⟨wr.heap.size, 2, none⟩ = some (.slice xa xb.length xc)) (first | assumption | go_keep) (first | (go_at_call 15; refine (HRB.out _ (hRa.below (Below.refl _ _).drew)).mono ?_; rintro e w5 ⟨ax, rfl, hbx, hnx, hxx, hR5, hO5⟩; rw [List.take_left' rfl] at hbx; rw [List.drop_left' rfl] at hR5; have hx5 := (hO5.block wr.heap.size (by simp) (by simp; omega)).trans hbox; have hS5 : w5.cell? ⟨wr.heap.size, 2, none⟩ = some (.slice xa xb.length xc) := (cell_of_row _ _ _ _ _ _ hx5).trans rfl; have hB5 : Below w.heap.size w w5 := hBa.drew.trans (hO5.below (by simp; omega) hBa.size); have hl5 : wr.heap.size < w5.heap.size := (Array.getElem?_eq_some_iff.1 hx5).1) | (go_at_call 14; refine (HSX.out _ ax hbx (HW.out.below hB5)).mono ?_; rintro e w6 ⟨rfl, hB6⟩; have hS6 : w6.cell? ⟨wr.heap.size, 2, none⟩ = some (.slice xa xb.length xc) := (cell_of_row _ _ _ _ _ _ ((hB6.block _ hl5).trans hx5)).trans rfl; have hB6' := hB5.trans (hB6.mono hB5.size); have hR6 := hR5.below hB6))
              go_wp2
              go_roundw
              case rel => exact ⟨k + 1, by omega, by go_num, hR6, hB6'⟩
              case measure => simp [intOf]; omega
            · have e0 : ((xw : Int) == 0) = false := by rw [beq_eq_false_iff_ne]; exact h0
              have hft : Cod.fits xw xv = true := by
                unfold badIt at hgx
                simp only [e0, Bool.not_false, Bool.true_and, Bool.not_eq_false'] at hgx
                exact hgx
              obtain ⟨kk, n, rfl, rfl, hk1, hk7, hn⟩ := (Cod.fits_iff _ _).1 hft
              have he : encIt ⟨(kk : Int), (n : Int), xa, xc, xb⟩ = Cod.leN kk n := by unfold encIt; simp only; rw [if_neg h0, hft]; rfl
              rw [he] at hRa
              have hln := Cod.leN_length kk n
              have HRN := Lib.hid (fun W (hR : RdAt W B g4 (Cod.leN kk n ++ penL (xs.drop (k + 1))) false) => rd_num_yes g4 _ kk W hR hk1 hk7 (by rw [List.length_append, hln]; omega))
              rw [List.take_left' hln, List.drop_left' hln, Cod.rd_leN kk n hn] at HRN
              have hnn : ((n : Int) != (n : Int)) = false := by simp
              clear hpd he hgx h0 hft hln
              go_wp2_with fail
              go_region_held3 (fun W => W.cell? ⟨wr.heap.size, 0, none⟩ = some (.int .i64 kk) ∧ W.cell? ⟨wr.heap.size, 1, none⟩ = some (.int .i64 n)) (first | assumption | (refine ⟨?_, ?_⟩ <;> assumption) | go_keep) (first | (go_at_call 18; refine (HRN.out _ (hRa.below (Below.refl _ _).drew)).mono ?_; rintro e w5 ⟨rfl, hR5, hO5⟩; have hx5 := (hO5.block wr.heap.size (by simp) (by simp; omega)).trans hbox; have hS5 : w5.cell? ⟨wr.heap.size, 0, none⟩ = some (.int .i64 kk) := (cell_of_row _ _ _ _ _ _ hx5).trans rfl; have hS6 : w5.cell? ⟨wr.heap.size, 1, none⟩ = some (.int .i64 n) := (cell_of_row _ _ _ _ _ _ hx5).trans rfl; have hB5 : Below w.heap.size w w5 := hBa.drew.trans (hO5.below (by simp; omega) hBa.size)))
              go_wp2
              go_roundw
              case rel => exact ⟨k + 1, by omega, by go_num, hR5, hB5⟩
              case measure => simp [intOf]; omega
          · obtain rfl : k = xs.length := by omega
            rw [List.drop_length] at hR
            have HRE := Lib.hid (fun W (hR : RdAt W B g4 (penL []) false) => rd_rest g4 (penL []) false W hR)
            have HDO := Lib.hid (fun W (hR : RdAt W B g4 (penL []) false) => rd_done g4 (penL []) false W hR (by simp [penL]))
            rw [show (((penL []).length : Nat) : Int) = 0 from rfl] at HRE
            rw [show doneOf (penL []) false = 0 from rfl] at HDO
            go_wp2_with (first | (go_at_call 16; refine (HRE.out _ hR).mono ?_; rintro e w5 ⟨rfl, rfl⟩) | (go_at_call 20; refine (HDO.out _ hR).mono ?_; rintro e w6 ⟨rfl, rfl⟩))
            go_ret
            exact ⟨rfl, hBk⟩
end Go.Proofs.Ytihngpibccodfaa
