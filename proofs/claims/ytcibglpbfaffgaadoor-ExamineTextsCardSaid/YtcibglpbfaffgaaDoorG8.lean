-- Printed by a program of this session's own (wip/mkprint.py), after the print that the kit describes.
import Derived.Test.YtcibglpbfaffgaaDoorX0
import Derived.Test.YtcibglpbfaffgaaDoorX28
import Derived.Test.YtcibglpbfaffgaaDoorX29
namespace Go.Proofs.YtcibglpbfaffgaaDoor.X
open Go.RowKit Go.Proofs.YtcibglpbfaffgaaDoorW.PrintWords Go.Proofs.YtcibglpbfaffgaaDoorW.PrintLast Go.Proofs.YtcibglpbfaffgaaDoorW.PrintMore
attribute [local go_sem] max2_int min2_int max_two min_two max_three min_three max_four min_four   -- for this text's walks alone
set_option linter.unusedVariables false
set_option linter.unusedSimpArgs false

/-! ### supercargoref31_Text: function 13 -/
mutual
def supercargoref31_Text.l0 : Nat → List (S25) → ByteArray → Int → Option (ByteArray)
  | 0, _, _, _ => none
  | k + 1, x0, x3, x4 => if x4 < (x0.length : Int) then (if x4 > 0 then (if x3.size + 2 ≤ 9223372036854775807 then (supercargoref31_Text.j1 k x0 (x3 ++ (⟨#[59, 32]⟩ : ByteArray)) x4) else (none)) else (supercargoref31_Text.j1 k x0 x3 x4)) else (some x3)
def supercargoref31_Text.j1 : Nat → List (S25) → ByteArray → Int → Option (ByteArray)
  | 0, _, _, _ => none
  | k + 1, x0, x3, x4 => if 0 ≤ x4 then (if x4 < (x0.length : Int) then ((supercargoref05_Digits.f k ((rd_T25 x0 x4).f0)).bind fun t102 => (if ((rd_T25 x0 x4).f0) = (-1) then (supercargoref31_Text.j2 k x0 x3 x4 (⟨#[45]⟩ : ByteArray) ((rd_T25 x0 x4).f2)) else (supercargoref31_Text.j2 k x0 x3 x4 t102 ((rd_T25 x0 x4).f2)))) else (none)) else (none)
def supercargoref31_Text.j2 : Nat → List (S25) → ByteArray → Int → ByteArray → ByteArray → Option (ByteArray)
  | 0, _, _, _, _, _ => none
  | k + 1, x0, x3, x4, x5, x6 => if x6.toList = ([] : List UInt8) then (if x3.size + x5.size ≤ 9223372036854775807 then (if (x3 ++ x5).size + 1 ≤ 9223372036854775807 then (if 0 ≤ x4 then (if x4 < (x0.length : Int) then ((supercargoref31_word.f (([(⟨#[105, 110, 118, 111, 105, 99, 101]⟩ : ByteArray), (⟨#[112, 97, 99, 107, 105, 110, 103]⟩ : ByteArray), (⟨#[108, 97, 100, 105, 110, 103]⟩ : ByteArray), (⟨#[105, 110, 115, 117, 114, 97, 110, 99, 101]⟩ : ByteArray), (⟨#[111, 114, 105, 103, 105, 110]⟩ : ByteArray), (⟨#[100, 114, 97, 102, 116]⟩ : ByteArray)] : List ByteArray)) ((rd_T25 x0 x4).f1)).bind fun t109 => (if ((x3 ++ x5) ++ (⟨#[32]⟩ : ByteArray)).size + t109.size ≤ 9223372036854775807 then (if (((x3 ++ x5) ++ (⟨#[32]⟩ : ByteArray)) ++ t109).size + 1 ≤ 9223372036854775807 then (if ((((x3 ++ x5) ++ (⟨#[32]⟩ : ByteArray)) ++ t109) ++ (⟨#[32]⟩ : ByteArray)).size + 1 ≤ 9223372036854775807 then (if (((((x3 ++ x5) ++ (⟨#[32]⟩ : ByteArray)) ++ t109) ++ (⟨#[32]⟩ : ByteArray)) ++ (⟨#[45]⟩ : ByteArray)).size + 1 ≤ 9223372036854775807 then ((supercargoref31_word.f (([(⟨#[102, 105, 110, 101]⟩ : ByteArray), (⟨#[108, 97, 99, 107, 115]⟩ : ByteArray), (⟨#[102, 97, 105, 108, 115]⟩ : ByteArray), (⟨#[117, 110, 108, 105, 107, 101]⟩ : ByteArray), (⟨#[108, 97, 116, 101]⟩ : ByteArray), (⟨#[109, 117, 99, 104]⟩ : ByteArray), (⟨#[102, 101, 119]⟩ : ByteArray)] : List ByteArray)) ((rd_T25 x0 x4).f3)).bind fun t114 => (if ((((((x3 ++ x5) ++ (⟨#[32]⟩ : ByteArray)) ++ t109) ++ (⟨#[32]⟩ : ByteArray)) ++ (⟨#[45]⟩ : ByteArray)) ++ (⟨#[32]⟩ : ByteArray)).size + t114.size ≤ 9223372036854775807 then (supercargoref31_Text.l0 k x0 (((((((x3 ++ x5) ++ (⟨#[32]⟩ : ByteArray)) ++ t109) ++ (⟨#[32]⟩ : ByteArray)) ++ (⟨#[45]⟩ : ByteArray)) ++ (⟨#[32]⟩ : ByteArray)) ++ t114) (wrap64 (x4 + 1))) else (none))) else (none)) else (none)) else (none)) else (none))) else (none)) else (none)) else (none)) else (none)) else (if x3.size + x5.size ≤ 9223372036854775807 then (if (x3 ++ x5).size + 1 ≤ 9223372036854775807 then (if 0 ≤ x4 then (if x4 < (x0.length : Int) then ((supercargoref31_word.f (([(⟨#[105, 110, 118, 111, 105, 99, 101]⟩ : ByteArray), (⟨#[112, 97, 99, 107, 105, 110, 103]⟩ : ByteArray), (⟨#[108, 97, 100, 105, 110, 103]⟩ : ByteArray), (⟨#[105, 110, 115, 117, 114, 97, 110, 99, 101]⟩ : ByteArray), (⟨#[111, 114, 105, 103, 105, 110]⟩ : ByteArray), (⟨#[100, 114, 97, 102, 116]⟩ : ByteArray)] : List ByteArray)) ((rd_T25 x0 x4).f1)).bind fun t119 => (if ((x3 ++ x5) ++ (⟨#[32]⟩ : ByteArray)).size + t119.size ≤ 9223372036854775807 then (if (((x3 ++ x5) ++ (⟨#[32]⟩ : ByteArray)) ++ t119).size + 1 ≤ 9223372036854775807 then (if ((((x3 ++ x5) ++ (⟨#[32]⟩ : ByteArray)) ++ t119) ++ (⟨#[32]⟩ : ByteArray)).size + x6.size ≤ 9223372036854775807 then (if (((((x3 ++ x5) ++ (⟨#[32]⟩ : ByteArray)) ++ t119) ++ (⟨#[32]⟩ : ByteArray)) ++ x6).size + 1 ≤ 9223372036854775807 then ((supercargoref31_word.f (([(⟨#[102, 105, 110, 101]⟩ : ByteArray), (⟨#[108, 97, 99, 107, 115]⟩ : ByteArray), (⟨#[102, 97, 105, 108, 115]⟩ : ByteArray), (⟨#[117, 110, 108, 105, 107, 101]⟩ : ByteArray), (⟨#[108, 97, 116, 101]⟩ : ByteArray), (⟨#[109, 117, 99, 104]⟩ : ByteArray), (⟨#[102, 101, 119]⟩ : ByteArray)] : List ByteArray)) ((rd_T25 x0 x4).f3)).bind fun t124 => (if ((((((x3 ++ x5) ++ (⟨#[32]⟩ : ByteArray)) ++ t119) ++ (⟨#[32]⟩ : ByteArray)) ++ x6) ++ (⟨#[32]⟩ : ByteArray)).size + t124.size ≤ 9223372036854775807 then (supercargoref31_Text.l0 k x0 (((((((x3 ++ x5) ++ (⟨#[32]⟩ : ByteArray)) ++ t119) ++ (⟨#[32]⟩ : ByteArray)) ++ x6) ++ (⟨#[32]⟩ : ByteArray)) ++ t124) (wrap64 (x4 + 1))) else (none))) else (none)) else (none)) else (none)) else (none))) else (none)) else (none)) else (none)) else (none))
end
def supercargoref31_Text.f (k : Nat) (l0 : List (S25)) : Option (ByteArray) := supercargoref31_Text.l0 k l0 (⟨#[]⟩ : ByteArray) 0
theorem supercargoref31_Text.mono_l : ∀ k, (∀ y0 y1 y2, LeO (supercargoref31_Text.l0 k y0 y1 y2) (supercargoref31_Text.l0 (k + 1) y0 y1 y2)) ∧ (∀ y0 y1 y2, LeO (supercargoref31_Text.j1 k y0 y1 y2) (supercargoref31_Text.j1 (k + 1) y0 y1 y2)) ∧ (∀ y0 y1 y2 y3 y4, LeO (supercargoref31_Text.j2 k y0 y1 y2 y3 y4) (supercargoref31_Text.j2 (k + 1) y0 y1 y2 y3 y4))
  | 0 => ⟨fun _ _ _ r h => by simp [supercargoref31_Text.l0] at h, fun _ _ _ r h => by simp [supercargoref31_Text.j1] at h, fun _ _ _ _ _ r h => by simp [supercargoref31_Text.j2] at h⟩
  | k + 1 => by
    obtain ⟨ih0, ih1, ih2⟩ := supercargoref31_Text.mono_l k
    refine ⟨?_, ?_, ?_⟩
    · intro y0 y1 y2
      unfold supercargoref31_Text.l0
      repeat' first
      | (with_reducible exact ih0 _ _ _)
      | (with_reducible exact ih1 _ _ _)
      | (with_reducible exact ih2 _ _ _ _ _)
      | (with_reducible exact supercargoref05_Digits.mono _ _)
      | (with_reducible exact LeO.refl _)
      | (with_reducible exact LeO.none _)
      | (with_reducible refine LeO.ite ?_ ?_)
      | (with_reducible refine LeO.bind ?_ (fun _ => ?_))
      | exact ih0 _ _ _
      | exact ih1 _ _ _
      | exact ih2 _ _ _ _ _
      | exact supercargoref05_Digits.mono _ _
      | exact LeO.none _
      | refine LeO.ite ?_ ?_
      | refine LeO.bind ?_ (fun _ => ?_)
    · intro y0 y1 y2
      unfold supercargoref31_Text.j1
      repeat' first
      | (with_reducible exact ih0 _ _ _)
      | (with_reducible exact ih1 _ _ _)
      | (with_reducible exact ih2 _ _ _ _ _)
      | (with_reducible exact supercargoref05_Digits.mono _ _)
      | (with_reducible exact LeO.refl _)
      | (with_reducible exact LeO.none _)
      | (with_reducible refine LeO.ite ?_ ?_)
      | (with_reducible refine LeO.bind ?_ (fun _ => ?_))
      | exact ih0 _ _ _
      | exact ih1 _ _ _
      | exact ih2 _ _ _ _ _
      | exact supercargoref05_Digits.mono _ _
      | exact LeO.none _
      | refine LeO.ite ?_ ?_
      | refine LeO.bind ?_ (fun _ => ?_)
    · intro y0 y1 y2 y3 y4
      unfold supercargoref31_Text.j2
      repeat' first
      | (with_reducible exact ih0 _ _ _)
      | (with_reducible exact ih1 _ _ _)
      | (with_reducible exact ih2 _ _ _ _ _)
      | (with_reducible exact supercargoref05_Digits.mono _ _)
      | (with_reducible exact LeO.refl _)
      | (with_reducible exact LeO.none _)
      | (with_reducible refine LeO.ite ?_ ?_)
      | (with_reducible refine LeO.bind ?_ (fun _ => ?_))
      | exact ih0 _ _ _
      | exact ih1 _ _ _
      | exact ih2 _ _ _ _ _
      | exact supercargoref05_Digits.mono _ _
      | exact LeO.none _
      | refine LeO.ite ?_ ?_
      | refine LeO.bind ?_ (fun _ => ?_)
theorem supercargoref31_Text.mono : ∀ a0 k, LeO (supercargoref31_Text.f k a0) (supercargoref31_Text.f (k + 1) a0) := by
  intro a0 k
  obtain ⟨ih0, ih1, ih2⟩ := supercargoref31_Text.mono_l k
  unfold supercargoref31_Text.f
  repeat' first
      | (with_reducible exact ih0 _ _ _)
      | (with_reducible exact ih1 _ _ _)
      | (with_reducible exact ih2 _ _ _ _ _)
      | (with_reducible exact supercargoref05_Digits.mono _ _)
      | (with_reducible exact LeO.refl _)
      | (with_reducible exact LeO.none _)
      | (with_reducible refine LeO.ite ?_ ?_)
      | (with_reducible refine LeO.bind ?_ (fun _ => ?_))
      | exact ih0 _ _ _
      | exact ih1 _ _ _
      | exact ih2 _ _ _ _ _
      | exact supercargoref05_Digits.mono _ _
      | exact LeO.none _
      | refine LeO.ite ?_ ?_
      | refine LeO.bind ?_ (fun _ => ?_)
def supercargoref31_Text.T7 : Bool × List (List Nat × List Nat) := (true, [([], []), ([], []), ([0, 1], [0, 1]), ([2], [2]), ([3], [3]), ([4], [4]), ([], []), ([], []), ([6, 7], [6, 7]), ([8], [8]), ([9], [9]), ([5, 5, 0, 1, 2, 3, 4, 5], [5]), ([10, 11, 0, 1, 2, 3, 4, 5, 6, 7, 8, 9, 10, 11], [10])])
def supercargoref31_Text.B7 : List Nat := [0, 0, 3, 7, 15, 31, 0, 0, 192, 448, 960, 63, 4095]
theorem supercargoref31_Text.tab7 : rtab .any (opsOf Tryd.f13 7) = supercargoref31_Text.T7 := by kernel_rfl
theorem supercargoref31_Text.bits7 : waitsOk supercargoref31_Text.T7.2 supercargoref31_Text.B7 = true := by kernel_rfl
def supercargoref31_Text.T12 : Bool × List (List Nat × List Nat) := (true, [([], []), ([], []), ([0, 1], [0, 1]), ([2], [2]), ([], []), ([], []), ([], []), ([5, 6], [5, 6]), ([7], [7]), ([8], [8]), ([4, 9], [4, 9]), ([3, 10], [3, 10]), ([11], [11]), ([], []), ([12, 13], [12, 13]), ([14], [14]), ([], []), ([], []), ([], []), ([17, 18], [17, 18]), ([19], [19]), ([20], [20]), ([16, 21, 10], [16, 21]), ([15, 22], [15, 22]), ([23, 22, 0, 1, 2, 3, 4, 5, 6, 7, 8, 9, 10, 11, 12, 13, 14, 15, 16, 17, 18, 19, 20, 21, 22, 23], [0, 23])])
def supercargoref31_Text.B12 : List Nat := [0, 0, 3, 7, 0, 0, 0, 96, 224, 480, 1008, 2047, 4095, 0, 16383, 32767, 0, 0, 0, 393216, 917504, 1966080, 4130800, 8388607, 16777215]
theorem supercargoref31_Text.tab12 : rtab .any (opsOf Tryd.f13 12) = supercargoref31_Text.T12 := by kernel_rfl
theorem supercargoref31_Text.bits12 : waitsOk supercargoref31_Text.T12.2 supercargoref31_Text.B12 = true := by kernel_rfl
set_option maxHeartbeats 8000000 in
set_option maxRecDepth 100000 in
theorem supercargoref31_Text.calls (k : Nat) (A0 : Option Addr) (c0 : Nat) (l0 : List (S25)) (r : ByteArray) (w : World) (hr0 : Kd.C k25 w A0 l0.length l0) (hc0 : l0.length ≤ c0) (h : supercargoref31_Text.f k l0 = some r) :
    Calls Tryd.prog 13 #[.slice A0 l0.length c0] w fun e w' => e = .returned (.string r) ∧ Below w.heap.size w w' := by
  have HR0 := Aside0.mk hr0
  have HC0 := Aside0.mk hc0
  clear hr0 hc0
  have HB := Aside0.mk (Below.refl w.heap.size w)
  have H : (supercargoref31_Text.l0 k l0 (⟨#[]⟩ : ByteArray) 0) = some r := h
  clear h
  have H' := Aside0.mk H
  clear H
  go_enter Tryd.func13, Tryd.ntmps13
  go_wp2
  go_loopg [3, 4] k (fun kq v3 v4 w' => ∃ (x3_1 : ByteArray) (x4_1 : Int), v3 = .string x3_1 ∧ v4 = .int .i64 x4_1 ∧ Aside0 (supercargoref31_Text.l0 kq l0 x3_1 x4_1 = some r) ∧ Aside0 (kq ≤ k) ∧ Aside0 (Below w.heap.size w w'))
  case atStart => exact ⟨((⟨#[]⟩ : ByteArray)), (0), (by first | rfl | (simp; done) | (simp [*]; done)), (by first | rfl | (simp; done) | (simp [*]; done)), H', ⟨Nat.le_refl _⟩, ⟨by repeat (first | (with_reducible first | exact HB.out | apply below_alloc | apply pw_below_drewN | apply below_drew1) | exact HB.out)⟩⟩
  case round =>
    clear H'
    try clear c1
    obtain ⟨x3_1, x4_1, rfl, rfl, HA, HK1, HB⟩ := hrel
    cases gk with
    | zero => exact absurd HA.out (by simp [supercargoref31_Text.l0])
    | succ k1 =>
      have H := HA.out
      clear HA
      simp only [supercargoref31_Text.l0] at H
      by_cases c2 : x4_1 < (l0.length : Int)
      · rw [if_pos c2] at H
        have c2b0 : decide (x4_1 < (l0.length : Int)) = true := decide_eq_true c2
        clear c2
        have HC3 := Aside0.mk H
        clear H
        go_upto_if 14 with (fail)
        go_cut [3] (fun v3 wc => ∃ (kq : Nat) (x3_2 : ByteArray), v3 = .string x3_2 ∧ Aside0 (supercargoref31_Text.j1 kq l0 x3_2 x4_1 = some r) ∧ Aside0 (kq ≤ k1) ∧ Aside0 (Below w.heap.size w wc))
        case first =>
          have H := HC3.out
          clear HC3
          by_cases c4 : x4_1 > 0
          · rw [if_pos c4] at H
            have c4b0 : decide (0 < x4_1) = true := decide_eq_true c4
            clear c4
            (first | rw [c4b0] | (simp only [i64_w, i32_w]; rw [c4b0]) | skip)
            by_cases c5 : x3_1.size + 2 ≤ 9223372036854775807
            · rw [if_pos c5] at H
              have c5b0 := eq_true c5
              have c5b1 : decide (x3_1.size + 2 ≤ 9223372036854775807) = true := decide_eq_true c5
              try have c5b2 : (9223372036854775807 < x3_1.size + 2) = False := eq_false (Nat.not_lt.2 c5)
              have H' := Aside0.mk H
              clear H
              go_wp2
              go_meet
              case rel => exact ⟨_, (x3_1 ++ (⟨#[59, 32]⟩ : ByteArray)), (by first | rfl | (simp; done) | (simp [*]; done)), H', ⟨by have := HK1.out; first | omega | exact Nat.le_refl _⟩, ⟨by repeat (first | (with_reducible first | exact HB.out | apply below_alloc | apply pw_below_drewN | apply below_drew1) | exact HB.out)⟩⟩
            · rw [if_neg c5] at H
              exact absurd H (by simp)
          · rw [if_neg c4] at H
            have c4b0 : decide (0 < x4_1) = false := decide_eq_false c4
            clear c4
            (first | rw [c4b0] | (simp only [i64_w, i32_w]; rw [c4b0]) | skip)
            have H' := Aside0.mk H
            clear H
            go_wp2
            go_meet
            case rel => exact ⟨_, (x3_1), (by first | rfl | (simp; done) | (simp [*]; done)), H', ⟨by have := HK1.out; first | omega | exact Nat.le_refl _⟩, ⟨by repeat (first | (with_reducible first | exact HB.out | apply below_alloc | apply pw_below_drewN | apply below_drew1) | exact HB.out)⟩⟩
        case rest =>
          clear HC3
          try clear c1
          try clear c2
          try clear c2b0
          try clear p2
          try clear c4
          try clear c4b0
          try clear c5
          try clear c5b0
          try clear c5b1
          try clear c5b2
          obtain ⟨kq, x3_2, rfl, HA, HJ2, HB⟩ := hcut
          cases kq with
          | zero => exact absurd HA.out (by simp [supercargoref31_Text.j1])
          | succ kj2 =>
            have H := HA.out
            clear HA
            simp only [supercargoref31_Text.j1] at H
            by_cases c6 : 0 ≤ x4_1
            · rw [if_pos c6] at H
              have c6b0 : decide (0 ≤ x4_1) = true := decide_eq_true c6
              clear c6
              by_cases c7 : x4_1 < (l0.length : Int)
              · rw [if_pos c7] at H
                have c7b0 : decide (x4_1 < (l0.length : Int)) = true := decide_eq_true c7
                clear c7
                replace H := Option.bind_eq_some_iff.mp H
                obtain ⟨t102, A80, H⟩ := H
                replace H : (if ((rd_T25 l0 x4_1).f0) = (-1) then (supercargoref31_Text.j2 kj2 l0 x3_2 x4_1 (⟨#[45]⟩ : ByteArray) ((rd_T25 l0 x4_1).f2)) else (supercargoref31_Text.j2 kj2 l0 x3_2 x4_1 t102 ((rd_T25 l0 x4_1).f2))) = some r := H
                have A8 := Aside0.mk A80
                clear A80
                have HC9 := Aside0.mk H
                clear H
                try go_wp2
                have n0_ := Aside0.mk (below_drew1 HB.out)
                clear HB
                have HB := n0_
                clear n0_
                have p101 : 0 ≤ (x4_1 : Int) := of_decide_eq_true (by first | (with_reducible assumption) | assumption)
                have q101 : x4_1 < (l0.length : Int) := of_decide_eq_true (by first | (with_reducible assumption) | assumption)
                obtain ⟨ad101, e101, hx101_0, hx101_1, hx101_2, hx101_3⟩ := at_T25 HR0.out x4_1 p101 q101
                have hw101_3 := hx101_3
                have hw101_2 := hx101_2
                have hw101_1 := hx101_1
                have hw101_0 := hx101_0
                cases e101
                replace hx101_0 := (HB.out.cell (World.block_lt_of_cell? w _ hx101_0)).trans hx101_0
                replace hx101_1 := (HB.out.cell (World.block_lt_of_cell? w _ hx101_1)).trans hx101_1
                replace hx101_2 := (HB.out.cell (World.block_lt_of_cell? w _ hx101_2)).trans hx101_2
                replace hx101_3 := (HB.out.cell (World.block_lt_of_cell? w _ hx101_3)).trans hx101_3
                replace p101 := eq_true p101
                replace q101 := eq_true q101
                have p103 : 0 ≤ (x4_1 : Int) := of_decide_eq_true (by first | (with_reducible assumption) | assumption)
                have q103 : x4_1 < (l0.length : Int) := of_decide_eq_true (by first | (with_reducible assumption) | assumption)
                obtain ⟨ad103, e103, hx103_0, hx103_1, hx103_2, hx103_3⟩ := at_T25 HR0.out x4_1 p103 q103
                have hw103_3 := hx103_3
                have hw103_2 := hx103_2
                have hw103_1 := hx103_1
                have hw103_0 := hx103_0
                obtain rfl : ad101 = ad103 := (by injection e103)
                replace hx103_0 := (HB.out.cell (World.block_lt_of_cell? w _ hx103_0)).trans hx103_0
                replace hx103_1 := (HB.out.cell (World.block_lt_of_cell? w _ hx103_1)).trans hx103_1
                replace hx103_2 := (HB.out.cell (World.block_lt_of_cell? w _ hx103_2)).trans hx103_2
                replace hx103_3 := (HB.out.cell (World.block_lt_of_cell? w _ hx103_3)).trans hx103_3
                replace p103 := eq_true p103
                replace q103 := eq_true q103
                refine start_ (n := 13) (S := fun w' => w'.cell? (ad101.add ((x4_1).toNat * 4)) = some (.int .i64 ((rd_T25 l0 x4_1).f0)) ∧ w'.cell? ⟨(ad101.add ((x4_1).toNat * 4)).block, (ad101.add ((x4_1).toNat * 4)).off + 1, none⟩ = some (.int .i64 ((rd_T25 l0 x4_1).f1)) ∧ w'.cell? ⟨(ad101.add ((x4_1).toNat * 4)).block, (ad101.add ((x4_1).toNat * 4)).off + 2, none⟩ = some (.string ((rd_T25 l0 x4_1).f2)) ∧ w'.cell? ⟨(ad101.add ((x4_1).toNat * 4)).block, (ad101.add ((x4_1).toNat * 4)).off + 3, none⟩ = some (.int .i64 ((rd_T25 l0 x4_1).f3)) ∧ w'.cell? (ad101.add ((x4_1).toNat * 4)) = some (.int .i64 ((rd_T25 l0 x4_1).f0)) ∧ w'.cell? ⟨(ad101.add ((x4_1).toNat * 4)).block, (ad101.add ((x4_1).toNat * 4)).off + 1, none⟩ = some (.int .i64 ((rd_T25 l0 x4_1).f1)) ∧ w'.cell? ⟨(ad101.add ((x4_1).toNat * 4)).block, (ad101.add ((x4_1).toNat * 4)).off + 2, none⟩ = some (.string ((rd_T25 l0 x4_1).f2)) ∧ w'.cell? ⟨(ad101.add ((x4_1).toNat * 4)).block, (ad101.add ((x4_1).toNat * 4)).off + 3, none⟩ = some (.int .i64 ((rd_T25 l0 x4_1).f3))) (ds := []) #[false, false, false, false, false, false, false, false, false, false, false, false, false] (by kernel_rfl) rfl rfl ⟨((HB.out.cell (World.block_lt_of_cell? w _ hw101_0)).trans hw101_0), ((HB.out.cell (World.block_lt_of_cell? w _ hw101_1)).trans hw101_1), ((HB.out.cell (World.block_lt_of_cell? w _ hw101_2)).trans hw101_2), ((HB.out.cell (World.block_lt_of_cell? w _ hw101_3)).trans hw101_3), ((HB.out.cell (World.block_lt_of_cell? w _ hw103_0)).trans hw103_0), ((HB.out.cell (World.block_lt_of_cell? w _ hw103_1)).trans hw103_1), ((HB.out.cell (World.block_lt_of_cell? w _ hw103_2)).trans hw103_2), ((HB.out.cell (World.block_lt_of_cell? w _ hw103_3)).trans hw103_3)⟩ (fun hHeld => ?_); refine with_tabW supercargoref31_Text.tab7 supercargoref31_Text.bits7 (fun HT_ HW_ => ?_)
                generalize wc.drew = w10 at HB hx101_0 hx101_1 hx101_2 hx101_3 hx103_0 hx103_1 hx103_2 hx103_3 hHeld ⊢
                refine pure_ (i := 0) (N := some 17) (v := ?_) (a' := ?_) #[true, false, false, false, false, false, false, false, false, false, false, false, false] rfl rfl (any_of HT_.out (by kernel_rfl)) (fun _ _ _ h => h) (Or.inl ⟨by rfl, ?_⟩) ?_ ?_
                rotate_left
                · intro w'
                  go_simp
                  with_reducible rfl
                rotate_left
                · simp only [Act.put, List.setIfInBounds_toArray, List.set_cons_zero, List.set_cons_succ, i64_w, i32_w]
                  rfl
                refine pure_ (i := 1) (N := some 18) (v := ?_) (a' := ?_) #[true, true, false, false, false, false, false, false, false, false, false, false, false] rfl rfl (any_of HT_.out (by kernel_rfl)) (fun _ _ _ h => h) (Or.inl ⟨by rfl, ?_⟩) ?_ ?_
                rotate_left
                · intro w'
                  go_simp
                  with_reducible rfl
                rotate_left
                · simp only [Act.put, List.setIfInBounds_toArray, List.set_cons_zero, List.set_cons_succ, i64_w, i32_w]
                  rfl
                refine pure_ (i := 2) (N := some 19) (v := ?_) (a' := ?_) #[true, true, true, false, false, false, false, false, false, false, false, false, false] rfl rfl (any_of HT_.out (by kernel_rfl)) (fun _ _ _ h => h) (Or.inl ⟨by rfl, ?_⟩) ?_ ?_
                rotate_left
                · intro w'
                  go_simp
                  with_reducible rfl
                rotate_left
                · simp only [Act.put, List.setIfInBounds_toArray, List.set_cons_zero, List.set_cons_succ, i64_w, i32_w]
                  rfl
                refine pure_ (i := 3) (N := some 20) (v := ?_) (a' := ?_) #[true, true, true, true, false, false, false, false, false, false, false, false, false] rfl rfl (any_of HT_.out (by kernel_rfl)) (fun _ _ _ h => h) (Or.inl ⟨by rfl, ?_⟩) ?_ ?_
                rotate_left
                · intro w'
                  go_simp
                  with_reducible rfl
                rotate_left
                · simp only [Act.put, List.setIfInBounds_toArray, List.set_cons_zero, List.set_cons_succ, i64_w, i32_w]
                  rfl
                refine pure_ (i := 6) (N := some 23) (v := ?_) (a' := ?_) #[true, true, true, true, false, false, true, false, false, false, false, false, false] rfl rfl (any_of HT_.out (by kernel_rfl)) (fun _ _ _ h => h) (Or.inl ⟨by rfl, ?_⟩) ?_ ?_
                rotate_left
                · intro w'
                  go_simp
                  with_reducible rfl
                rotate_left
                · simp only [Act.put, List.setIfInBounds_toArray, List.set_cons_zero, List.set_cons_succ, i64_w, i32_w]
                  rfl
                refine pure_ (i := 7) (N := some 24) (v := ?_) (a' := ?_) #[true, true, true, true, false, false, true, true, false, false, false, false, false] rfl rfl (any_of HT_.out (by kernel_rfl)) (fun _ _ _ h => h) (Or.inl ⟨by rfl, ?_⟩) ?_ ?_
                rotate_left
                · intro w'
                  go_simp
                  with_reducible rfl
                rotate_left
                · simp only [Act.put, List.setIfInBounds_toArray, List.set_cons_zero, List.set_cons_succ, i64_w, i32_w]
                  rfl
                refine pure_ (i := 8) (N := some 25) (v := ?_) (a' := ?_) #[true, true, true, true, false, false, true, true, true, false, false, false, false] rfl rfl (any_of HT_.out (by kernel_rfl)) (fun _ _ _ h => h) (Or.inl ⟨by rfl, ?_⟩) ?_ ?_
                rotate_left
                · intro w'
                  go_simp
                  with_reducible rfl
                rotate_left
                · simp only [Act.put, List.setIfInBounds_toArray, List.set_cons_zero, List.set_cons_succ, i64_w, i32_w]
                  rfl
                refine pure_ (i := 9) (N := some 26) (v := ?_) (a' := ?_) #[true, true, true, true, false, false, true, true, true, true, false, false, false] rfl rfl (any_of HT_.out (by kernel_rfl)) (fun _ _ _ h => h) (Or.inl ⟨by rfl, ?_⟩) ?_ ?_
                rotate_left
                · intro w'
                  go_simp
                  with_reducible rfl
                rotate_left
                · simp only [Act.put, List.setIfInBounds_toArray, List.set_cons_zero, List.set_cons_succ, i64_w, i32_w]
                  rfl
                refine take_ (i := 4) (N := some 21) (v := ?_) (a' := ?_) #[true, true, true, true, true, false, true, true, true, true, false, false, false] rfl rfl (take_ofW HT_.out HW_.out (by kernel_rfl)) (fun _ _ _ h => h) (Or.inl ⟨by rfl, ?_⟩) hHeld ?_ ?_
                rotate_left
                · rintro w' ⟨s0, s1, s2, s3, s4, s5, s6, s7⟩
                  go_simp
                  with_reducible rfl
                rotate_left
                · simp only [Act.put, List.setIfInBounds_toArray, List.set_cons_zero, List.set_cons_succ, i64_w, i32_w]
                  rfl
                refine take_ (i := 10) (N := some 27) (v := ?_) (a' := ?_) #[true, true, true, true, true, false, true, true, true, true, true, false, false] rfl rfl (take_ofW HT_.out HW_.out (by kernel_rfl)) (fun _ _ _ h => h) (Or.inl ⟨by rfl, ?_⟩) hHeld ?_ ?_
                rotate_left
                · rintro w' ⟨s0, s1, s2, s3, s4, s5, s6, s7⟩
                  go_simp
                  with_reducible rfl
                rotate_left
                · simp only [Act.put, List.setIfInBounds_toArray, List.set_cons_zero, List.set_cons_succ, i64_w, i32_w]
                  rfl
                refine one_ (i := 5) (N := some 22) #[true, true, true, true, true, true, true, true, true, true, true, false, false] rfl rfl (one_of HT_.out (by kernel_rfl)) (by decide) (fun K hK => ?_)
                refine goes_ Tryd.func28 (by kernel_rfl) rfl #[.int .i64 ((rd_T25 l0 x4_1).f0)] (by rfl) rfl rfl (by (try simp only [List.map_toArray, List.map_cons, List.map_nil]); first | done | rfl | (simp only [List.length_drop, List.length_take]; rfl)) ?_
                with_reducible refine (supercargoref05_Digits.calls kj2 ((rd_T25 l0 x4_1).f0) t102 _ A8.out).mono ?_
                rintro e w11 ⟨rfl, hb⟩
                refine ⟨_, rfl, ?_⟩
                have n0_ := Aside0.mk (below_step (by repeat (first | (with_reducible first | exact HB.out | apply below_alloc | apply pw_below_drewN | apply below_drew1) | exact HB.out)) hb)
                clear HB
                have HB := n0_
                clear n0_
                (try clear hb)
                (try clear hb2)
                (try clear hk)
                (try clear hi)
                refine hK.out _ _ ⟨((HB.out.cell (World.block_lt_of_cell? w _ hw101_0)).trans hw101_0), ((HB.out.cell (World.block_lt_of_cell? w _ hw101_1)).trans hw101_1), ((HB.out.cell (World.block_lt_of_cell? w _ hw101_2)).trans hw101_2), ((HB.out.cell (World.block_lt_of_cell? w _ hw101_3)).trans hw101_3), ((HB.out.cell (World.block_lt_of_cell? w _ hw103_0)).trans hw103_0), ((HB.out.cell (World.block_lt_of_cell? w _ hw103_1)).trans hw103_1), ((HB.out.cell (World.block_lt_of_cell? w _ hw103_2)).trans hw103_2), ((HB.out.cell (World.block_lt_of_cell? w _ hw103_3)).trans hw103_3)⟩ (fun hHeld => ?_)
                clear hK K
                refine norm_ (a' := ?_) ?_ ?_
                rotate_left
                · show Act.put _ (some 22) _ = _
                  simp only [Act.put, List.setIfInBounds_toArray, List.set_cons_zero, List.set_cons_succ, i64_w, i32_w]
                  rfl
                refine pure_ (i := 11) (N := some 5) (v := ?_) (a' := ?_) #[true, true, true, true, true, true, true, true, true, true, true, true, false] rfl rfl (any_of HT_.out (by kernel_rfl)) (fun _ _ _ h => h) (Or.inl ⟨by rfl, ?_⟩) ?_ ?_
                rotate_left
                · intro w'
                  go_simp
                  with_reducible rfl
                rotate_left
                · simp only [Act.put, List.setIfInBounds_toArray, List.set_cons_zero, List.set_cons_succ, i64_w, i32_w]
                  rfl
                refine pure_ (i := 12) (N := some 6) (v := ?_) (a' := ?_) #[true, true, true, true, true, true, true, true, true, true, true, true, true] rfl rfl (any_of HT_.out (by kernel_rfl)) (fun _ _ _ h => h) (Or.inl ⟨by rfl, ?_⟩) ?_ ?_
                rotate_left
                · intro w'
                  go_simp
                  with_reducible rfl
                rotate_left
                · simp only [Act.put, List.setIfInBounds_toArray, List.set_cons_zero, List.set_cons_succ, i64_w, i32_w]
                  rfl
                refine done_ (done_of HT_.out (by kernel_rfl)) ?_
                have p104 : 0 ≤ (x4_1 : Int) := of_decide_eq_true (by first | (with_reducible assumption) | assumption)
                have q104 : x4_1 < (l0.length : Int) := of_decide_eq_true (by first | (with_reducible assumption) | assumption)
                obtain ⟨ad104, e104, hx104_0, hx104_1, hx104_2, hx104_3⟩ := at_T25 HR0.out x4_1 p104 q104
                obtain rfl : ad101 = ad104 := (by injection e104)
                replace hx104_0 := (HB.out.cell (World.block_lt_of_cell? w _ hx104_0)).trans hx104_0
                replace hx104_1 := (HB.out.cell (World.block_lt_of_cell? w _ hx104_1)).trans hx104_1
                replace hx104_2 := (HB.out.cell (World.block_lt_of_cell? w _ hx104_2)).trans hx104_2
                replace hx104_3 := (HB.out.cell (World.block_lt_of_cell? w _ hx104_3)).trans hx104_3
                replace p104 := eq_true p104
                replace q104 := eq_true q104
                go_upto_if 33 with (fail)
                go_cut [5] (fun v5 wc => ∃ (kq : Nat) (x5_8 : ByteArray), v5 = .string x5_8 ∧ Aside0 (supercargoref31_Text.j2 kq l0 x3_2 x4_1 x5_8 ((rd_T25 l0 x4_1).f2) = some r) ∧ Aside0 (kq ≤ kj2) ∧ Aside0 (Below w.heap.size w wc))
                case first =>
                  have H := HC9.out
                  clear HC9
                  by_cases c12 : ((rd_T25 l0 x4_1).f0) = (-1)
                  · rw [if_pos c12] at H
                    have c12b0 : (((rd_T25 l0 x4_1).f0) == (-1)) = true := beq_iff_eq.mpr c12
                    have c12b1 : (((rd_T25 l0 x4_1).f0) != (-1)) = false := bne_eq_false_iff_eq.mpr c12
                    clear c12
                    (first | rw [c12b0] | (simp only [i64_w, i32_w]; rw [c12b0]) | skip)
                    have H' := Aside0.mk H
                    clear H
                    go_wp2
                    go_meet
                    case rel => exact ⟨_, ((⟨#[45]⟩ : ByteArray)), (by first | rfl | (simp; done) | (simp [*]; done)), H', ⟨by have := HK1.out; have := HJ2.out; first | omega | exact Nat.le_refl _⟩, ⟨by repeat (first | (with_reducible first | exact HB.out | apply below_alloc | apply pw_below_drewN | apply below_drew1) | exact HB.out)⟩⟩
                  · rw [if_neg c12] at H
                    have c12b0 : (((rd_T25 l0 x4_1).f0) == (-1)) = false := beq_eq_false_iff_ne.mpr c12
                    have c12b1 : (((rd_T25 l0 x4_1).f0) != (-1)) = true := bne_iff_ne.mpr c12
                    (first | rw [c12b0] | (simp only [i64_w, i32_w]; rw [c12b0]) | skip)
                    have H' := Aside0.mk H
                    clear H
                    go_wp2
                    go_meet
                    case rel => exact ⟨_, (t102), (by first | rfl | (simp; done) | (simp [*]; done)), H', ⟨by have := HK1.out; have := HJ2.out; first | omega | exact Nat.le_refl _⟩, ⟨by repeat (first | (with_reducible first | exact HB.out | apply below_alloc | apply pw_below_drewN | apply below_drew1) | exact HB.out)⟩⟩
                case rest =>
                  clear HC9
                  try clear c1
                  try clear p1
                  try clear q1
                  try clear hx1
                  try clear c2
                  try clear c2b0
                  try clear p2
                  try clear c4
                  try clear c4b0
                  try clear c5
                  try clear c5b0
                  try clear c5b1
                  try clear c5b2
                  try clear c6
                  try clear c6b0
                  try clear c7
                  try clear c7b0
                  try clear p10
                  try clear q10
                  try clear hx10
                  try clear c12
                  try clear c12b0
                  try clear c12b1
                  try clear hx101_0
                  try clear hx101_1
                  try clear hx101_2
                  try clear hx101_3
                  try clear hx103_0
                  try clear hx103_1
                  try clear hx103_2
                  try clear hx103_3
                  try clear hx104_0
                  try clear hx104_1
                  try clear hx104_2
                  try clear hx104_3
                  try clear p101
                  try clear p103
                  try clear p104
                  try clear p2
                  try clear q101
                  try clear q103
                  try clear q104
                  obtain ⟨kq, x5_8, rfl, HA, HJ8, HB⟩ := hcut
                  cases kq with
                  | zero => exact absurd HA.out (by simp [supercargoref31_Text.j2])
                  | succ kj8 =>
                    have H := HA.out
                    clear HA
                    simp only [supercargoref31_Text.j2] at H
                    by_cases c13 : ((rd_T25 l0 x4_1).f2).toList = ([] : List UInt8)
                    · rw [if_pos c13] at H
                      have c13b0 : (((rd_T25 l0 x4_1).f2).toList == ([] : List UInt8)) = true := beq_iff_eq.mpr c13
                      have c13b1 : (((rd_T25 l0 x4_1).f2).toList != ([] : List UInt8)) = false := bne_eq_false_iff_eq.mpr c13
                      clear c13
                      by_cases c14 : x3_2.size + x5_8.size ≤ 9223372036854775807
                      · rw [if_pos c14] at H
                        have c14b0 := eq_true c14
                        have c14b1 : decide (x3_2.size + x5_8.size ≤ 9223372036854775807) = true := decide_eq_true c14
                        try have c14b2 : (9223372036854775807 < x3_2.size + x5_8.size) = False := eq_false (Nat.not_lt.2 c14)
                        by_cases c15 : (x3_2 ++ x5_8).size + 1 ≤ 9223372036854775807
                        · rw [if_pos c15] at H
                          have c15b0 := eq_true c15
                          have c15b1 : decide ((x3_2 ++ x5_8).size + 1 ≤ 9223372036854775807) = true := decide_eq_true c15
                          try have c15b2 : (9223372036854775807 < (x3_2 ++ x5_8).size + 1) = False := eq_false (Nat.not_lt.2 c15)
                          obtain ⟨y105, hy105⟩ : ∃ y_ : List ByteArray, y_ = (([(⟨#[105, 110, 118, 111, 105, 99, 101]⟩ : ByteArray), (⟨#[112, 97, 99, 107, 105, 110, 103]⟩ : ByteArray), (⟨#[108, 97, 100, 105, 110, 103]⟩ : ByteArray), (⟨#[105, 110, 115, 117, 114, 97, 110, 99, 101]⟩ : ByteArray), (⟨#[111, 114, 105, 103, 105, 110]⟩ : ByteArray), (⟨#[100, 114, 97, 102, 116]⟩ : ByteArray)] : List ByteArray)) := ⟨_, rfl⟩
                          replace H : (if 0 ≤ x4_1 then (if x4_1 < (l0.length : Int) then ((supercargoref31_word.f y105 ((rd_T25 l0 x4_1).f1)).bind fun t109 => (if ((x3_2 ++ x5_8) ++ (⟨#[32]⟩ : ByteArray)).size + t109.size ≤ 9223372036854775807 then (if (((x3_2 ++ x5_8) ++ (⟨#[32]⟩ : ByteArray)) ++ t109).size + 1 ≤ 9223372036854775807 then (if ((((x3_2 ++ x5_8) ++ (⟨#[32]⟩ : ByteArray)) ++ t109) ++ (⟨#[32]⟩ : ByteArray)).size + 1 ≤ 9223372036854775807 then (if (((((x3_2 ++ x5_8) ++ (⟨#[32]⟩ : ByteArray)) ++ t109) ++ (⟨#[32]⟩ : ByteArray)) ++ (⟨#[45]⟩ : ByteArray)).size + 1 ≤ 9223372036854775807 then ((supercargoref31_word.f (([(⟨#[102, 105, 110, 101]⟩ : ByteArray), (⟨#[108, 97, 99, 107, 115]⟩ : ByteArray), (⟨#[102, 97, 105, 108, 115]⟩ : ByteArray), (⟨#[117, 110, 108, 105, 107, 101]⟩ : ByteArray), (⟨#[108, 97, 116, 101]⟩ : ByteArray), (⟨#[109, 117, 99, 104]⟩ : ByteArray), (⟨#[102, 101, 119]⟩ : ByteArray)] : List ByteArray)) ((rd_T25 l0 x4_1).f3)).bind fun t114 => (if ((((((x3_2 ++ x5_8) ++ (⟨#[32]⟩ : ByteArray)) ++ t109) ++ (⟨#[32]⟩ : ByteArray)) ++ (⟨#[45]⟩ : ByteArray)) ++ (⟨#[32]⟩ : ByteArray)).size + t114.size ≤ 9223372036854775807 then (supercargoref31_Text.l0 kj8 l0 (((((((x3_2 ++ x5_8) ++ (⟨#[32]⟩ : ByteArray)) ++ t109) ++ (⟨#[32]⟩ : ByteArray)) ++ (⟨#[45]⟩ : ByteArray)) ++ (⟨#[32]⟩ : ByteArray)) ++ t114) (wrap64 (x4_1 + 1))) else (none))) else (none)) else (none)) else (none)) else (none))) else (none)) else (none)) = some r := by first | (rw [hy105]; with_reducible exact H) | (have H2_ := (Option.bind_some _ _).symm.trans H; rw [hy105]; with_reducible exact H2_) | (have H2_ := (Option.bind_some _ _).symm.trans H; with_reducible exact H2_) | with_reducible exact H | (rw [hy105]; exact H) | exact H
                          have Ny105 := Aside0.mk hy105
                          clear hy105
                          by_cases c16 : 0 ≤ x4_1
                          · rw [if_pos c16] at H
                            have c16b0 : decide (0 ≤ x4_1) = true := decide_eq_true c16
                            clear c16
                            by_cases c17 : x4_1 < (l0.length : Int)
                            · rw [if_pos c17] at H
                              have c17b0 : decide (x4_1 < (l0.length : Int)) = true := decide_eq_true c17
                              clear c17
                              replace H := Option.bind_eq_some_iff.mp H
                              obtain ⟨t109, A180, H⟩ := H
                              replace H : (if ((x3_2 ++ x5_8) ++ (⟨#[32]⟩ : ByteArray)).size + t109.size ≤ 9223372036854775807 then (if (((x3_2 ++ x5_8) ++ (⟨#[32]⟩ : ByteArray)) ++ t109).size + 1 ≤ 9223372036854775807 then (if ((((x3_2 ++ x5_8) ++ (⟨#[32]⟩ : ByteArray)) ++ t109) ++ (⟨#[32]⟩ : ByteArray)).size + 1 ≤ 9223372036854775807 then (if (((((x3_2 ++ x5_8) ++ (⟨#[32]⟩ : ByteArray)) ++ t109) ++ (⟨#[32]⟩ : ByteArray)) ++ (⟨#[45]⟩ : ByteArray)).size + 1 ≤ 9223372036854775807 then ((supercargoref31_word.f (([(⟨#[102, 105, 110, 101]⟩ : ByteArray), (⟨#[108, 97, 99, 107, 115]⟩ : ByteArray), (⟨#[102, 97, 105, 108, 115]⟩ : ByteArray), (⟨#[117, 110, 108, 105, 107, 101]⟩ : ByteArray), (⟨#[108, 97, 116, 101]⟩ : ByteArray), (⟨#[109, 117, 99, 104]⟩ : ByteArray), (⟨#[102, 101, 119]⟩ : ByteArray)] : List ByteArray)) ((rd_T25 l0 x4_1).f3)).bind fun t114 => (if ((((((x3_2 ++ x5_8) ++ (⟨#[32]⟩ : ByteArray)) ++ t109) ++ (⟨#[32]⟩ : ByteArray)) ++ (⟨#[45]⟩ : ByteArray)) ++ (⟨#[32]⟩ : ByteArray)).size + t114.size ≤ 9223372036854775807 then (supercargoref31_Text.l0 kj8 l0 (((((((x3_2 ++ x5_8) ++ (⟨#[32]⟩ : ByteArray)) ++ t109) ++ (⟨#[32]⟩ : ByteArray)) ++ (⟨#[45]⟩ : ByteArray)) ++ (⟨#[32]⟩ : ByteArray)) ++ t114) (wrap64 (x4_1 + 1))) else (none))) else (none)) else (none)) else (none)) else (none)) = some r := H
                              have A18 := Aside0.mk A180
                              clear A180
                              by_cases c19 : ((x3_2 ++ x5_8) ++ (⟨#[32]⟩ : ByteArray)).size + t109.size ≤ 9223372036854775807
                              · rw [if_pos c19] at H
                                have c19b0 := eq_true c19
                                have c19b1 : decide (((x3_2 ++ x5_8) ++ (⟨#[32]⟩ : ByteArray)).size + t109.size ≤ 9223372036854775807) = true := decide_eq_true c19
                                try have c19b2 : (9223372036854775807 < ((x3_2 ++ x5_8) ++ (⟨#[32]⟩ : ByteArray)).size + t109.size) = False := eq_false (Nat.not_lt.2 c19)
                                by_cases c20 : (((x3_2 ++ x5_8) ++ (⟨#[32]⟩ : ByteArray)) ++ t109).size + 1 ≤ 9223372036854775807
                                · rw [if_pos c20] at H
                                  have c20b0 := eq_true c20
                                  have c20b1 : decide ((((x3_2 ++ x5_8) ++ (⟨#[32]⟩ : ByteArray)) ++ t109).size + 1 ≤ 9223372036854775807) = true := decide_eq_true c20
                                  try have c20b2 : (9223372036854775807 < (((x3_2 ++ x5_8) ++ (⟨#[32]⟩ : ByteArray)) ++ t109).size + 1) = False := eq_false (Nat.not_lt.2 c20)
                                  by_cases c21 : ((((x3_2 ++ x5_8) ++ (⟨#[32]⟩ : ByteArray)) ++ t109) ++ (⟨#[32]⟩ : ByteArray)).size + 1 ≤ 9223372036854775807
                                  · rw [if_pos c21] at H
                                    have c21b0 := eq_true c21
                                    have c21b1 : decide (((((x3_2 ++ x5_8) ++ (⟨#[32]⟩ : ByteArray)) ++ t109) ++ (⟨#[32]⟩ : ByteArray)).size + 1 ≤ 9223372036854775807) = true := decide_eq_true c21
                                    try have c21b2 : (9223372036854775807 < ((((x3_2 ++ x5_8) ++ (⟨#[32]⟩ : ByteArray)) ++ t109) ++ (⟨#[32]⟩ : ByteArray)).size + 1) = False := eq_false (Nat.not_lt.2 c21)
                                    by_cases c22 : (((((x3_2 ++ x5_8) ++ (⟨#[32]⟩ : ByteArray)) ++ t109) ++ (⟨#[32]⟩ : ByteArray)) ++ (⟨#[45]⟩ : ByteArray)).size + 1 ≤ 9223372036854775807
                                    · rw [if_pos c22] at H
                                      have c22b0 := eq_true c22
                                      have c22b1 : decide ((((((x3_2 ++ x5_8) ++ (⟨#[32]⟩ : ByteArray)) ++ t109) ++ (⟨#[32]⟩ : ByteArray)) ++ (⟨#[45]⟩ : ByteArray)).size + 1 ≤ 9223372036854775807) = true := decide_eq_true c22
                                      try have c22b2 : (9223372036854775807 < (((((x3_2 ++ x5_8) ++ (⟨#[32]⟩ : ByteArray)) ++ t109) ++ (⟨#[32]⟩ : ByteArray)) ++ (⟨#[45]⟩ : ByteArray)).size + 1) = False := eq_false (Nat.not_lt.2 c22)
                                      obtain ⟨y110, hy110⟩ : ∃ y_ : List ByteArray, y_ = (([(⟨#[102, 105, 110, 101]⟩ : ByteArray), (⟨#[108, 97, 99, 107, 115]⟩ : ByteArray), (⟨#[102, 97, 105, 108, 115]⟩ : ByteArray), (⟨#[117, 110, 108, 105, 107, 101]⟩ : ByteArray), (⟨#[108, 97, 116, 101]⟩ : ByteArray), (⟨#[109, 117, 99, 104]⟩ : ByteArray), (⟨#[102, 101, 119]⟩ : ByteArray)] : List ByteArray)) := ⟨_, rfl⟩
                                      replace H : ((supercargoref31_word.f y110 ((rd_T25 l0 x4_1).f3)).bind fun t114 => (if ((((((x3_2 ++ x5_8) ++ (⟨#[32]⟩ : ByteArray)) ++ t109) ++ (⟨#[32]⟩ : ByteArray)) ++ (⟨#[45]⟩ : ByteArray)) ++ (⟨#[32]⟩ : ByteArray)).size + t114.size ≤ 9223372036854775807 then (supercargoref31_Text.l0 kj8 l0 (((((((x3_2 ++ x5_8) ++ (⟨#[32]⟩ : ByteArray)) ++ t109) ++ (⟨#[32]⟩ : ByteArray)) ++ (⟨#[45]⟩ : ByteArray)) ++ (⟨#[32]⟩ : ByteArray)) ++ t114) (wrap64 (x4_1 + 1))) else (none))) = some r := by first | (rw [hy110]; with_reducible exact H) | (have H2_ := (Option.bind_some _ _).symm.trans H; rw [hy110]; with_reducible exact H2_) | (have H2_ := (Option.bind_some _ _).symm.trans H; with_reducible exact H2_) | with_reducible exact H | (rw [hy110]; exact H) | exact H
                                      have Ny110 := Aside0.mk hy110
                                      clear hy110
                                      replace H := Option.bind_eq_some_iff.mp H
                                      obtain ⟨t114, A230, H⟩ := H
                                      replace H : (if ((((((x3_2 ++ x5_8) ++ (⟨#[32]⟩ : ByteArray)) ++ t109) ++ (⟨#[32]⟩ : ByteArray)) ++ (⟨#[45]⟩ : ByteArray)) ++ (⟨#[32]⟩ : ByteArray)).size + t114.size ≤ 9223372036854775807 then (supercargoref31_Text.l0 kj8 l0 (((((((x3_2 ++ x5_8) ++ (⟨#[32]⟩ : ByteArray)) ++ t109) ++ (⟨#[32]⟩ : ByteArray)) ++ (⟨#[45]⟩ : ByteArray)) ++ (⟨#[32]⟩ : ByteArray)) ++ t114) (wrap64 (x4_1 + 1))) else (none)) = some r := H
                                      have A23 := Aside0.mk A230
                                      clear A230
                                      by_cases c24 : ((((((x3_2 ++ x5_8) ++ (⟨#[32]⟩ : ByteArray)) ++ t109) ++ (⟨#[32]⟩ : ByteArray)) ++ (⟨#[45]⟩ : ByteArray)) ++ (⟨#[32]⟩ : ByteArray)).size + t114.size ≤ 9223372036854775807
                                      · rw [if_pos c24] at H
                                        have c24b0 := eq_true c24
                                        have c24b1 : decide (((((((x3_2 ++ x5_8) ++ (⟨#[32]⟩ : ByteArray)) ++ t109) ++ (⟨#[32]⟩ : ByteArray)) ++ (⟨#[45]⟩ : ByteArray)) ++ (⟨#[32]⟩ : ByteArray)).size + t114.size ≤ 9223372036854775807) = true := decide_eq_true c24
                                        have kb0 := of_decide_eq_true c24b1
                                        simp only [ByteArray.size_append, show ((⟨#[32]⟩ : ByteArray)).size = 1 from rfl, show ((⟨#[45]⟩ : ByteArray)).size = 1 from rfl] at kb0
                                        have kb1 : ¬ 9223372036854775807 < x3_2.size + x5_8.size + 1 := by omega
                                        have kb2 : ¬ 9223372036854775807 < x3_2.size + x5_8.size + 1 + t109.size := by omega
                                        have kb3 : ¬ 9223372036854775807 < x3_2.size + x5_8.size + 1 + t109.size + 1 := by omega
                                        have kb4 : ¬ 9223372036854775807 < x3_2.size + x5_8.size + 1 + t109.size + 1 + 1 := by omega
                                        have kb5 : ¬ 9223372036854775807 < x3_2.size + x5_8.size + 1 + t109.size + 1 + 1 + 1 := by omega
                                        have kb6 : ¬ 9223372036854775807 < x3_2.size + x5_8.size + 1 + t109.size + 1 + 1 + 1 + t114.size := by omega
                                        clear kb0
                                        try have c24b2 : (9223372036854775807 < ((((((x3_2 ++ x5_8) ++ (⟨#[32]⟩ : ByteArray)) ++ t109) ++ (⟨#[32]⟩ : ByteArray)) ++ (⟨#[45]⟩ : ByteArray)) ++ (⟨#[32]⟩ : ByteArray)).size + t114.size) = False := eq_false (Nat.not_lt.2 c24)
                                        have H' := Aside0.mk H
                                        clear H
                                        try go_wp2
                                        have n0_ := Aside0.mk (below_drew1 HB.out)
                                        clear HB
                                        have HB := n0_
                                        clear n0_
                                        have p108 : 0 ≤ (x4_1 : Int) := of_decide_eq_true (by first | (with_reducible assumption) | assumption)
                                        have q108 : x4_1 < (l0.length : Int) := of_decide_eq_true (by first | (with_reducible assumption) | assumption)
                                        obtain ⟨ad108, e108, hx108_0, hx108_1, hx108_2, hx108_3⟩ := at_T25 HR0.out x4_1 p108 q108
                                        have hw108_3 := hx108_3
                                        have hw108_2 := hx108_2
                                        have hw108_1 := hx108_1
                                        have hw108_0 := hx108_0
                                        obtain rfl : ad101 = ad108 := (by injection e108)
                                        replace hx108_0 := (HB.out.cell (World.block_lt_of_cell? w _ hx108_0)).trans hx108_0
                                        replace hx108_1 := (HB.out.cell (World.block_lt_of_cell? w _ hx108_1)).trans hx108_1
                                        replace hx108_2 := (HB.out.cell (World.block_lt_of_cell? w _ hx108_2)).trans hx108_2
                                        replace hx108_3 := (HB.out.cell (World.block_lt_of_cell? w _ hx108_3)).trans hx108_3
                                        replace p108 := eq_true p108
                                        replace q108 := eq_true q108
                                        have p113 : 0 ≤ (x4_1 : Int) := of_decide_eq_true (by first | (with_reducible assumption) | assumption)
                                        have q113 : x4_1 < (l0.length : Int) := of_decide_eq_true (by first | (with_reducible assumption) | assumption)
                                        obtain ⟨ad113, e113, hx113_0, hx113_1, hx113_2, hx113_3⟩ := at_T25 HR0.out x4_1 p113 q113
                                        have hw113_3 := hx113_3
                                        have hw113_2 := hx113_2
                                        have hw113_1 := hx113_1
                                        have hw113_0 := hx113_0
                                        obtain rfl : ad101 = ad113 := (by injection e113)
                                        replace hx113_0 := (HB.out.cell (World.block_lt_of_cell? w _ hx113_0)).trans hx113_0
                                        replace hx113_1 := (HB.out.cell (World.block_lt_of_cell? w _ hx113_1)).trans hx113_1
                                        replace hx113_2 := (HB.out.cell (World.block_lt_of_cell? w _ hx113_2)).trans hx113_2
                                        replace hx113_3 := (HB.out.cell (World.block_lt_of_cell? w _ hx113_3)).trans hx113_3
                                        replace p113 := eq_true p113
                                        replace q113 := eq_true q113
                                        refine start_ (n := 25) (S := fun w' => w'.cell? (ad101.add ((x4_1).toNat * 4)) = some (.int .i64 ((rd_T25 l0 x4_1).f0)) ∧ w'.cell? ⟨(ad101.add ((x4_1).toNat * 4)).block, (ad101.add ((x4_1).toNat * 4)).off + 1, none⟩ = some (.int .i64 ((rd_T25 l0 x4_1).f1)) ∧ w'.cell? ⟨(ad101.add ((x4_1).toNat * 4)).block, (ad101.add ((x4_1).toNat * 4)).off + 2, none⟩ = some (.string ((rd_T25 l0 x4_1).f2)) ∧ w'.cell? ⟨(ad101.add ((x4_1).toNat * 4)).block, (ad101.add ((x4_1).toNat * 4)).off + 3, none⟩ = some (.int .i64 ((rd_T25 l0 x4_1).f3)) ∧ w'.cell? (ad101.add ((x4_1).toNat * 4)) = some (.int .i64 ((rd_T25 l0 x4_1).f0)) ∧ w'.cell? ⟨(ad101.add ((x4_1).toNat * 4)).block, (ad101.add ((x4_1).toNat * 4)).off + 1, none⟩ = some (.int .i64 ((rd_T25 l0 x4_1).f1)) ∧ w'.cell? ⟨(ad101.add ((x4_1).toNat * 4)).block, (ad101.add ((x4_1).toNat * 4)).off + 2, none⟩ = some (.string ((rd_T25 l0 x4_1).f2)) ∧ w'.cell? ⟨(ad101.add ((x4_1).toNat * 4)).block, (ad101.add ((x4_1).toNat * 4)).off + 3, none⟩ = some (.int .i64 ((rd_T25 l0 x4_1).f3))) (ds := []) #[false, false, false, false, false, false, false, false, false, false, false, false, false, false, false, false, false, false, false, false, false, false, false, false, false] (by kernel_rfl) rfl rfl ⟨((HB.out.cell (World.block_lt_of_cell? w _ hw108_0)).trans hw108_0), ((HB.out.cell (World.block_lt_of_cell? w _ hw108_1)).trans hw108_1), ((HB.out.cell (World.block_lt_of_cell? w _ hw108_2)).trans hw108_2), ((HB.out.cell (World.block_lt_of_cell? w _ hw108_3)).trans hw108_3), ((HB.out.cell (World.block_lt_of_cell? w _ hw113_0)).trans hw113_0), ((HB.out.cell (World.block_lt_of_cell? w _ hw113_1)).trans hw113_1), ((HB.out.cell (World.block_lt_of_cell? w _ hw113_2)).trans hw113_2), ((HB.out.cell (World.block_lt_of_cell? w _ hw113_3)).trans hw113_3)⟩ (fun hHeld => ?_); refine with_tabW supercargoref31_Text.tab12 supercargoref31_Text.bits12 (fun HT_ HW_ => ?_)
                                        generalize wc.drew = w25 at HB hx108_0 hx108_1 hx108_2 hx108_3 hx113_0 hx113_1 hx113_2 hx113_3 hHeld ⊢
                                        refine pure_ (i := 0) (N := some 36) (v := ?_) (a' := ?_) #[true, false, false, false, false, false, false, false, false, false, false, false, false, false, false, false, false, false, false, false, false, false, false, false, false] rfl rfl (any_of HT_.out (by kernel_rfl)) (fun _ _ _ h => h) (Or.inl ⟨by rfl, ?_⟩) ?_ ?_
                                        rotate_left
                                        · intro w'
                                          go_simp
                                          with_reducible rfl
                                        rotate_left
                                        · simp only [Act.put, List.setIfInBounds_toArray, List.set_cons_zero, List.set_cons_succ, i64_w, i32_w]
                                          rfl
                                        refine pure_ (i := 1) (N := some 37) (v := ?_) (a' := ?_) #[true, true, false, false, false, false, false, false, false, false, false, false, false, false, false, false, false, false, false, false, false, false, false, false, false] rfl rfl (any_of HT_.out (by kernel_rfl)) (fun _ _ _ h => h) (Or.inl ⟨by rfl, ?_⟩) ?_ ?_
                                        rotate_left
                                        · intro w'
                                          go_simp
                                          with_reducible rfl
                                        rotate_left
                                        · simp only [Act.put, List.setIfInBounds_toArray, List.set_cons_zero, List.set_cons_succ, i64_w, i32_w]
                                          rfl
                                        refine pure_ (i := 2) (N := some 38) (v := ?_) (a' := ?_) #[true, true, true, false, false, false, false, false, false, false, false, false, false, false, false, false, false, false, false, false, false, false, false, false, false] rfl rfl (any_of HT_.out (by kernel_rfl)) (fun _ _ _ h => h) (Or.inl ⟨by rfl, ?_⟩) ?_ ?_
                                        rotate_left
                                        · intro w'
                                          go_simp
                                          with_reducible rfl
                                        rotate_left
                                        · simp only [Act.put, List.setIfInBounds_toArray, List.set_cons_zero, List.set_cons_succ, i64_w, i32_w]
                                          rfl
                                        refine pure_ (i := 3) (N := some 39) (v := ?_) (a' := ?_) #[true, true, true, true, false, false, false, false, false, false, false, false, false, false, false, false, false, false, false, false, false, false, false, false, false] rfl rfl (any_of HT_.out (by kernel_rfl)) (fun _ _ _ h => h) (Or.inl ⟨by rfl, ?_⟩) ?_ ?_
                                        rotate_left
                                        · intro w'
                                          go_simp
                                          with_reducible rfl
                                        rotate_left
                                        · simp only [Act.put, List.setIfInBounds_toArray, List.set_cons_zero, List.set_cons_succ, i64_w, i32_w]
                                          rfl
                                        refine pure_ (i := 5) (N := some 41) (v := ?_) (a' := ?_) #[true, true, true, true, false, true, false, false, false, false, false, false, false, false, false, false, false, false, false, false, false, false, false, false, false] rfl rfl (any_of HT_.out (by kernel_rfl)) (fun _ _ _ h => h) (Or.inl ⟨by rfl, ?_⟩) ?_ ?_
                                        rotate_left
                                        · intro w'
                                          go_simp
                                          with_reducible rfl
                                        rotate_left
                                        · simp only [Act.put, List.setIfInBounds_toArray, List.set_cons_zero, List.set_cons_succ, i64_w, i32_w]
                                          rfl
                                        refine pure_ (i := 6) (N := some 42) (v := ?_) (a' := ?_) #[true, true, true, true, false, true, true, false, false, false, false, false, false, false, false, false, false, false, false, false, false, false, false, false, false] rfl rfl (any_of HT_.out (by kernel_rfl)) (fun _ _ _ h => h) (Or.inl ⟨by rfl, ?_⟩) ?_ ?_
                                        rotate_left
                                        · intro w'
                                          go_simp
                                          with_reducible rfl
                                        rotate_left
                                        · simp only [Act.put, List.setIfInBounds_toArray, List.set_cons_zero, List.set_cons_succ, i64_w, i32_w]
                                          rfl
                                        refine pure_ (i := 7) (N := some 43) (v := ?_) (a' := ?_) #[true, true, true, true, false, true, true, true, false, false, false, false, false, false, false, false, false, false, false, false, false, false, false, false, false] rfl rfl (any_of HT_.out (by kernel_rfl)) (fun _ _ _ h => h) (Or.inl ⟨by rfl, ?_⟩) ?_ ?_
                                        rotate_left
                                        · intro w'
                                          go_simp
                                          with_reducible rfl
                                        rotate_left
                                        · simp only [Act.put, List.setIfInBounds_toArray, List.set_cons_zero, List.set_cons_succ, i64_w, i32_w]
                                          rfl
                                        refine pure_ (i := 8) (N := some 44) (v := ?_) (a' := ?_) #[true, true, true, true, false, true, true, true, true, false, false, false, false, false, false, false, false, false, false, false, false, false, false, false, false] rfl rfl (any_of HT_.out (by kernel_rfl)) (fun _ _ _ h => h) (Or.inl ⟨by rfl, ?_⟩) ?_ ?_
                                        rotate_left
                                        · intro w'
                                          go_simp
                                          with_reducible rfl
                                        rotate_left
                                        · simp only [Act.put, List.setIfInBounds_toArray, List.set_cons_zero, List.set_cons_succ, i64_w, i32_w]
                                          rfl
                                        refine pure_ (i := 13) (N := some 49) (v := ?_) (a' := ?_) #[true, true, true, true, false, true, true, true, true, false, false, false, false, true, false, false, false, false, false, false, false, false, false, false, false] rfl rfl (any_of HT_.out (by kernel_rfl)) (fun _ _ _ h => h) (Or.inl ⟨by rfl, ?_⟩) ?_ ?_
                                        rotate_left
                                        · intro w'
                                          go_simp
                                          with_reducible rfl
                                        rotate_left
                                        · simp only [Act.put, List.setIfInBounds_toArray, List.set_cons_zero, List.set_cons_succ, i64_w, i32_w]
                                          rfl
                                        refine pure_ (i := 17) (N := some 53) (v := ?_) (a' := ?_) #[true, true, true, true, false, true, true, true, true, false, false, false, false, true, false, false, false, true, false, false, false, false, false, false, false] rfl rfl (any_of HT_.out (by kernel_rfl)) (fun _ _ _ h => h) (Or.inl ⟨by rfl, ?_⟩) ?_ ?_
                                        rotate_left
                                        · intro w'
                                          go_simp
                                          with_reducible rfl
                                        rotate_left
                                        · simp only [Act.put, List.setIfInBounds_toArray, List.set_cons_zero, List.set_cons_succ, i64_w, i32_w]
                                          rfl
                                        refine pure_ (i := 18) (N := some 54) (v := ?_) (a' := ?_) #[true, true, true, true, false, true, true, true, true, false, false, false, false, true, false, false, false, true, true, false, false, false, false, false, false] rfl rfl (any_of HT_.out (by kernel_rfl)) (fun _ _ _ h => h) (Or.inl ⟨by rfl, ?_⟩) ?_ ?_
                                        rotate_left
                                        · intro w'
                                          go_simp
                                          with_reducible rfl
                                        rotate_left
                                        · simp only [Act.put, List.setIfInBounds_toArray, List.set_cons_zero, List.set_cons_succ, i64_w, i32_w]
                                          rfl
                                        refine pure_ (i := 19) (N := some 55) (v := ?_) (a' := ?_) #[true, true, true, true, false, true, true, true, true, false, false, false, false, true, false, false, false, true, true, true, false, false, false, false, false] rfl rfl (any_of HT_.out (by kernel_rfl)) (fun _ _ _ h => h) (Or.inl ⟨by rfl, ?_⟩) ?_ ?_
                                        rotate_left
                                        · intro w'
                                          go_simp
                                          with_reducible rfl
                                        rotate_left
                                        · simp only [Act.put, List.setIfInBounds_toArray, List.set_cons_zero, List.set_cons_succ, i64_w, i32_w]
                                          rfl
                                        refine pure_ (i := 20) (N := some 56) (v := ?_) (a' := ?_) #[true, true, true, true, false, true, true, true, true, false, false, false, false, true, false, false, false, true, true, true, true, false, false, false, false] rfl rfl (any_of HT_.out (by kernel_rfl)) (fun _ _ _ h => h) (Or.inl ⟨by rfl, ?_⟩) ?_ ?_
                                        rotate_left
                                        · intro w'
                                          go_simp
                                          with_reducible rfl
                                        rotate_left
                                        · simp only [Act.put, List.setIfInBounds_toArray, List.set_cons_zero, List.set_cons_succ, i64_w, i32_w]
                                          rfl
                                        refine take_ (i := 9) (N := some 45) (v := ?_) (a' := ?_) #[true, true, true, true, false, true, true, true, true, true, false, false, false, true, false, false, false, true, true, true, true, false, false, false, false] rfl rfl (take_ofW HT_.out HW_.out (by kernel_rfl)) (fun _ _ _ h => h) (Or.inl ⟨by rfl, ?_⟩) hHeld ?_ ?_
                                        rotate_left
                                        · rintro w' ⟨s0, s1, s2, s3, s4, s5, s6, s7⟩
                                          go_simp
                                          with_reducible rfl
                                        rotate_left
                                        · simp only [Act.put, List.setIfInBounds_toArray, List.set_cons_zero, List.set_cons_succ, i64_w, i32_w]
                                          rfl
                                        refine take_ (i := 21) (N := some 57) (v := ?_) (a' := ?_) #[true, true, true, true, false, true, true, true, true, true, false, false, false, true, false, false, false, true, true, true, true, true, false, false, false] rfl rfl (take_ofW HT_.out HW_.out (by kernel_rfl)) (fun _ _ _ h => h) (Or.inl ⟨by rfl, ?_⟩) hHeld ?_ ?_
                                        rotate_left
                                        · rintro w' ⟨s0, s1, s2, s3, s4, s5, s6, s7⟩
                                          go_simp
                                          with_reducible rfl
                                        rotate_left
                                        · simp only [Act.put, List.setIfInBounds_toArray, List.set_cons_zero, List.set_cons_succ, i64_w, i32_w]
                                          rfl
                                        refine join_ (σ := Value × Value) 3 #[true, true, true, true, true, true, true, true, true, true, true, true, true, true, true, true, true, true, true, true, true, true, false, false, false] (fun s_ => [(40, s_.1), (46, .string t109), (52, s_.2), (47, .string (((x3_2 ++ x5_8) ++ (⟨#[32]⟩ : ByteArray)) ++ t109)), (48, .string ((((x3_2 ++ x5_8) ++ (⟨#[32]⟩ : ByteArray)) ++ t109) ++ (⟨#[32]⟩ : ByteArray))), (50, .string (((((x3_2 ++ x5_8) ++ (⟨#[32]⟩ : ByteArray)) ++ t109) ++ (⟨#[32]⟩ : ByteArray)) ++ (⟨#[45]⟩ : ByteArray))), (51, .string ((((((x3_2 ++ x5_8) ++ (⟨#[32]⟩ : ByteArray)) ++ t109) ++ (⟨#[32]⟩ : ByteArray)) ++ (⟨#[45]⟩ : ByteArray)) ++ (⟨#[32]⟩ : ByteArray)))]) (fun s_ w' => (w'.cell? (ad101.add ((x4_1).toNat * 4)) = some (.int .i64 ((rd_T25 l0 x4_1).f0)) ∧ w'.cell? ⟨(ad101.add ((x4_1).toNat * 4)).block, (ad101.add ((x4_1).toNat * 4)).off + 1, none⟩ = some (.int .i64 ((rd_T25 l0 x4_1).f1)) ∧ w'.cell? ⟨(ad101.add ((x4_1).toNat * 4)).block, (ad101.add ((x4_1).toNat * 4)).off + 2, none⟩ = some (.string ((rd_T25 l0 x4_1).f2)) ∧ w'.cell? ⟨(ad101.add ((x4_1).toNat * 4)).block, (ad101.add ((x4_1).toNat * 4)).off + 3, none⟩ = some (.int .i64 ((rd_T25 l0 x4_1).f3)) ∧ w'.cell? (ad101.add ((x4_1).toNat * 4)) = some (.int .i64 ((rd_T25 l0 x4_1).f0)) ∧ w'.cell? ⟨(ad101.add ((x4_1).toNat * 4)).block, (ad101.add ((x4_1).toNat * 4)).off + 1, none⟩ = some (.int .i64 ((rd_T25 l0 x4_1).f1)) ∧ w'.cell? ⟨(ad101.add ((x4_1).toNat * 4)).block, (ad101.add ((x4_1).toNat * 4)).off + 2, none⟩ = some (.string ((rd_T25 l0 x4_1).f2)) ∧ w'.cell? ⟨(ad101.add ((x4_1).toNat * 4)).block, (ad101.add ((x4_1).toNat * 4)).off + 3, none⟩ = some (.int .i64 ((rd_T25 l0 x4_1).f3))) ∧ (Kd.R Kd.string 9 w' w.heap.size (fun k_ => some k_ ≠ (s_.2 : Value).ownBlock) s_.1 y105) ∧ (Kd.R Kd.string 9 w' w.heap.size (fun k_ => some k_ ≠ (s_.1 : Value).ownBlock) s_.2 y110) ∧ (Below w.heap.size w w')) ?_ ?_
                                        rotate_left
                                        · intro hCont
                                          refine two_ (i := 4) (j := 16) (Ni := some 40) (Nj := some 52) #[true, true, true, true, true, true, true, true, true, true, false, false, false, true, false, false, false, true, true, true, true, true, false, false, false] #[true, true, true, true, false, true, true, true, true, true, false, false, false, true, false, false, true, true, true, true, true, true, false, false, false] rfl rfl rfl rfl (two_of HT_.out (by kernel_rfl)) (by decide) (by decide) (fun K hK => ?_) (fun K hK => ?_)
                                          · skip
                                            refine Kd.R_lit_step Kd.string _ 9 ?hg (N := 40) ?hd (xs := ([(⟨#[105, 110, 118, 111, 105, 99, 101]⟩ : ByteArray), (⟨#[112, 97, 99, 107, 105, 110, 103]⟩ : ByteArray), (⟨#[108, 97, 100, 105, 110, 103]⟩ : ByteArray), (⟨#[105, 110, 115, 117, 114, 97, 110, 99, 101]⟩ : ByteArray), (⟨#[111, 114, 105, 103, 105, 110]⟩ : ByteArray), (⟨#[100, 114, 97, 102, 116]⟩ : ByteArray)] : List ByteArray)) (inner := [.string (⟨#[105, 110, 118, 111, 105, 99, 101]⟩ : ByteArray), .string (⟨#[112, 97, 99, 107, 105, 110, 103]⟩ : ByteArray), .string (⟨#[108, 97, 100, 105, 110, 103]⟩ : ByteArray), .string (⟨#[105, 110, 115, 117, 114, 97, 110, 99, 101]⟩ : ByteArray), .string (⟨#[111, 114, 105, 103, 105, 110]⟩ : ByteArray), .string (⟨#[100, 114, 97, 102, 116]⟩ : ByteArray)]) (ok := fun _ => True) (okp := fun _ => True) ?hr ?hp (fun _ hk => hk) trivial (Below.refl _ _) (Nat.le_refl _) (by simp) ?_; (case hd => rfl); (case hg => rfl); (case hr => first | (go_simp; done) | (go_simp; rfl)); (case hp => exact (Reps.one (show Kd.M Kd.string _ _ _ (⟨#[105, 110, 118, 111, 105, 99, 101]⟩ : ByteArray) [.string (⟨#[105, 110, 118, 111, 105, 99, 101]⟩ : ByteArray)] from rfl) (Reps.one (show Kd.M Kd.string _ _ _ (⟨#[112, 97, 99, 107, 105, 110, 103]⟩ : ByteArray) [.string (⟨#[112, 97, 99, 107, 105, 110, 103]⟩ : ByteArray)] from rfl) (Reps.one (show Kd.M Kd.string _ _ _ (⟨#[108, 97, 100, 105, 110, 103]⟩ : ByteArray) [.string (⟨#[108, 97, 100, 105, 110, 103]⟩ : ByteArray)] from rfl) (Reps.one (show Kd.M Kd.string _ _ _ (⟨#[105, 110, 115, 117, 114, 97, 110, 99, 101]⟩ : ByteArray) [.string (⟨#[105, 110, 115, 117, 114, 97, 110, 99, 101]⟩ : ByteArray)] from rfl) (Reps.one (show Kd.M Kd.string _ _ _ (⟨#[111, 114, 105, 103, 105, 110]⟩ : ByteArray) [.string (⟨#[111, 114, 105, 103, 105, 110]⟩ : ByteArray)] from rfl) (Reps.one (show Kd.M Kd.string _ _ _ (⟨#[100, 114, 97, 102, 116]⟩ : ByteArray) [.string (⟨#[100, 114, 97, 102, 116]⟩ : ByteArray)] from rfl) (Reps.none _ _))))))))
                                            intro v106 w26 ho27 hb hg_ hnew_
                                            clear hg_ hnew_
                                            (first | rw [← Ny105.out] at ho27 | (simp only [Int.reduceToNat] at ho27; rw [← Ny105.out] at ho27))
                                            have n0_ := Aside0.mk (Kd.R_lower ho27 (below_size (by repeat (first | (with_reducible first | exact HB.out | apply below_alloc | apply pw_below_drewN | apply below_drew1) | exact HB.out))))
                                            have n1_ := Aside0.mk (below_step (by repeat (first | (with_reducible first | exact HB.out | apply below_alloc | apply pw_below_drewN | apply below_drew1) | exact HB.out)) hb)
                                            clear HB
                                            have HO107 := n0_
                                            have HB := n1_
                                            clear n0_ n1_
                                            clear hb ho27
                                            obtain ⟨Ao28, co28, eo28⟩ := Kd.R_slice HO107.out
                                            (first | subst eo28 | (injection eo28 with f1_ f2_ f3_; have f4_ := f1_.symm; have f5_ := f3_.symm; clear f1_ f2_ f3_; subst f4_; subst f5_))
                                            refine hK.out _ _ ⟨((HB.out.cell (World.block_lt_of_cell? w _ hw108_0)).trans hw108_0), ((HB.out.cell (World.block_lt_of_cell? w _ hw108_1)).trans hw108_1), ((HB.out.cell (World.block_lt_of_cell? w _ hw108_2)).trans hw108_2), ((HB.out.cell (World.block_lt_of_cell? w _ hw108_3)).trans hw108_3), ((HB.out.cell (World.block_lt_of_cell? w _ hw113_0)).trans hw113_0), ((HB.out.cell (World.block_lt_of_cell? w _ hw113_1)).trans hw113_1), ((HB.out.cell (World.block_lt_of_cell? w _ hw113_2)).trans hw113_2), ((HB.out.cell (World.block_lt_of_cell? w _ hw113_3)).trans hw113_3)⟩ (fun hHeld => ?_)
                                            clear hK K
                                            refine norm_ (a' := ?_) ?_ ?_
                                            rotate_left
                                            · show Act.put _ (some 40) _ = _
                                              simp only [Act.put, List.setIfInBounds_toArray, List.set_cons_zero, List.set_cons_succ, i64_w, i32_w]
                                              rfl
                                            refine two_ (i := 10) (j := 16) (Ni := some 46) (Nj := some 52) #[true, true, true, true, true, true, true, true, true, true, true, false, false, true, false, false, false, true, true, true, true, true, false, false, false] #[true, true, true, true, true, true, true, true, true, true, false, false, false, true, false, false, true, true, true, true, true, true, false, false, false] rfl rfl rfl rfl (two_of HT_.out (by kernel_rfl)) (by decide) (by decide) (fun K hK => ?_) (fun K hK => ?_)
                                            · skip
                                              refine goes_ Tryd.func29 (by kernel_rfl) rfl #[.slice Ao28 y105.length co28, .int .i64 ((rd_T25 l0 x4_1).f1)] (by rfl) rfl rfl (by (try simp only [List.map_toArray, List.map_cons, List.map_nil]); first | done | rfl | (simp only [List.length_drop, List.length_take]; rfl)) ?_
                                              with_reducible refine (supercargoref31_word.calls _ _ y105 ((rd_T25 l0 x4_1).f1) t109 _ ?side1 ?side2 A18.out).mono ?_
                                              (case side1 => repeat (first | exact (Kd.R_reads' HO107.out).2.2 | (with_reducible refine Kd.C_alloc ?_ _) | (with_reducible refine Kd.C_drewN ?_ _) | (with_reducible refine Kd.C_drew ?_)))
                                              (case side2 => exact (Kd.R_reads' HO107.out).2.1)
                                              rintro e w' ⟨rfl, ⟨nd, rfl⟩⟩
                                              refine ⟨_, rfl, ?_⟩
                                              refine hK.out _ _ ⟨((HB.out.cell (World.block_lt_of_cell? w _ hw108_0)).trans hw108_0), ((HB.out.cell (World.block_lt_of_cell? w _ hw108_1)).trans hw108_1), ((HB.out.cell (World.block_lt_of_cell? w _ hw108_2)).trans hw108_2), ((HB.out.cell (World.block_lt_of_cell? w _ hw108_3)).trans hw108_3), ((HB.out.cell (World.block_lt_of_cell? w _ hw113_0)).trans hw113_0), ((HB.out.cell (World.block_lt_of_cell? w _ hw113_1)).trans hw113_1), ((HB.out.cell (World.block_lt_of_cell? w _ hw113_2)).trans hw113_2), ((HB.out.cell (World.block_lt_of_cell? w _ hw113_3)).trans hw113_3)⟩ (fun hHeld => ?_)
                                              clear hK K
                                              refine norm_ (a' := ?_) ?_ ?_
                                              rotate_left
                                              · show Act.put _ (some 46) _ = _
                                                simp only [Act.put, List.setIfInBounds_toArray, List.set_cons_zero, List.set_cons_succ, i64_w, i32_w]
                                                rfl
                                              refine pure_ (i := 11) (N := some 47) (v := ?_) (a' := ?_) #[true, true, true, true, true, true, true, true, true, true, true, true, false, true, false, false, false, true, true, true, true, true, false, false, false] rfl rfl (any_of HT_.out (by kernel_rfl)) (fun _ _ _ h => h) (Or.inl ⟨by rfl, ?_⟩) ?_ ?_
                                              rotate_left
                                              · intro w'
                                                go_simp
                                                with_reducible rfl
                                              rotate_left
                                              · simp only [Act.put, List.setIfInBounds_toArray, List.set_cons_zero, List.set_cons_succ, i64_w, i32_w]
                                                rfl
                                              refine pure_ (i := 12) (N := some 48) (v := ?_) (a' := ?_) #[true, true, true, true, true, true, true, true, true, true, true, true, true, true, false, false, false, true, true, true, true, true, false, false, false] rfl rfl (any_of HT_.out (by kernel_rfl)) (fun _ _ _ h => h) (Or.inl ⟨by rfl, ?_⟩) ?_ ?_
                                              rotate_left
                                              · intro w'
                                                go_simp
                                                with_reducible rfl
                                              rotate_left
                                              · simp only [Act.put, List.setIfInBounds_toArray, List.set_cons_zero, List.set_cons_succ, i64_w, i32_w]
                                                rfl
                                              refine pure_ (i := 14) (N := some 50) (v := ?_) (a' := ?_) #[true, true, true, true, true, true, true, true, true, true, true, true, true, true, true, false, false, true, true, true, true, true, false, false, false] rfl rfl (any_of HT_.out (by kernel_rfl)) (fun _ _ _ h => h) (Or.inl ⟨by rfl, ?_⟩) ?_ ?_
                                              rotate_left
                                              · intro w'
                                                go_simp
                                                with_reducible rfl
                                              rotate_left
                                              · simp only [Act.put, List.setIfInBounds_toArray, List.set_cons_zero, List.set_cons_succ, i64_w, i32_w]
                                                rfl
                                              refine pure_ (i := 15) (N := some 51) (v := ?_) (a' := ?_) #[true, true, true, true, true, true, true, true, true, true, true, true, true, true, true, true, false, true, true, true, true, true, false, false, false] rfl rfl (any_of HT_.out (by kernel_rfl)) (fun _ _ _ h => h) (Or.inl ⟨by rfl, ?_⟩) ?_ ?_
                                              rotate_left
                                              · intro w'
                                                go_simp
                                                with_reducible rfl
                                              rotate_left
                                              · simp only [Act.put, List.setIfInBounds_toArray, List.set_cons_zero, List.set_cons_succ, i64_w, i32_w]
                                                rfl
                                              refine one_ (i := 16) (N := some 52) #[true, true, true, true, true, true, true, true, true, true, true, true, true, true, true, true, true, true, true, true, true, true, false, false, false] rfl rfl (one_of HT_.out (by kernel_rfl)) (by decide) (fun K hK => ?_)
                                              refine Kd.R_lit_step Kd.string _ 9 ?hg (N := 52) ?hd (xs := ([(⟨#[102, 105, 110, 101]⟩ : ByteArray), (⟨#[108, 97, 99, 107, 115]⟩ : ByteArray), (⟨#[102, 97, 105, 108, 115]⟩ : ByteArray), (⟨#[117, 110, 108, 105, 107, 101]⟩ : ByteArray), (⟨#[108, 97, 116, 101]⟩ : ByteArray), (⟨#[109, 117, 99, 104]⟩ : ByteArray), (⟨#[102, 101, 119]⟩ : ByteArray)] : List ByteArray)) (inner := [.string (⟨#[102, 105, 110, 101]⟩ : ByteArray), .string (⟨#[108, 97, 99, 107, 115]⟩ : ByteArray), .string (⟨#[102, 97, 105, 108, 115]⟩ : ByteArray), .string (⟨#[117, 110, 108, 105, 107, 101]⟩ : ByteArray), .string (⟨#[108, 97, 116, 101]⟩ : ByteArray), .string (⟨#[109, 117, 99, 104]⟩ : ByteArray), .string (⟨#[102, 101, 119]⟩ : ByteArray)]) (ok := fun _ => True) (okp := fun _ => True) ?hr ?hp (fun _ hk => hk) trivial (Below.refl _ _) (Nat.le_refl _) (by simp) ?_; (case hd => rfl); (case hg => rfl); (case hr => first | (go_simp; done) | (go_simp; rfl)); (case hp => exact (Reps.one (show Kd.M Kd.string _ _ _ (⟨#[102, 105, 110, 101]⟩ : ByteArray) [.string (⟨#[102, 105, 110, 101]⟩ : ByteArray)] from rfl) (Reps.one (show Kd.M Kd.string _ _ _ (⟨#[108, 97, 99, 107, 115]⟩ : ByteArray) [.string (⟨#[108, 97, 99, 107, 115]⟩ : ByteArray)] from rfl) (Reps.one (show Kd.M Kd.string _ _ _ (⟨#[102, 97, 105, 108, 115]⟩ : ByteArray) [.string (⟨#[102, 97, 105, 108, 115]⟩ : ByteArray)] from rfl) (Reps.one (show Kd.M Kd.string _ _ _ (⟨#[117, 110, 108, 105, 107, 101]⟩ : ByteArray) [.string (⟨#[117, 110, 108, 105, 107, 101]⟩ : ByteArray)] from rfl) (Reps.one (show Kd.M Kd.string _ _ _ (⟨#[108, 97, 116, 101]⟩ : ByteArray) [.string (⟨#[108, 97, 116, 101]⟩ : ByteArray)] from rfl) (Reps.one (show Kd.M Kd.string _ _ _ (⟨#[109, 117, 99, 104]⟩ : ByteArray) [.string (⟨#[109, 117, 99, 104]⟩ : ByteArray)] from rfl) (Reps.one (show Kd.M Kd.string _ _ _ (⟨#[102, 101, 119]⟩ : ByteArray) [.string (⟨#[102, 101, 119]⟩ : ByteArray)] from rfl) (Reps.none _ _)))))))))
                                              intro v111 w29 ho30 hb hg_ hnew_
                                              clear hg_ hnew_
                                              (first | rw [← Ny110.out] at ho30 | (simp only [Int.reduceToNat] at ho30; rw [← Ny110.out] at ho30))
                                              have n0_ := Aside0.mk (Kd.R_elder' (by (with_reducible repeat (first | apply Kd.R_alloc | apply Kd.R_drewN | apply Kd.R_drew)); exact HO107.out) (Kd.R_base ho30) hb)
                                              have n1_ := Aside0.mk (Kd.R_lower (Kd.R_new' ho30 (Kd.R_lt (by (with_reducible repeat (first | apply Kd.R_alloc | apply Kd.R_drewN | apply Kd.R_drew)); exact HO107.out))) (below_size (by repeat (first | (with_reducible first | exact HB.out | apply below_alloc | apply pw_below_drewN | apply below_drew1) | exact HB.out))))
                                              have n2_ := Aside0.mk (below_step (by repeat (first | (with_reducible first | exact HB.out | apply below_alloc | apply pw_below_drewN | apply below_drew1) | exact HB.out)) hb)
                                              clear HO107
                                              clear HB
                                              have HO107 := n0_
                                              have HO112 := n1_
                                              have HB := n2_
                                              clear n0_ n1_ n2_
                                              clear hb ho30
                                              refine hK.out _ _ ⟨((HB.out.cell (World.block_lt_of_cell? w _ hw108_0)).trans hw108_0), ((HB.out.cell (World.block_lt_of_cell? w _ hw108_1)).trans hw108_1), ((HB.out.cell (World.block_lt_of_cell? w _ hw108_2)).trans hw108_2), ((HB.out.cell (World.block_lt_of_cell? w _ hw108_3)).trans hw108_3), ((HB.out.cell (World.block_lt_of_cell? w _ hw113_0)).trans hw113_0), ((HB.out.cell (World.block_lt_of_cell? w _ hw113_1)).trans hw113_1), ((HB.out.cell (World.block_lt_of_cell? w _ hw113_2)).trans hw113_2), ((HB.out.cell (World.block_lt_of_cell? w _ hw113_3)).trans hw113_3)⟩ (fun hHeld => ?_)
                                              clear hK K
                                              refine norm_ (a' := ?_) ?_ ?_
                                              rotate_left
                                              · show Act.put _ (some 52) _ = _
                                                simp only [Act.put, List.setIfInBounds_toArray, List.set_cons_zero, List.set_cons_succ, i64_w, i32_w]
                                                rfl
                                              exact norm_ (by simp only [putAll, Act.put, List.setIfInBounds_toArray, List.set_cons_zero, List.set_cons_succ]) (hCont (.slice Ao28 y105.length co28, v111) _ ⟨hHeld, (by (with_reducible repeat (first | apply Kd.R_alloc | apply Kd.R_drewN | apply Kd.R_drew)); exact Kd.R_mono HO107.out (fun _ hk => hk.2)), (by (with_reducible repeat (first | apply Kd.R_alloc | apply Kd.R_drewN | apply Kd.R_drew)); exact Kd.R_mono HO112.out (fun _ hk => hk.2)), (by repeat (first | (with_reducible first | exact HB.out | apply below_alloc | apply pw_below_drewN | apply below_drew1) | exact HB.out))⟩)
                                            · skip
                                              refine Kd.R_lit_step Kd.string _ 9 ?hg (N := 52) ?hd (xs := ([(⟨#[102, 105, 110, 101]⟩ : ByteArray), (⟨#[108, 97, 99, 107, 115]⟩ : ByteArray), (⟨#[102, 97, 105, 108, 115]⟩ : ByteArray), (⟨#[117, 110, 108, 105, 107, 101]⟩ : ByteArray), (⟨#[108, 97, 116, 101]⟩ : ByteArray), (⟨#[109, 117, 99, 104]⟩ : ByteArray), (⟨#[102, 101, 119]⟩ : ByteArray)] : List ByteArray)) (inner := [.string (⟨#[102, 105, 110, 101]⟩ : ByteArray), .string (⟨#[108, 97, 99, 107, 115]⟩ : ByteArray), .string (⟨#[102, 97, 105, 108, 115]⟩ : ByteArray), .string (⟨#[117, 110, 108, 105, 107, 101]⟩ : ByteArray), .string (⟨#[108, 97, 116, 101]⟩ : ByteArray), .string (⟨#[109, 117, 99, 104]⟩ : ByteArray), .string (⟨#[102, 101, 119]⟩ : ByteArray)]) (ok := fun _ => True) (okp := fun _ => True) ?hr ?hp (fun _ hk => hk) trivial (Below.refl _ _) (Nat.le_refl _) (by simp) ?_; (case hd => rfl); (case hg => rfl); (case hr => first | (go_simp; done) | (go_simp; rfl)); (case hp => exact (Reps.one (show Kd.M Kd.string _ _ _ (⟨#[102, 105, 110, 101]⟩ : ByteArray) [.string (⟨#[102, 105, 110, 101]⟩ : ByteArray)] from rfl) (Reps.one (show Kd.M Kd.string _ _ _ (⟨#[108, 97, 99, 107, 115]⟩ : ByteArray) [.string (⟨#[108, 97, 99, 107, 115]⟩ : ByteArray)] from rfl) (Reps.one (show Kd.M Kd.string _ _ _ (⟨#[102, 97, 105, 108, 115]⟩ : ByteArray) [.string (⟨#[102, 97, 105, 108, 115]⟩ : ByteArray)] from rfl) (Reps.one (show Kd.M Kd.string _ _ _ (⟨#[117, 110, 108, 105, 107, 101]⟩ : ByteArray) [.string (⟨#[117, 110, 108, 105, 107, 101]⟩ : ByteArray)] from rfl) (Reps.one (show Kd.M Kd.string _ _ _ (⟨#[108, 97, 116, 101]⟩ : ByteArray) [.string (⟨#[108, 97, 116, 101]⟩ : ByteArray)] from rfl) (Reps.one (show Kd.M Kd.string _ _ _ (⟨#[109, 117, 99, 104]⟩ : ByteArray) [.string (⟨#[109, 117, 99, 104]⟩ : ByteArray)] from rfl) (Reps.one (show Kd.M Kd.string _ _ _ (⟨#[102, 101, 119]⟩ : ByteArray) [.string (⟨#[102, 101, 119]⟩ : ByteArray)] from rfl) (Reps.none _ _)))))))))
                                              intro v111 w28 ho29 hb hg_ hnew_
                                              clear hg_ hnew_
                                              (first | rw [← Ny110.out] at ho29 | (simp only [Int.reduceToNat] at ho29; rw [← Ny110.out] at ho29))
                                              have n0_ := Aside0.mk (Kd.R_elder' (by (with_reducible repeat (first | apply Kd.R_alloc | apply Kd.R_drewN | apply Kd.R_drew)); exact HO107.out) (Kd.R_base ho29) hb)
                                              have n1_ := Aside0.mk (Kd.R_lower (Kd.R_new' ho29 (Kd.R_lt (by (with_reducible repeat (first | apply Kd.R_alloc | apply Kd.R_drewN | apply Kd.R_drew)); exact HO107.out))) (below_size (by repeat (first | (with_reducible first | exact HB.out | apply below_alloc | apply pw_below_drewN | apply below_drew1) | exact HB.out))))
                                              have n2_ := Aside0.mk (below_step (by repeat (first | (with_reducible first | exact HB.out | apply below_alloc | apply pw_below_drewN | apply below_drew1) | exact HB.out)) hb)
                                              clear HO107
                                              clear HB
                                              have HO107 := n0_
                                              have HO112 := n1_
                                              have HB := n2_
                                              clear n0_ n1_ n2_
                                              clear hb ho29
                                              obtain ⟨Ao30, co30, eo30⟩ := Kd.R_slice HO107.out
                                              (first | subst eo30 | (injection eo30 with f1_ f2_ f3_; have f4_ := f1_.symm; have f5_ := f3_.symm; clear f1_ f2_ f3_; subst f4_; subst f5_))
                                              refine hK.out _ _ ⟨((HB.out.cell (World.block_lt_of_cell? w _ hw108_0)).trans hw108_0), ((HB.out.cell (World.block_lt_of_cell? w _ hw108_1)).trans hw108_1), ((HB.out.cell (World.block_lt_of_cell? w _ hw108_2)).trans hw108_2), ((HB.out.cell (World.block_lt_of_cell? w _ hw108_3)).trans hw108_3), ((HB.out.cell (World.block_lt_of_cell? w _ hw113_0)).trans hw113_0), ((HB.out.cell (World.block_lt_of_cell? w _ hw113_1)).trans hw113_1), ((HB.out.cell (World.block_lt_of_cell? w _ hw113_2)).trans hw113_2), ((HB.out.cell (World.block_lt_of_cell? w _ hw113_3)).trans hw113_3)⟩ (fun hHeld => ?_)
                                              clear hK K
                                              refine norm_ (a' := ?_) ?_ ?_
                                              rotate_left
                                              · show Act.put _ (some 52) _ = _
                                                simp only [Act.put, List.setIfInBounds_toArray, List.set_cons_zero, List.set_cons_succ, i64_w, i32_w]
                                                rfl
                                              refine one_ (i := 10) (N := some 46) #[true, true, true, true, true, true, true, true, true, true, true, false, false, true, false, false, true, true, true, true, true, true, false, false, false] rfl rfl (one_of HT_.out (by kernel_rfl)) (by decide) (fun K hK => ?_)
                                              refine goes_ Tryd.func29 (by kernel_rfl) rfl #[.slice Ao30 y105.length co30, .int .i64 ((rd_T25 l0 x4_1).f1)] (by rfl) rfl rfl (by (try simp only [List.map_toArray, List.map_cons, List.map_nil]); first | done | rfl | (simp only [List.length_drop, List.length_take]; rfl)) ?_
                                              with_reducible refine (supercargoref31_word.calls _ _ y105 ((rd_T25 l0 x4_1).f1) t109 _ ?side1 ?side2 A18.out).mono ?_
                                              (case side1 => repeat (first | exact (Kd.R_reads' HO107.out).2.2 | (with_reducible refine Kd.C_alloc ?_ _) | (with_reducible refine Kd.C_drewN ?_ _) | (with_reducible refine Kd.C_drew ?_)))
                                              (case side2 => exact (Kd.R_reads' HO107.out).2.1)
                                              rintro e w' ⟨rfl, ⟨nd, rfl⟩⟩
                                              refine ⟨_, rfl, ?_⟩
                                              refine hK.out _ _ ⟨((HB.out.cell (World.block_lt_of_cell? w _ hw108_0)).trans hw108_0), ((HB.out.cell (World.block_lt_of_cell? w _ hw108_1)).trans hw108_1), ((HB.out.cell (World.block_lt_of_cell? w _ hw108_2)).trans hw108_2), ((HB.out.cell (World.block_lt_of_cell? w _ hw108_3)).trans hw108_3), ((HB.out.cell (World.block_lt_of_cell? w _ hw113_0)).trans hw113_0), ((HB.out.cell (World.block_lt_of_cell? w _ hw113_1)).trans hw113_1), ((HB.out.cell (World.block_lt_of_cell? w _ hw113_2)).trans hw113_2), ((HB.out.cell (World.block_lt_of_cell? w _ hw113_3)).trans hw113_3)⟩ (fun hHeld => ?_)
                                              clear hK K
                                              refine norm_ (a' := ?_) ?_ ?_
                                              rotate_left
                                              · show Act.put _ (some 46) _ = _
                                                simp only [Act.put, List.setIfInBounds_toArray, List.set_cons_zero, List.set_cons_succ, i64_w, i32_w]
                                                rfl
                                              refine pure_ (i := 11) (N := some 47) (v := ?_) (a' := ?_) #[true, true, true, true, true, true, true, true, true, true, true, true, false, true, false, false, true, true, true, true, true, true, false, false, false] rfl rfl (any_of HT_.out (by kernel_rfl)) (fun _ _ _ h => h) (Or.inl ⟨by rfl, ?_⟩) ?_ ?_
                                              rotate_left
                                              · intro w'
                                                go_simp
                                                with_reducible rfl
                                              rotate_left
                                              · simp only [Act.put, List.setIfInBounds_toArray, List.set_cons_zero, List.set_cons_succ, i64_w, i32_w]
                                                rfl
                                              refine pure_ (i := 12) (N := some 48) (v := ?_) (a' := ?_) #[true, true, true, true, true, true, true, true, true, true, true, true, true, true, false, false, true, true, true, true, true, true, false, false, false] rfl rfl (any_of HT_.out (by kernel_rfl)) (fun _ _ _ h => h) (Or.inl ⟨by rfl, ?_⟩) ?_ ?_
                                              rotate_left
                                              · intro w'
                                                go_simp
                                                with_reducible rfl
                                              rotate_left
                                              · simp only [Act.put, List.setIfInBounds_toArray, List.set_cons_zero, List.set_cons_succ, i64_w, i32_w]
                                                rfl
                                              refine pure_ (i := 14) (N := some 50) (v := ?_) (a' := ?_) #[true, true, true, true, true, true, true, true, true, true, true, true, true, true, true, false, true, true, true, true, true, true, false, false, false] rfl rfl (any_of HT_.out (by kernel_rfl)) (fun _ _ _ h => h) (Or.inl ⟨by rfl, ?_⟩) ?_ ?_
                                              rotate_left
                                              · intro w'
                                                go_simp
                                                with_reducible rfl
                                              rotate_left
                                              · simp only [Act.put, List.setIfInBounds_toArray, List.set_cons_zero, List.set_cons_succ, i64_w, i32_w]
                                                rfl
                                              refine pure_ (i := 15) (N := some 51) (v := ?_) (a' := ?_) #[true, true, true, true, true, true, true, true, true, true, true, true, true, true, true, true, true, true, true, true, true, true, false, false, false] rfl rfl (any_of HT_.out (by kernel_rfl)) (fun _ _ _ h => h) (Or.inl ⟨by rfl, ?_⟩) ?_ ?_
                                              rotate_left
                                              · intro w'
                                                go_simp
                                                with_reducible rfl
                                              rotate_left
                                              · simp only [Act.put, List.setIfInBounds_toArray, List.set_cons_zero, List.set_cons_succ, i64_w, i32_w]
                                                rfl
                                              exact norm_ (by simp only [putAll, Act.put, List.setIfInBounds_toArray, List.set_cons_zero, List.set_cons_succ]) (hCont (.slice Ao30 y105.length co30, v111) _ ⟨hHeld, (by (with_reducible repeat (first | apply Kd.R_alloc | apply Kd.R_drewN | apply Kd.R_drew)); exact Kd.R_mono HO107.out (fun _ hk => hk.2)), (by (with_reducible repeat (first | apply Kd.R_alloc | apply Kd.R_drewN | apply Kd.R_drew)); exact Kd.R_mono HO112.out (fun _ hk => hk.2)), (by repeat (first | (with_reducible first | exact HB.out | apply below_alloc | apply pw_below_drewN | apply below_drew1) | exact HB.out))⟩)
                                          · skip
                                            refine Kd.R_lit_step Kd.string _ 9 ?hg (N := 52) ?hd (xs := ([(⟨#[102, 105, 110, 101]⟩ : ByteArray), (⟨#[108, 97, 99, 107, 115]⟩ : ByteArray), (⟨#[102, 97, 105, 108, 115]⟩ : ByteArray), (⟨#[117, 110, 108, 105, 107, 101]⟩ : ByteArray), (⟨#[108, 97, 116, 101]⟩ : ByteArray), (⟨#[109, 117, 99, 104]⟩ : ByteArray), (⟨#[102, 101, 119]⟩ : ByteArray)] : List ByteArray)) (inner := [.string (⟨#[102, 105, 110, 101]⟩ : ByteArray), .string (⟨#[108, 97, 99, 107, 115]⟩ : ByteArray), .string (⟨#[102, 97, 105, 108, 115]⟩ : ByteArray), .string (⟨#[117, 110, 108, 105, 107, 101]⟩ : ByteArray), .string (⟨#[108, 97, 116, 101]⟩ : ByteArray), .string (⟨#[109, 117, 99, 104]⟩ : ByteArray), .string (⟨#[102, 101, 119]⟩ : ByteArray)]) (ok := fun _ => True) (okp := fun _ => True) ?hr ?hp (fun _ hk => hk) trivial (Below.refl _ _) (Nat.le_refl _) (by simp) ?_; (case hd => rfl); (case hg => rfl); (case hr => first | (go_simp; done) | (go_simp; rfl)); (case hp => exact (Reps.one (show Kd.M Kd.string _ _ _ (⟨#[102, 105, 110, 101]⟩ : ByteArray) [.string (⟨#[102, 105, 110, 101]⟩ : ByteArray)] from rfl) (Reps.one (show Kd.M Kd.string _ _ _ (⟨#[108, 97, 99, 107, 115]⟩ : ByteArray) [.string (⟨#[108, 97, 99, 107, 115]⟩ : ByteArray)] from rfl) (Reps.one (show Kd.M Kd.string _ _ _ (⟨#[102, 97, 105, 108, 115]⟩ : ByteArray) [.string (⟨#[102, 97, 105, 108, 115]⟩ : ByteArray)] from rfl) (Reps.one (show Kd.M Kd.string _ _ _ (⟨#[117, 110, 108, 105, 107, 101]⟩ : ByteArray) [.string (⟨#[117, 110, 108, 105, 107, 101]⟩ : ByteArray)] from rfl) (Reps.one (show Kd.M Kd.string _ _ _ (⟨#[108, 97, 116, 101]⟩ : ByteArray) [.string (⟨#[108, 97, 116, 101]⟩ : ByteArray)] from rfl) (Reps.one (show Kd.M Kd.string _ _ _ (⟨#[109, 117, 99, 104]⟩ : ByteArray) [.string (⟨#[109, 117, 99, 104]⟩ : ByteArray)] from rfl) (Reps.one (show Kd.M Kd.string _ _ _ (⟨#[102, 101, 119]⟩ : ByteArray) [.string (⟨#[102, 101, 119]⟩ : ByteArray)] from rfl) (Reps.none _ _)))))))))
                                            intro v111 w26 ho27 hb hg_ hnew_
                                            clear hg_ hnew_
                                            (first | rw [← Ny110.out] at ho27 | (simp only [Int.reduceToNat] at ho27; rw [← Ny110.out] at ho27))
                                            have n0_ := Aside0.mk (Kd.R_lower ho27 (below_size (by repeat (first | (with_reducible first | exact HB.out | apply below_alloc | apply pw_below_drewN | apply below_drew1) | exact HB.out))))
                                            have n1_ := Aside0.mk (below_step (by repeat (first | (with_reducible first | exact HB.out | apply below_alloc | apply pw_below_drewN | apply below_drew1) | exact HB.out)) hb)
                                            clear HB
                                            have HO112 := n0_
                                            have HB := n1_
                                            clear n0_ n1_
                                            clear hb ho27
                                            refine hK.out _ _ ⟨((HB.out.cell (World.block_lt_of_cell? w _ hw108_0)).trans hw108_0), ((HB.out.cell (World.block_lt_of_cell? w _ hw108_1)).trans hw108_1), ((HB.out.cell (World.block_lt_of_cell? w _ hw108_2)).trans hw108_2), ((HB.out.cell (World.block_lt_of_cell? w _ hw108_3)).trans hw108_3), ((HB.out.cell (World.block_lt_of_cell? w _ hw113_0)).trans hw113_0), ((HB.out.cell (World.block_lt_of_cell? w _ hw113_1)).trans hw113_1), ((HB.out.cell (World.block_lt_of_cell? w _ hw113_2)).trans hw113_2), ((HB.out.cell (World.block_lt_of_cell? w _ hw113_3)).trans hw113_3)⟩ (fun hHeld => ?_)
                                            clear hK K
                                            refine norm_ (a' := ?_) ?_ ?_
                                            rotate_left
                                            · show Act.put _ (some 52) _ = _
                                              simp only [Act.put, List.setIfInBounds_toArray, List.set_cons_zero, List.set_cons_succ, i64_w, i32_w]
                                              rfl
                                            refine one_ (i := 4) (N := some 40) #[true, true, true, true, true, true, true, true, true, true, false, false, false, true, false, false, true, true, true, true, true, true, false, false, false] rfl rfl (one_of HT_.out (by kernel_rfl)) (by decide) (fun K hK => ?_)
                                            refine Kd.R_lit_step Kd.string _ 9 ?hg (N := 40) ?hd (xs := ([(⟨#[105, 110, 118, 111, 105, 99, 101]⟩ : ByteArray), (⟨#[112, 97, 99, 107, 105, 110, 103]⟩ : ByteArray), (⟨#[108, 97, 100, 105, 110, 103]⟩ : ByteArray), (⟨#[105, 110, 115, 117, 114, 97, 110, 99, 101]⟩ : ByteArray), (⟨#[111, 114, 105, 103, 105, 110]⟩ : ByteArray), (⟨#[100, 114, 97, 102, 116]⟩ : ByteArray)] : List ByteArray)) (inner := [.string (⟨#[105, 110, 118, 111, 105, 99, 101]⟩ : ByteArray), .string (⟨#[112, 97, 99, 107, 105, 110, 103]⟩ : ByteArray), .string (⟨#[108, 97, 100, 105, 110, 103]⟩ : ByteArray), .string (⟨#[105, 110, 115, 117, 114, 97, 110, 99, 101]⟩ : ByteArray), .string (⟨#[111, 114, 105, 103, 105, 110]⟩ : ByteArray), .string (⟨#[100, 114, 97, 102, 116]⟩ : ByteArray)]) (ok := fun _ => True) (okp := fun _ => True) ?hr ?hp (fun _ hk => hk) trivial (Below.refl _ _) (Nat.le_refl _) (by simp) ?_; (case hd => rfl); (case hg => rfl); (case hr => first | (go_simp; done) | (go_simp; rfl)); (case hp => exact (Reps.one (show Kd.M Kd.string _ _ _ (⟨#[105, 110, 118, 111, 105, 99, 101]⟩ : ByteArray) [.string (⟨#[105, 110, 118, 111, 105, 99, 101]⟩ : ByteArray)] from rfl) (Reps.one (show Kd.M Kd.string _ _ _ (⟨#[112, 97, 99, 107, 105, 110, 103]⟩ : ByteArray) [.string (⟨#[112, 97, 99, 107, 105, 110, 103]⟩ : ByteArray)] from rfl) (Reps.one (show Kd.M Kd.string _ _ _ (⟨#[108, 97, 100, 105, 110, 103]⟩ : ByteArray) [.string (⟨#[108, 97, 100, 105, 110, 103]⟩ : ByteArray)] from rfl) (Reps.one (show Kd.M Kd.string _ _ _ (⟨#[105, 110, 115, 117, 114, 97, 110, 99, 101]⟩ : ByteArray) [.string (⟨#[105, 110, 115, 117, 114, 97, 110, 99, 101]⟩ : ByteArray)] from rfl) (Reps.one (show Kd.M Kd.string _ _ _ (⟨#[111, 114, 105, 103, 105, 110]⟩ : ByteArray) [.string (⟨#[111, 114, 105, 103, 105, 110]⟩ : ByteArray)] from rfl) (Reps.one (show Kd.M Kd.string _ _ _ (⟨#[100, 114, 97, 102, 116]⟩ : ByteArray) [.string (⟨#[100, 114, 97, 102, 116]⟩ : ByteArray)] from rfl) (Reps.none _ _))))))))
                                            intro v106 w28 ho29 hb hg_ hnew_
                                            clear hg_ hnew_
                                            (first | rw [← Ny105.out] at ho29 | (simp only [Int.reduceToNat] at ho29; rw [← Ny105.out] at ho29))
                                            have n0_ := Aside0.mk (Kd.R_elder' (by (with_reducible repeat (first | apply Kd.R_alloc | apply Kd.R_drewN | apply Kd.R_drew)); exact HO112.out) (Kd.R_base ho29) hb)
                                            have n1_ := Aside0.mk (Kd.R_lower (Kd.R_new' ho29 (Kd.R_lt (by (with_reducible repeat (first | apply Kd.R_alloc | apply Kd.R_drewN | apply Kd.R_drew)); exact HO112.out))) (below_size (by repeat (first | (with_reducible first | exact HB.out | apply below_alloc | apply pw_below_drewN | apply below_drew1) | exact HB.out))))
                                            have n2_ := Aside0.mk (below_step (by repeat (first | (with_reducible first | exact HB.out | apply below_alloc | apply pw_below_drewN | apply below_drew1) | exact HB.out)) hb)
                                            clear HO112
                                            clear HB
                                            have HO112 := n0_
                                            have HO107 := n1_
                                            have HB := n2_
                                            clear n0_ n1_ n2_
                                            clear hb ho29
                                            obtain ⟨Ao30, co30, eo30⟩ := Kd.R_slice HO107.out
                                            (first | subst eo30 | (injection eo30 with f1_ f2_ f3_; have f4_ := f1_.symm; have f5_ := f3_.symm; clear f1_ f2_ f3_; subst f4_; subst f5_))
                                            refine hK.out _ _ ⟨((HB.out.cell (World.block_lt_of_cell? w _ hw108_0)).trans hw108_0), ((HB.out.cell (World.block_lt_of_cell? w _ hw108_1)).trans hw108_1), ((HB.out.cell (World.block_lt_of_cell? w _ hw108_2)).trans hw108_2), ((HB.out.cell (World.block_lt_of_cell? w _ hw108_3)).trans hw108_3), ((HB.out.cell (World.block_lt_of_cell? w _ hw113_0)).trans hw113_0), ((HB.out.cell (World.block_lt_of_cell? w _ hw113_1)).trans hw113_1), ((HB.out.cell (World.block_lt_of_cell? w _ hw113_2)).trans hw113_2), ((HB.out.cell (World.block_lt_of_cell? w _ hw113_3)).trans hw113_3)⟩ (fun hHeld => ?_)
                                            clear hK K
                                            refine norm_ (a' := ?_) ?_ ?_
                                            rotate_left
                                            · show Act.put _ (some 40) _ = _
                                              simp only [Act.put, List.setIfInBounds_toArray, List.set_cons_zero, List.set_cons_succ, i64_w, i32_w]
                                              rfl
                                            refine one_ (i := 10) (N := some 46) #[true, true, true, true, true, true, true, true, true, true, true, false, false, true, false, false, true, true, true, true, true, true, false, false, false] rfl rfl (one_of HT_.out (by kernel_rfl)) (by decide) (fun K hK => ?_)
                                            refine goes_ Tryd.func29 (by kernel_rfl) rfl #[.slice Ao30 y105.length co30, .int .i64 ((rd_T25 l0 x4_1).f1)] (by rfl) rfl rfl (by (try simp only [List.map_toArray, List.map_cons, List.map_nil]); first | done | rfl | (simp only [List.length_drop, List.length_take]; rfl)) ?_
                                            with_reducible refine (supercargoref31_word.calls _ _ y105 ((rd_T25 l0 x4_1).f1) t109 _ ?side1 ?side2 A18.out).mono ?_
                                            (case side1 => repeat (first | exact (Kd.R_reads' HO107.out).2.2 | (with_reducible refine Kd.C_alloc ?_ _) | (with_reducible refine Kd.C_drewN ?_ _) | (with_reducible refine Kd.C_drew ?_)))
                                            (case side2 => exact (Kd.R_reads' HO107.out).2.1)
                                            rintro e w' ⟨rfl, ⟨nd, rfl⟩⟩
                                            refine ⟨_, rfl, ?_⟩
                                            refine hK.out _ _ ⟨((HB.out.cell (World.block_lt_of_cell? w _ hw108_0)).trans hw108_0), ((HB.out.cell (World.block_lt_of_cell? w _ hw108_1)).trans hw108_1), ((HB.out.cell (World.block_lt_of_cell? w _ hw108_2)).trans hw108_2), ((HB.out.cell (World.block_lt_of_cell? w _ hw108_3)).trans hw108_3), ((HB.out.cell (World.block_lt_of_cell? w _ hw113_0)).trans hw113_0), ((HB.out.cell (World.block_lt_of_cell? w _ hw113_1)).trans hw113_1), ((HB.out.cell (World.block_lt_of_cell? w _ hw113_2)).trans hw113_2), ((HB.out.cell (World.block_lt_of_cell? w _ hw113_3)).trans hw113_3)⟩ (fun hHeld => ?_)
                                            clear hK K
                                            refine norm_ (a' := ?_) ?_ ?_
                                            rotate_left
                                            · show Act.put _ (some 46) _ = _
                                              simp only [Act.put, List.setIfInBounds_toArray, List.set_cons_zero, List.set_cons_succ, i64_w, i32_w]
                                              rfl
                                            refine pure_ (i := 11) (N := some 47) (v := ?_) (a' := ?_) #[true, true, true, true, true, true, true, true, true, true, true, true, false, true, false, false, true, true, true, true, true, true, false, false, false] rfl rfl (any_of HT_.out (by kernel_rfl)) (fun _ _ _ h => h) (Or.inl ⟨by rfl, ?_⟩) ?_ ?_
                                            rotate_left
                                            · intro w'
                                              go_simp
                                              with_reducible rfl
                                            rotate_left
                                            · simp only [Act.put, List.setIfInBounds_toArray, List.set_cons_zero, List.set_cons_succ, i64_w, i32_w]
                                              rfl
                                            refine pure_ (i := 12) (N := some 48) (v := ?_) (a' := ?_) #[true, true, true, true, true, true, true, true, true, true, true, true, true, true, false, false, true, true, true, true, true, true, false, false, false] rfl rfl (any_of HT_.out (by kernel_rfl)) (fun _ _ _ h => h) (Or.inl ⟨by rfl, ?_⟩) ?_ ?_
                                            rotate_left
                                            · intro w'
                                              go_simp
                                              with_reducible rfl
                                            rotate_left
                                            · simp only [Act.put, List.setIfInBounds_toArray, List.set_cons_zero, List.set_cons_succ, i64_w, i32_w]
                                              rfl
                                            refine pure_ (i := 14) (N := some 50) (v := ?_) (a' := ?_) #[true, true, true, true, true, true, true, true, true, true, true, true, true, true, true, false, true, true, true, true, true, true, false, false, false] rfl rfl (any_of HT_.out (by kernel_rfl)) (fun _ _ _ h => h) (Or.inl ⟨by rfl, ?_⟩) ?_ ?_
                                            rotate_left
                                            · intro w'
                                              go_simp
                                              with_reducible rfl
                                            rotate_left
                                            · simp only [Act.put, List.setIfInBounds_toArray, List.set_cons_zero, List.set_cons_succ, i64_w, i32_w]
                                              rfl
                                            refine pure_ (i := 15) (N := some 51) (v := ?_) (a' := ?_) #[true, true, true, true, true, true, true, true, true, true, true, true, true, true, true, true, true, true, true, true, true, true, false, false, false] rfl rfl (any_of HT_.out (by kernel_rfl)) (fun _ _ _ h => h) (Or.inl ⟨by rfl, ?_⟩) ?_ ?_
                                            rotate_left
                                            · intro w'
                                              go_simp
                                              with_reducible rfl
                                            rotate_left
                                            · simp only [Act.put, List.setIfInBounds_toArray, List.set_cons_zero, List.set_cons_succ, i64_w, i32_w]
                                              rfl
                                            exact norm_ (by simp only [putAll, Act.put, List.setIfInBounds_toArray, List.set_cons_zero, List.set_cons_succ]) (hCont (.slice Ao30 y105.length co30, v111) _ ⟨hHeld, (by (with_reducible repeat (first | apply Kd.R_alloc | apply Kd.R_drewN | apply Kd.R_drew)); exact Kd.R_mono HO107.out (fun _ hk => hk.2)), (by (with_reducible repeat (first | apply Kd.R_alloc | apply Kd.R_drewN | apply Kd.R_drew)); exact Kd.R_mono HO112.out (fun _ hk => hk.2)), (by repeat (first | (with_reducible first | exact HB.out | apply below_alloc | apply pw_below_drewN | apply below_drew1) | exact HB.out))⟩)
                                        rintro ⟨v106, v111⟩ w31 ⟨hS_, h0_, h1_, h2_⟩
                                        have n0_ : Aside0 (Kd.R Kd.string 9 w31 w.heap.size (fun k_ => some k_ ≠ (v111 : Value).ownBlock) v106 y105) := ⟨h0_⟩
                                        have n1_ : Aside0 (Kd.R Kd.string 9 w31 w.heap.size (fun k_ => some k_ ≠ (v106 : Value).ownBlock) v111 y110) := ⟨h1_⟩
                                        have n2_ : Aside0 (Below w.heap.size w w31) := ⟨h2_⟩
                                        clear HB
                                        clear h0_ h1_ h2_
                                        have HO107 := n0_
                                        have HO112 := n1_
                                        have HB := n2_
                                        clear n0_ n1_ n2_
                                        have hHeld : w31.cell? (ad101.add ((x4_1).toNat * 4)) = some (.int .i64 ((rd_T25 l0 x4_1).f0)) ∧ w31.cell? ⟨(ad101.add ((x4_1).toNat * 4)).block, (ad101.add ((x4_1).toNat * 4)).off + 1, none⟩ = some (.int .i64 ((rd_T25 l0 x4_1).f1)) ∧ w31.cell? ⟨(ad101.add ((x4_1).toNat * 4)).block, (ad101.add ((x4_1).toNat * 4)).off + 2, none⟩ = some (.string ((rd_T25 l0 x4_1).f2)) ∧ w31.cell? ⟨(ad101.add ((x4_1).toNat * 4)).block, (ad101.add ((x4_1).toNat * 4)).off + 3, none⟩ = some (.int .i64 ((rd_T25 l0 x4_1).f3)) ∧ w31.cell? (ad101.add ((x4_1).toNat * 4)) = some (.int .i64 ((rd_T25 l0 x4_1).f0)) ∧ w31.cell? ⟨(ad101.add ((x4_1).toNat * 4)).block, (ad101.add ((x4_1).toNat * 4)).off + 1, none⟩ = some (.int .i64 ((rd_T25 l0 x4_1).f1)) ∧ w31.cell? ⟨(ad101.add ((x4_1).toNat * 4)).block, (ad101.add ((x4_1).toNat * 4)).off + 2, none⟩ = some (.string ((rd_T25 l0 x4_1).f2)) ∧ w31.cell? ⟨(ad101.add ((x4_1).toNat * 4)).block, (ad101.add ((x4_1).toNat * 4)).off + 3, none⟩ = some (.int .i64 ((rd_T25 l0 x4_1).f3)) := hS_
                                        obtain ⟨Ao32, co32, eo32⟩ := Kd.R_slice HO112.out
                                        (first | subst eo32 | (injection eo32 with f1_ f2_ f3_; have f4_ := f1_.symm; have f5_ := f3_.symm; clear f1_ f2_ f3_; subst f4_; subst f5_))
                                        refine norm_ (a' := ?_) ?_ ?_
                                        rotate_left
                                        · simp only [putAll, Act.put, List.setIfInBounds_toArray, List.set_cons_zero, List.set_cons_succ]
                                          rfl
                                        refine one_ (i := 22) (N := some 58) #[true, true, true, true, true, true, true, true, true, true, true, true, true, true, true, true, true, true, true, true, true, true, true, false, false] rfl rfl (one_of HT_.out (by kernel_rfl)) (by decide) (fun K hK => ?_)
                                        refine goes_ Tryd.func29 (by kernel_rfl) rfl #[.slice Ao32 y110.length co32, .int .i64 ((rd_T25 l0 x4_1).f3)] (by rfl) rfl rfl (by (try simp only [List.map_toArray, List.map_cons, List.map_nil]); first | done | rfl | (simp only [List.length_drop, List.length_take]; rfl)) ?_
                                        with_reducible refine (supercargoref31_word.calls _ _ y110 ((rd_T25 l0 x4_1).f3) t114 _ ?side1 ?side2 A23.out).mono ?_
                                        (case side1 => repeat (first | exact (Kd.R_reads' HO112.out).2.2 | (with_reducible refine Kd.C_alloc ?_ _) | (with_reducible refine Kd.C_drewN ?_ _) | (with_reducible refine Kd.C_drew ?_)))
                                        (case side2 => exact (Kd.R_reads' HO112.out).2.1)
                                        rintro e w' ⟨rfl, ⟨nd, rfl⟩⟩
                                        refine ⟨_, rfl, ?_⟩
                                        refine hK.out _ _ ⟨((HB.out.cell (World.block_lt_of_cell? w _ hw108_0)).trans hw108_0), ((HB.out.cell (World.block_lt_of_cell? w _ hw108_1)).trans hw108_1), ((HB.out.cell (World.block_lt_of_cell? w _ hw108_2)).trans hw108_2), ((HB.out.cell (World.block_lt_of_cell? w _ hw108_3)).trans hw108_3), ((HB.out.cell (World.block_lt_of_cell? w _ hw113_0)).trans hw113_0), ((HB.out.cell (World.block_lt_of_cell? w _ hw113_1)).trans hw113_1), ((HB.out.cell (World.block_lt_of_cell? w _ hw113_2)).trans hw113_2), ((HB.out.cell (World.block_lt_of_cell? w _ hw113_3)).trans hw113_3)⟩ (fun hHeld => ?_)
                                        clear hK K
                                        refine norm_ (a' := ?_) ?_ ?_
                                        rotate_left
                                        · show Act.put _ (some 58) _ = _
                                          simp only [Act.put, List.setIfInBounds_toArray, List.set_cons_zero, List.set_cons_succ, i64_w, i32_w]
                                          rfl
                                        refine pure_ (i := 23) (N := some 59) (v := ?_) (a' := ?_) #[true, true, true, true, true, true, true, true, true, true, true, true, true, true, true, true, true, true, true, true, true, true, true, true, false] rfl rfl (any_of HT_.out (by kernel_rfl)) (fun _ _ _ h => h) (Or.inl ⟨by rfl, ?_⟩) ?_ ?_
                                        rotate_left
                                        · intro w'
                                          go_simp
                                          with_reducible rfl
                                        rotate_left
                                        · simp only [Act.put, List.setIfInBounds_toArray, List.set_cons_zero, List.set_cons_succ, i64_w, i32_w]
                                          rfl
                                        refine pure_ (i := 24) (N := some 3) (v := ?_) (a' := ?_) #[true, true, true, true, true, true, true, true, true, true, true, true, true, true, true, true, true, true, true, true, true, true, true, true, true] rfl rfl (any_of HT_.out (by kernel_rfl)) (fun _ _ _ h => h) (Or.inl ⟨by rfl, ?_⟩) ?_ ?_
                                        rotate_left
                                        · intro w'
                                          go_simp
                                          with_reducible rfl
                                        rotate_left
                                        · simp only [Act.put, List.setIfInBounds_toArray, List.set_cons_zero, List.set_cons_succ, i64_w, i32_w]
                                          rfl
                                        refine done_ (done_of HT_.out (by kernel_rfl)) ?_
                                        try go_wp2
                                        go_roundg kj8
                                        case measure => have := HK1.out; have := HJ2.out; have := HJ8.out; omega
                                        case rel => exact ⟨(((((((x3_2 ++ x5_8) ++ (⟨#[32]⟩ : ByteArray)) ++ t109) ++ (⟨#[32]⟩ : ByteArray)) ++ (⟨#[45]⟩ : ByteArray)) ++ (⟨#[32]⟩ : ByteArray)) ++ t114), (wrap64 (x4_1 + 1)), (by first | rfl | (simp; done) | (simp [*]; done)), (by first | rfl | (simp; done) | (simp [*]; done)), H', ⟨by have := HK1.out; have := HJ2.out; have := HJ8.out; omega⟩, ⟨by repeat (first | (with_reducible first | exact HB.out | apply below_alloc | apply pw_below_drewN | apply below_drew1) | exact HB.out)⟩⟩
                                      · rw [if_neg c24] at H
                                        exact absurd H (by simp)
                                    · rw [if_neg c22] at H
                                      exact absurd H (by simp)
                                  · rw [if_neg c21] at H
                                    exact absurd H (by simp)
                                · rw [if_neg c20] at H
                                  exact absurd H (by simp)
                              · rw [if_neg c19] at H
                                exact absurd H (by simp)
                            · rw [if_neg c17] at H
                              exact absurd H (by simp)
                          · rw [if_neg c16] at H
                            exact absurd H (by simp)
                        · rw [if_neg c15] at H
                          exact absurd H (by simp)
                      · rw [if_neg c14] at H
                        exact absurd H (by simp)
                    · rw [if_neg c13] at H
                      have c13b0 : (((rd_T25 l0 x4_1).f2).toList == ([] : List UInt8)) = false := beq_eq_false_iff_ne.mpr c13
                      have c13b1 : (((rd_T25 l0 x4_1).f2).toList != ([] : List UInt8)) = true := bne_iff_ne.mpr c13
                      by_cases c33 : x3_2.size + x5_8.size ≤ 9223372036854775807
                      · rw [if_pos c33] at H
                        have c33b0 := eq_true c33
                        have c33b1 : decide (x3_2.size + x5_8.size ≤ 9223372036854775807) = true := decide_eq_true c33
                        try have c33b2 : (9223372036854775807 < x3_2.size + x5_8.size) = False := eq_false (Nat.not_lt.2 c33)
                        by_cases c34 : (x3_2 ++ x5_8).size + 1 ≤ 9223372036854775807
                        · rw [if_pos c34] at H
                          have c34b0 := eq_true c34
                          have c34b1 : decide ((x3_2 ++ x5_8).size + 1 ≤ 9223372036854775807) = true := decide_eq_true c34
                          try have c34b2 : (9223372036854775807 < (x3_2 ++ x5_8).size + 1) = False := eq_false (Nat.not_lt.2 c34)
                          obtain ⟨y115, hy115⟩ : ∃ y_ : List ByteArray, y_ = (([(⟨#[105, 110, 118, 111, 105, 99, 101]⟩ : ByteArray), (⟨#[112, 97, 99, 107, 105, 110, 103]⟩ : ByteArray), (⟨#[108, 97, 100, 105, 110, 103]⟩ : ByteArray), (⟨#[105, 110, 115, 117, 114, 97, 110, 99, 101]⟩ : ByteArray), (⟨#[111, 114, 105, 103, 105, 110]⟩ : ByteArray), (⟨#[100, 114, 97, 102, 116]⟩ : ByteArray)] : List ByteArray)) := ⟨_, rfl⟩
                          replace H : (if 0 ≤ x4_1 then (if x4_1 < (l0.length : Int) then ((supercargoref31_word.f y115 ((rd_T25 l0 x4_1).f1)).bind fun t119 => (if ((x3_2 ++ x5_8) ++ (⟨#[32]⟩ : ByteArray)).size + t119.size ≤ 9223372036854775807 then (if (((x3_2 ++ x5_8) ++ (⟨#[32]⟩ : ByteArray)) ++ t119).size + 1 ≤ 9223372036854775807 then (if ((((x3_2 ++ x5_8) ++ (⟨#[32]⟩ : ByteArray)) ++ t119) ++ (⟨#[32]⟩ : ByteArray)).size + ((rd_T25 l0 x4_1).f2).size ≤ 9223372036854775807 then (if (((((x3_2 ++ x5_8) ++ (⟨#[32]⟩ : ByteArray)) ++ t119) ++ (⟨#[32]⟩ : ByteArray)) ++ ((rd_T25 l0 x4_1).f2)).size + 1 ≤ 9223372036854775807 then ((supercargoref31_word.f (([(⟨#[102, 105, 110, 101]⟩ : ByteArray), (⟨#[108, 97, 99, 107, 115]⟩ : ByteArray), (⟨#[102, 97, 105, 108, 115]⟩ : ByteArray), (⟨#[117, 110, 108, 105, 107, 101]⟩ : ByteArray), (⟨#[108, 97, 116, 101]⟩ : ByteArray), (⟨#[109, 117, 99, 104]⟩ : ByteArray), (⟨#[102, 101, 119]⟩ : ByteArray)] : List ByteArray)) ((rd_T25 l0 x4_1).f3)).bind fun t124 => (if ((((((x3_2 ++ x5_8) ++ (⟨#[32]⟩ : ByteArray)) ++ t119) ++ (⟨#[32]⟩ : ByteArray)) ++ ((rd_T25 l0 x4_1).f2)) ++ (⟨#[32]⟩ : ByteArray)).size + t124.size ≤ 9223372036854775807 then (supercargoref31_Text.l0 kj8 l0 (((((((x3_2 ++ x5_8) ++ (⟨#[32]⟩ : ByteArray)) ++ t119) ++ (⟨#[32]⟩ : ByteArray)) ++ ((rd_T25 l0 x4_1).f2)) ++ (⟨#[32]⟩ : ByteArray)) ++ t124) (wrap64 (x4_1 + 1))) else (none))) else (none)) else (none)) else (none)) else (none))) else (none)) else (none)) = some r := by first | (rw [hy115]; with_reducible exact H) | (have H2_ := (Option.bind_some _ _).symm.trans H; rw [hy115]; with_reducible exact H2_) | (have H2_ := (Option.bind_some _ _).symm.trans H; with_reducible exact H2_) | with_reducible exact H | (rw [hy115]; exact H) | exact H
                          have Ny115 := Aside0.mk hy115
                          clear hy115
                          by_cases c35 : 0 ≤ x4_1
                          · rw [if_pos c35] at H
                            have c35b0 : decide (0 ≤ x4_1) = true := decide_eq_true c35
                            clear c35
                            by_cases c36 : x4_1 < (l0.length : Int)
                            · rw [if_pos c36] at H
                              have c36b0 : decide (x4_1 < (l0.length : Int)) = true := decide_eq_true c36
                              clear c36
                              replace H := Option.bind_eq_some_iff.mp H
                              obtain ⟨t119, A370, H⟩ := H
                              replace H : (if ((x3_2 ++ x5_8) ++ (⟨#[32]⟩ : ByteArray)).size + t119.size ≤ 9223372036854775807 then (if (((x3_2 ++ x5_8) ++ (⟨#[32]⟩ : ByteArray)) ++ t119).size + 1 ≤ 9223372036854775807 then (if ((((x3_2 ++ x5_8) ++ (⟨#[32]⟩ : ByteArray)) ++ t119) ++ (⟨#[32]⟩ : ByteArray)).size + ((rd_T25 l0 x4_1).f2).size ≤ 9223372036854775807 then (if (((((x3_2 ++ x5_8) ++ (⟨#[32]⟩ : ByteArray)) ++ t119) ++ (⟨#[32]⟩ : ByteArray)) ++ ((rd_T25 l0 x4_1).f2)).size + 1 ≤ 9223372036854775807 then ((supercargoref31_word.f (([(⟨#[102, 105, 110, 101]⟩ : ByteArray), (⟨#[108, 97, 99, 107, 115]⟩ : ByteArray), (⟨#[102, 97, 105, 108, 115]⟩ : ByteArray), (⟨#[117, 110, 108, 105, 107, 101]⟩ : ByteArray), (⟨#[108, 97, 116, 101]⟩ : ByteArray), (⟨#[109, 117, 99, 104]⟩ : ByteArray), (⟨#[102, 101, 119]⟩ : ByteArray)] : List ByteArray)) ((rd_T25 l0 x4_1).f3)).bind fun t124 => (if ((((((x3_2 ++ x5_8) ++ (⟨#[32]⟩ : ByteArray)) ++ t119) ++ (⟨#[32]⟩ : ByteArray)) ++ ((rd_T25 l0 x4_1).f2)) ++ (⟨#[32]⟩ : ByteArray)).size + t124.size ≤ 9223372036854775807 then (supercargoref31_Text.l0 kj8 l0 (((((((x3_2 ++ x5_8) ++ (⟨#[32]⟩ : ByteArray)) ++ t119) ++ (⟨#[32]⟩ : ByteArray)) ++ ((rd_T25 l0 x4_1).f2)) ++ (⟨#[32]⟩ : ByteArray)) ++ t124) (wrap64 (x4_1 + 1))) else (none))) else (none)) else (none)) else (none)) else (none)) = some r := H
                              have A37 := Aside0.mk A370
                              clear A370
                              by_cases c38 : ((x3_2 ++ x5_8) ++ (⟨#[32]⟩ : ByteArray)).size + t119.size ≤ 9223372036854775807
                              · rw [if_pos c38] at H
                                have c38b0 := eq_true c38
                                have c38b1 : decide (((x3_2 ++ x5_8) ++ (⟨#[32]⟩ : ByteArray)).size + t119.size ≤ 9223372036854775807) = true := decide_eq_true c38
                                try have c38b2 : (9223372036854775807 < ((x3_2 ++ x5_8) ++ (⟨#[32]⟩ : ByteArray)).size + t119.size) = False := eq_false (Nat.not_lt.2 c38)
                                by_cases c39 : (((x3_2 ++ x5_8) ++ (⟨#[32]⟩ : ByteArray)) ++ t119).size + 1 ≤ 9223372036854775807
                                · rw [if_pos c39] at H
                                  have c39b0 := eq_true c39
                                  have c39b1 : decide ((((x3_2 ++ x5_8) ++ (⟨#[32]⟩ : ByteArray)) ++ t119).size + 1 ≤ 9223372036854775807) = true := decide_eq_true c39
                                  try have c39b2 : (9223372036854775807 < (((x3_2 ++ x5_8) ++ (⟨#[32]⟩ : ByteArray)) ++ t119).size + 1) = False := eq_false (Nat.not_lt.2 c39)
                                  by_cases c40 : ((((x3_2 ++ x5_8) ++ (⟨#[32]⟩ : ByteArray)) ++ t119) ++ (⟨#[32]⟩ : ByteArray)).size + ((rd_T25 l0 x4_1).f2).size ≤ 9223372036854775807
                                  · rw [if_pos c40] at H
                                    have c40b0 := eq_true c40
                                    have c40b1 : decide (((((x3_2 ++ x5_8) ++ (⟨#[32]⟩ : ByteArray)) ++ t119) ++ (⟨#[32]⟩ : ByteArray)).size + ((rd_T25 l0 x4_1).f2).size ≤ 9223372036854775807) = true := decide_eq_true c40
                                    try have c40b2 : (9223372036854775807 < ((((x3_2 ++ x5_8) ++ (⟨#[32]⟩ : ByteArray)) ++ t119) ++ (⟨#[32]⟩ : ByteArray)).size + ((rd_T25 l0 x4_1).f2).size) = False := eq_false (Nat.not_lt.2 c40)
                                    by_cases c41 : (((((x3_2 ++ x5_8) ++ (⟨#[32]⟩ : ByteArray)) ++ t119) ++ (⟨#[32]⟩ : ByteArray)) ++ ((rd_T25 l0 x4_1).f2)).size + 1 ≤ 9223372036854775807
                                    · rw [if_pos c41] at H
                                      have c41b0 := eq_true c41
                                      have c41b1 : decide ((((((x3_2 ++ x5_8) ++ (⟨#[32]⟩ : ByteArray)) ++ t119) ++ (⟨#[32]⟩ : ByteArray)) ++ ((rd_T25 l0 x4_1).f2)).size + 1 ≤ 9223372036854775807) = true := decide_eq_true c41
                                      try have c41b2 : (9223372036854775807 < (((((x3_2 ++ x5_8) ++ (⟨#[32]⟩ : ByteArray)) ++ t119) ++ (⟨#[32]⟩ : ByteArray)) ++ ((rd_T25 l0 x4_1).f2)).size + 1) = False := eq_false (Nat.not_lt.2 c41)
                                      obtain ⟨y120, hy120⟩ : ∃ y_ : List ByteArray, y_ = (([(⟨#[102, 105, 110, 101]⟩ : ByteArray), (⟨#[108, 97, 99, 107, 115]⟩ : ByteArray), (⟨#[102, 97, 105, 108, 115]⟩ : ByteArray), (⟨#[117, 110, 108, 105, 107, 101]⟩ : ByteArray), (⟨#[108, 97, 116, 101]⟩ : ByteArray), (⟨#[109, 117, 99, 104]⟩ : ByteArray), (⟨#[102, 101, 119]⟩ : ByteArray)] : List ByteArray)) := ⟨_, rfl⟩
                                      replace H : ((supercargoref31_word.f y120 ((rd_T25 l0 x4_1).f3)).bind fun t124 => (if ((((((x3_2 ++ x5_8) ++ (⟨#[32]⟩ : ByteArray)) ++ t119) ++ (⟨#[32]⟩ : ByteArray)) ++ ((rd_T25 l0 x4_1).f2)) ++ (⟨#[32]⟩ : ByteArray)).size + t124.size ≤ 9223372036854775807 then (supercargoref31_Text.l0 kj8 l0 (((((((x3_2 ++ x5_8) ++ (⟨#[32]⟩ : ByteArray)) ++ t119) ++ (⟨#[32]⟩ : ByteArray)) ++ ((rd_T25 l0 x4_1).f2)) ++ (⟨#[32]⟩ : ByteArray)) ++ t124) (wrap64 (x4_1 + 1))) else (none))) = some r := by first | (rw [hy120]; with_reducible exact H) | (have H2_ := (Option.bind_some _ _).symm.trans H; rw [hy120]; with_reducible exact H2_) | (have H2_ := (Option.bind_some _ _).symm.trans H; with_reducible exact H2_) | with_reducible exact H | (rw [hy120]; exact H) | exact H
                                      have Ny120 := Aside0.mk hy120
                                      clear hy120
                                      replace H := Option.bind_eq_some_iff.mp H
                                      obtain ⟨t124, A420, H⟩ := H
                                      replace H : (if ((((((x3_2 ++ x5_8) ++ (⟨#[32]⟩ : ByteArray)) ++ t119) ++ (⟨#[32]⟩ : ByteArray)) ++ ((rd_T25 l0 x4_1).f2)) ++ (⟨#[32]⟩ : ByteArray)).size + t124.size ≤ 9223372036854775807 then (supercargoref31_Text.l0 kj8 l0 (((((((x3_2 ++ x5_8) ++ (⟨#[32]⟩ : ByteArray)) ++ t119) ++ (⟨#[32]⟩ : ByteArray)) ++ ((rd_T25 l0 x4_1).f2)) ++ (⟨#[32]⟩ : ByteArray)) ++ t124) (wrap64 (x4_1 + 1))) else (none)) = some r := H
                                      have A42 := Aside0.mk A420
                                      clear A420
                                      by_cases c43 : ((((((x3_2 ++ x5_8) ++ (⟨#[32]⟩ : ByteArray)) ++ t119) ++ (⟨#[32]⟩ : ByteArray)) ++ ((rd_T25 l0 x4_1).f2)) ++ (⟨#[32]⟩ : ByteArray)).size + t124.size ≤ 9223372036854775807
                                      · rw [if_pos c43] at H
                                        have c43b0 := eq_true c43
                                        have c43b1 : decide (((((((x3_2 ++ x5_8) ++ (⟨#[32]⟩ : ByteArray)) ++ t119) ++ (⟨#[32]⟩ : ByteArray)) ++ ((rd_T25 l0 x4_1).f2)) ++ (⟨#[32]⟩ : ByteArray)).size + t124.size ≤ 9223372036854775807) = true := decide_eq_true c43
                                        have kb0 := of_decide_eq_true c43b1
                                        simp only [ByteArray.size_append, show ((⟨#[32]⟩ : ByteArray)).size = 1 from rfl, show ((⟨#[45]⟩ : ByteArray)).size = 1 from rfl] at kb0
                                        have kb1 : ¬ 9223372036854775807 < x3_2.size + x5_8.size + 1 := by omega
                                        have kb2 : ¬ 9223372036854775807 < x3_2.size + x5_8.size + 1 + t119.size := by omega
                                        have kb3 : ¬ 9223372036854775807 < x3_2.size + x5_8.size + 1 + t119.size + 1 := by omega
                                        have kb4 : ¬ 9223372036854775807 < x3_2.size + x5_8.size + 1 + t119.size + 1 + ((rd_T25 l0 x4_1).f2).size := by omega
                                        have kb5 : ¬ 9223372036854775807 < x3_2.size + x5_8.size + 1 + t119.size + 1 + ((rd_T25 l0 x4_1).f2).size + 1 := by omega
                                        have kb6 : ¬ 9223372036854775807 < x3_2.size + x5_8.size + 1 + t119.size + 1 + ((rd_T25 l0 x4_1).f2).size + 1 + t124.size := by omega
                                        clear kb0
                                        try have c43b2 : (9223372036854775807 < ((((((x3_2 ++ x5_8) ++ (⟨#[32]⟩ : ByteArray)) ++ t119) ++ (⟨#[32]⟩ : ByteArray)) ++ ((rd_T25 l0 x4_1).f2)) ++ (⟨#[32]⟩ : ByteArray)).size + t124.size) = False := eq_false (Nat.not_lt.2 c43)
                                        have H' := Aside0.mk H
                                        clear H
                                        try go_wp2
                                        have n0_ := Aside0.mk (below_drew1 HB.out)
                                        clear HB
                                        have HB := n0_
                                        clear n0_
                                        have p118 : 0 ≤ (x4_1 : Int) := of_decide_eq_true (by first | (with_reducible assumption) | assumption)
                                        have q118 : x4_1 < (l0.length : Int) := of_decide_eq_true (by first | (with_reducible assumption) | assumption)
                                        obtain ⟨ad118, e118, hx118_0, hx118_1, hx118_2, hx118_3⟩ := at_T25 HR0.out x4_1 p118 q118
                                        have hw118_3 := hx118_3
                                        have hw118_2 := hx118_2
                                        have hw118_1 := hx118_1
                                        have hw118_0 := hx118_0
                                        obtain rfl : ad101 = ad118 := (by injection e118)
                                        replace hx118_0 := (HB.out.cell (World.block_lt_of_cell? w _ hx118_0)).trans hx118_0
                                        replace hx118_1 := (HB.out.cell (World.block_lt_of_cell? w _ hx118_1)).trans hx118_1
                                        replace hx118_2 := (HB.out.cell (World.block_lt_of_cell? w _ hx118_2)).trans hx118_2
                                        replace hx118_3 := (HB.out.cell (World.block_lt_of_cell? w _ hx118_3)).trans hx118_3
                                        replace p118 := eq_true p118
                                        replace q118 := eq_true q118
                                        have p123 : 0 ≤ (x4_1 : Int) := of_decide_eq_true (by first | (with_reducible assumption) | assumption)
                                        have q123 : x4_1 < (l0.length : Int) := of_decide_eq_true (by first | (with_reducible assumption) | assumption)
                                        obtain ⟨ad123, e123, hx123_0, hx123_1, hx123_2, hx123_3⟩ := at_T25 HR0.out x4_1 p123 q123
                                        have hw123_3 := hx123_3
                                        have hw123_2 := hx123_2
                                        have hw123_1 := hx123_1
                                        have hw123_0 := hx123_0
                                        obtain rfl : ad101 = ad123 := (by injection e123)
                                        replace hx123_0 := (HB.out.cell (World.block_lt_of_cell? w _ hx123_0)).trans hx123_0
                                        replace hx123_1 := (HB.out.cell (World.block_lt_of_cell? w _ hx123_1)).trans hx123_1
                                        replace hx123_2 := (HB.out.cell (World.block_lt_of_cell? w _ hx123_2)).trans hx123_2
                                        replace hx123_3 := (HB.out.cell (World.block_lt_of_cell? w _ hx123_3)).trans hx123_3
                                        replace p123 := eq_true p123
                                        replace q123 := eq_true q123
                                        refine start_ (n := 25) (S := fun w' => w'.cell? (ad101.add ((x4_1).toNat * 4)) = some (.int .i64 ((rd_T25 l0 x4_1).f0)) ∧ w'.cell? ⟨(ad101.add ((x4_1).toNat * 4)).block, (ad101.add ((x4_1).toNat * 4)).off + 1, none⟩ = some (.int .i64 ((rd_T25 l0 x4_1).f1)) ∧ w'.cell? ⟨(ad101.add ((x4_1).toNat * 4)).block, (ad101.add ((x4_1).toNat * 4)).off + 2, none⟩ = some (.string ((rd_T25 l0 x4_1).f2)) ∧ w'.cell? ⟨(ad101.add ((x4_1).toNat * 4)).block, (ad101.add ((x4_1).toNat * 4)).off + 3, none⟩ = some (.int .i64 ((rd_T25 l0 x4_1).f3)) ∧ w'.cell? (ad101.add ((x4_1).toNat * 4)) = some (.int .i64 ((rd_T25 l0 x4_1).f0)) ∧ w'.cell? ⟨(ad101.add ((x4_1).toNat * 4)).block, (ad101.add ((x4_1).toNat * 4)).off + 1, none⟩ = some (.int .i64 ((rd_T25 l0 x4_1).f1)) ∧ w'.cell? ⟨(ad101.add ((x4_1).toNat * 4)).block, (ad101.add ((x4_1).toNat * 4)).off + 2, none⟩ = some (.string ((rd_T25 l0 x4_1).f2)) ∧ w'.cell? ⟨(ad101.add ((x4_1).toNat * 4)).block, (ad101.add ((x4_1).toNat * 4)).off + 3, none⟩ = some (.int .i64 ((rd_T25 l0 x4_1).f3))) (ds := []) #[false, false, false, false, false, false, false, false, false, false, false, false, false, false, false, false, false, false, false, false, false, false, false, false, false] (by kernel_rfl) rfl rfl ⟨((HB.out.cell (World.block_lt_of_cell? w _ hw118_0)).trans hw118_0), ((HB.out.cell (World.block_lt_of_cell? w _ hw118_1)).trans hw118_1), ((HB.out.cell (World.block_lt_of_cell? w _ hw118_2)).trans hw118_2), ((HB.out.cell (World.block_lt_of_cell? w _ hw118_3)).trans hw118_3), ((HB.out.cell (World.block_lt_of_cell? w _ hw123_0)).trans hw123_0), ((HB.out.cell (World.block_lt_of_cell? w _ hw123_1)).trans hw123_1), ((HB.out.cell (World.block_lt_of_cell? w _ hw123_2)).trans hw123_2), ((HB.out.cell (World.block_lt_of_cell? w _ hw123_3)).trans hw123_3)⟩ (fun hHeld => ?_); refine with_tabW supercargoref31_Text.tab12 supercargoref31_Text.bits12 (fun HT_ HW_ => ?_)
                                        generalize wc.drew = w44 at HB hx118_0 hx118_1 hx118_2 hx118_3 hx123_0 hx123_1 hx123_2 hx123_3 hHeld ⊢
                                        refine pure_ (i := 0) (N := some 36) (v := ?_) (a' := ?_) #[true, false, false, false, false, false, false, false, false, false, false, false, false, false, false, false, false, false, false, false, false, false, false, false, false] rfl rfl (any_of HT_.out (by kernel_rfl)) (fun _ _ _ h => h) (Or.inl ⟨by rfl, ?_⟩) ?_ ?_
                                        rotate_left
                                        · intro w'
                                          go_simp
                                          with_reducible rfl
                                        rotate_left
                                        · simp only [Act.put, List.setIfInBounds_toArray, List.set_cons_zero, List.set_cons_succ, i64_w, i32_w]
                                          rfl
                                        refine pure_ (i := 1) (N := some 37) (v := ?_) (a' := ?_) #[true, true, false, false, false, false, false, false, false, false, false, false, false, false, false, false, false, false, false, false, false, false, false, false, false] rfl rfl (any_of HT_.out (by kernel_rfl)) (fun _ _ _ h => h) (Or.inl ⟨by rfl, ?_⟩) ?_ ?_
                                        rotate_left
                                        · intro w'
                                          go_simp
                                          with_reducible rfl
                                        rotate_left
                                        · simp only [Act.put, List.setIfInBounds_toArray, List.set_cons_zero, List.set_cons_succ, i64_w, i32_w]
                                          rfl
                                        refine pure_ (i := 2) (N := some 38) (v := ?_) (a' := ?_) #[true, true, true, false, false, false, false, false, false, false, false, false, false, false, false, false, false, false, false, false, false, false, false, false, false] rfl rfl (any_of HT_.out (by kernel_rfl)) (fun _ _ _ h => h) (Or.inl ⟨by rfl, ?_⟩) ?_ ?_
                                        rotate_left
                                        · intro w'
                                          go_simp
                                          with_reducible rfl
                                        rotate_left
                                        · simp only [Act.put, List.setIfInBounds_toArray, List.set_cons_zero, List.set_cons_succ, i64_w, i32_w]
                                          rfl
                                        refine pure_ (i := 3) (N := some 39) (v := ?_) (a' := ?_) #[true, true, true, true, false, false, false, false, false, false, false, false, false, false, false, false, false, false, false, false, false, false, false, false, false] rfl rfl (any_of HT_.out (by kernel_rfl)) (fun _ _ _ h => h) (Or.inl ⟨by rfl, ?_⟩) ?_ ?_
                                        rotate_left
                                        · intro w'
                                          go_simp
                                          with_reducible rfl
                                        rotate_left
                                        · simp only [Act.put, List.setIfInBounds_toArray, List.set_cons_zero, List.set_cons_succ, i64_w, i32_w]
                                          rfl
                                        refine pure_ (i := 5) (N := some 41) (v := ?_) (a' := ?_) #[true, true, true, true, false, true, false, false, false, false, false, false, false, false, false, false, false, false, false, false, false, false, false, false, false] rfl rfl (any_of HT_.out (by kernel_rfl)) (fun _ _ _ h => h) (Or.inl ⟨by rfl, ?_⟩) ?_ ?_
                                        rotate_left
                                        · intro w'
                                          go_simp
                                          with_reducible rfl
                                        rotate_left
                                        · simp only [Act.put, List.setIfInBounds_toArray, List.set_cons_zero, List.set_cons_succ, i64_w, i32_w]
                                          rfl
                                        refine pure_ (i := 6) (N := some 42) (v := ?_) (a' := ?_) #[true, true, true, true, false, true, true, false, false, false, false, false, false, false, false, false, false, false, false, false, false, false, false, false, false] rfl rfl (any_of HT_.out (by kernel_rfl)) (fun _ _ _ h => h) (Or.inl ⟨by rfl, ?_⟩) ?_ ?_
                                        rotate_left
                                        · intro w'
                                          go_simp
                                          with_reducible rfl
                                        rotate_left
                                        · simp only [Act.put, List.setIfInBounds_toArray, List.set_cons_zero, List.set_cons_succ, i64_w, i32_w]
                                          rfl
                                        refine pure_ (i := 7) (N := some 43) (v := ?_) (a' := ?_) #[true, true, true, true, false, true, true, true, false, false, false, false, false, false, false, false, false, false, false, false, false, false, false, false, false] rfl rfl (any_of HT_.out (by kernel_rfl)) (fun _ _ _ h => h) (Or.inl ⟨by rfl, ?_⟩) ?_ ?_
                                        rotate_left
                                        · intro w'
                                          go_simp
                                          with_reducible rfl
                                        rotate_left
                                        · simp only [Act.put, List.setIfInBounds_toArray, List.set_cons_zero, List.set_cons_succ, i64_w, i32_w]
                                          rfl
                                        refine pure_ (i := 8) (N := some 44) (v := ?_) (a' := ?_) #[true, true, true, true, false, true, true, true, true, false, false, false, false, false, false, false, false, false, false, false, false, false, false, false, false] rfl rfl (any_of HT_.out (by kernel_rfl)) (fun _ _ _ h => h) (Or.inl ⟨by rfl, ?_⟩) ?_ ?_
                                        rotate_left
                                        · intro w'
                                          go_simp
                                          with_reducible rfl
                                        rotate_left
                                        · simp only [Act.put, List.setIfInBounds_toArray, List.set_cons_zero, List.set_cons_succ, i64_w, i32_w]
                                          rfl
                                        refine pure_ (i := 13) (N := some 49) (v := ?_) (a' := ?_) #[true, true, true, true, false, true, true, true, true, false, false, false, false, true, false, false, false, false, false, false, false, false, false, false, false] rfl rfl (any_of HT_.out (by kernel_rfl)) (fun _ _ _ h => h) (Or.inl ⟨by rfl, ?_⟩) ?_ ?_
                                        rotate_left
                                        · intro w'
                                          go_simp
                                          with_reducible rfl
                                        rotate_left
                                        · simp only [Act.put, List.setIfInBounds_toArray, List.set_cons_zero, List.set_cons_succ, i64_w, i32_w]
                                          rfl
                                        refine pure_ (i := 17) (N := some 53) (v := ?_) (a' := ?_) #[true, true, true, true, false, true, true, true, true, false, false, false, false, true, false, false, false, true, false, false, false, false, false, false, false] rfl rfl (any_of HT_.out (by kernel_rfl)) (fun _ _ _ h => h) (Or.inl ⟨by rfl, ?_⟩) ?_ ?_
                                        rotate_left
                                        · intro w'
                                          go_simp
                                          with_reducible rfl
                                        rotate_left
                                        · simp only [Act.put, List.setIfInBounds_toArray, List.set_cons_zero, List.set_cons_succ, i64_w, i32_w]
                                          rfl
                                        refine pure_ (i := 18) (N := some 54) (v := ?_) (a' := ?_) #[true, true, true, true, false, true, true, true, true, false, false, false, false, true, false, false, false, true, true, false, false, false, false, false, false] rfl rfl (any_of HT_.out (by kernel_rfl)) (fun _ _ _ h => h) (Or.inl ⟨by rfl, ?_⟩) ?_ ?_
                                        rotate_left
                                        · intro w'
                                          go_simp
                                          with_reducible rfl
                                        rotate_left
                                        · simp only [Act.put, List.setIfInBounds_toArray, List.set_cons_zero, List.set_cons_succ, i64_w, i32_w]
                                          rfl
                                        refine pure_ (i := 19) (N := some 55) (v := ?_) (a' := ?_) #[true, true, true, true, false, true, true, true, true, false, false, false, false, true, false, false, false, true, true, true, false, false, false, false, false] rfl rfl (any_of HT_.out (by kernel_rfl)) (fun _ _ _ h => h) (Or.inl ⟨by rfl, ?_⟩) ?_ ?_
                                        rotate_left
                                        · intro w'
                                          go_simp
                                          with_reducible rfl
                                        rotate_left
                                        · simp only [Act.put, List.setIfInBounds_toArray, List.set_cons_zero, List.set_cons_succ, i64_w, i32_w]
                                          rfl
                                        refine pure_ (i := 20) (N := some 56) (v := ?_) (a' := ?_) #[true, true, true, true, false, true, true, true, true, false, false, false, false, true, false, false, false, true, true, true, true, false, false, false, false] rfl rfl (any_of HT_.out (by kernel_rfl)) (fun _ _ _ h => h) (Or.inl ⟨by rfl, ?_⟩) ?_ ?_
                                        rotate_left
                                        · intro w'
                                          go_simp
                                          with_reducible rfl
                                        rotate_left
                                        · simp only [Act.put, List.setIfInBounds_toArray, List.set_cons_zero, List.set_cons_succ, i64_w, i32_w]
                                          rfl
                                        refine take_ (i := 9) (N := some 45) (v := ?_) (a' := ?_) #[true, true, true, true, false, true, true, true, true, true, false, false, false, true, false, false, false, true, true, true, true, false, false, false, false] rfl rfl (take_ofW HT_.out HW_.out (by kernel_rfl)) (fun _ _ _ h => h) (Or.inl ⟨by rfl, ?_⟩) hHeld ?_ ?_
                                        rotate_left
                                        · rintro w' ⟨s0, s1, s2, s3, s4, s5, s6, s7⟩
                                          go_simp
                                          with_reducible rfl
                                        rotate_left
                                        · simp only [Act.put, List.setIfInBounds_toArray, List.set_cons_zero, List.set_cons_succ, i64_w, i32_w]
                                          rfl
                                        refine take_ (i := 21) (N := some 57) (v := ?_) (a' := ?_) #[true, true, true, true, false, true, true, true, true, true, false, false, false, true, false, false, false, true, true, true, true, true, false, false, false] rfl rfl (take_ofW HT_.out HW_.out (by kernel_rfl)) (fun _ _ _ h => h) (Or.inl ⟨by rfl, ?_⟩) hHeld ?_ ?_
                                        rotate_left
                                        · rintro w' ⟨s0, s1, s2, s3, s4, s5, s6, s7⟩
                                          go_simp
                                          with_reducible rfl
                                        rotate_left
                                        · simp only [Act.put, List.setIfInBounds_toArray, List.set_cons_zero, List.set_cons_succ, i64_w, i32_w]
                                          rfl
                                        refine join_ (σ := Value × Value) 3 #[true, true, true, true, true, true, true, true, true, true, true, true, true, true, true, true, true, true, true, true, true, true, false, false, false] (fun s_ => [(40, s_.1), (46, .string t119), (52, s_.2), (47, .string (((x3_2 ++ x5_8) ++ (⟨#[32]⟩ : ByteArray)) ++ t119)), (48, .string ((((x3_2 ++ x5_8) ++ (⟨#[32]⟩ : ByteArray)) ++ t119) ++ (⟨#[32]⟩ : ByteArray))), (50, .string (((((x3_2 ++ x5_8) ++ (⟨#[32]⟩ : ByteArray)) ++ t119) ++ (⟨#[32]⟩ : ByteArray)) ++ ((rd_T25 l0 x4_1).f2))), (51, .string ((((((x3_2 ++ x5_8) ++ (⟨#[32]⟩ : ByteArray)) ++ t119) ++ (⟨#[32]⟩ : ByteArray)) ++ ((rd_T25 l0 x4_1).f2)) ++ (⟨#[32]⟩ : ByteArray)))]) (fun s_ w' => (w'.cell? (ad101.add ((x4_1).toNat * 4)) = some (.int .i64 ((rd_T25 l0 x4_1).f0)) ∧ w'.cell? ⟨(ad101.add ((x4_1).toNat * 4)).block, (ad101.add ((x4_1).toNat * 4)).off + 1, none⟩ = some (.int .i64 ((rd_T25 l0 x4_1).f1)) ∧ w'.cell? ⟨(ad101.add ((x4_1).toNat * 4)).block, (ad101.add ((x4_1).toNat * 4)).off + 2, none⟩ = some (.string ((rd_T25 l0 x4_1).f2)) ∧ w'.cell? ⟨(ad101.add ((x4_1).toNat * 4)).block, (ad101.add ((x4_1).toNat * 4)).off + 3, none⟩ = some (.int .i64 ((rd_T25 l0 x4_1).f3)) ∧ w'.cell? (ad101.add ((x4_1).toNat * 4)) = some (.int .i64 ((rd_T25 l0 x4_1).f0)) ∧ w'.cell? ⟨(ad101.add ((x4_1).toNat * 4)).block, (ad101.add ((x4_1).toNat * 4)).off + 1, none⟩ = some (.int .i64 ((rd_T25 l0 x4_1).f1)) ∧ w'.cell? ⟨(ad101.add ((x4_1).toNat * 4)).block, (ad101.add ((x4_1).toNat * 4)).off + 2, none⟩ = some (.string ((rd_T25 l0 x4_1).f2)) ∧ w'.cell? ⟨(ad101.add ((x4_1).toNat * 4)).block, (ad101.add ((x4_1).toNat * 4)).off + 3, none⟩ = some (.int .i64 ((rd_T25 l0 x4_1).f3))) ∧ (Kd.R Kd.string 9 w' w.heap.size (fun k_ => some k_ ≠ (s_.2 : Value).ownBlock) s_.1 y115) ∧ (Kd.R Kd.string 9 w' w.heap.size (fun k_ => some k_ ≠ (s_.1 : Value).ownBlock) s_.2 y120) ∧ (Below w.heap.size w w')) ?_ ?_
                                        rotate_left
                                        · intro hCont
                                          refine two_ (i := 4) (j := 16) (Ni := some 40) (Nj := some 52) #[true, true, true, true, true, true, true, true, true, true, false, false, false, true, false, false, false, true, true, true, true, true, false, false, false] #[true, true, true, true, false, true, true, true, true, true, false, false, false, true, false, false, true, true, true, true, true, true, false, false, false] rfl rfl rfl rfl (two_of HT_.out (by kernel_rfl)) (by decide) (by decide) (fun K hK => ?_) (fun K hK => ?_)
                                          · skip
                                            refine Kd.R_lit_step Kd.string _ 9 ?hg (N := 40) ?hd (xs := ([(⟨#[105, 110, 118, 111, 105, 99, 101]⟩ : ByteArray), (⟨#[112, 97, 99, 107, 105, 110, 103]⟩ : ByteArray), (⟨#[108, 97, 100, 105, 110, 103]⟩ : ByteArray), (⟨#[105, 110, 115, 117, 114, 97, 110, 99, 101]⟩ : ByteArray), (⟨#[111, 114, 105, 103, 105, 110]⟩ : ByteArray), (⟨#[100, 114, 97, 102, 116]⟩ : ByteArray)] : List ByteArray)) (inner := [.string (⟨#[105, 110, 118, 111, 105, 99, 101]⟩ : ByteArray), .string (⟨#[112, 97, 99, 107, 105, 110, 103]⟩ : ByteArray), .string (⟨#[108, 97, 100, 105, 110, 103]⟩ : ByteArray), .string (⟨#[105, 110, 115, 117, 114, 97, 110, 99, 101]⟩ : ByteArray), .string (⟨#[111, 114, 105, 103, 105, 110]⟩ : ByteArray), .string (⟨#[100, 114, 97, 102, 116]⟩ : ByteArray)]) (ok := fun _ => True) (okp := fun _ => True) ?hr ?hp (fun _ hk => hk) trivial (Below.refl _ _) (Nat.le_refl _) (by simp) ?_; (case hd => rfl); (case hg => rfl); (case hr => first | (go_simp; done) | (go_simp; rfl)); (case hp => exact (Reps.one (show Kd.M Kd.string _ _ _ (⟨#[105, 110, 118, 111, 105, 99, 101]⟩ : ByteArray) [.string (⟨#[105, 110, 118, 111, 105, 99, 101]⟩ : ByteArray)] from rfl) (Reps.one (show Kd.M Kd.string _ _ _ (⟨#[112, 97, 99, 107, 105, 110, 103]⟩ : ByteArray) [.string (⟨#[112, 97, 99, 107, 105, 110, 103]⟩ : ByteArray)] from rfl) (Reps.one (show Kd.M Kd.string _ _ _ (⟨#[108, 97, 100, 105, 110, 103]⟩ : ByteArray) [.string (⟨#[108, 97, 100, 105, 110, 103]⟩ : ByteArray)] from rfl) (Reps.one (show Kd.M Kd.string _ _ _ (⟨#[105, 110, 115, 117, 114, 97, 110, 99, 101]⟩ : ByteArray) [.string (⟨#[105, 110, 115, 117, 114, 97, 110, 99, 101]⟩ : ByteArray)] from rfl) (Reps.one (show Kd.M Kd.string _ _ _ (⟨#[111, 114, 105, 103, 105, 110]⟩ : ByteArray) [.string (⟨#[111, 114, 105, 103, 105, 110]⟩ : ByteArray)] from rfl) (Reps.one (show Kd.M Kd.string _ _ _ (⟨#[100, 114, 97, 102, 116]⟩ : ByteArray) [.string (⟨#[100, 114, 97, 102, 116]⟩ : ByteArray)] from rfl) (Reps.none _ _))))))))
                                            intro v116 w45 ho46 hb hg_ hnew_
                                            clear hg_ hnew_
                                            (first | rw [← Ny115.out] at ho46 | (simp only [Int.reduceToNat] at ho46; rw [← Ny115.out] at ho46))
                                            have n0_ := Aside0.mk (Kd.R_lower ho46 (below_size (by repeat (first | (with_reducible first | exact HB.out | apply below_alloc | apply pw_below_drewN | apply below_drew1) | exact HB.out))))
                                            have n1_ := Aside0.mk (below_step (by repeat (first | (with_reducible first | exact HB.out | apply below_alloc | apply pw_below_drewN | apply below_drew1) | exact HB.out)) hb)
                                            clear HB
                                            have HO117 := n0_
                                            have HB := n1_
                                            clear n0_ n1_
                                            clear hb ho46
                                            obtain ⟨Ao47, co47, eo47⟩ := Kd.R_slice HO117.out
                                            (first | subst eo47 | (injection eo47 with f1_ f2_ f3_; have f4_ := f1_.symm; have f5_ := f3_.symm; clear f1_ f2_ f3_; subst f4_; subst f5_))
                                            refine hK.out _ _ ⟨((HB.out.cell (World.block_lt_of_cell? w _ hw118_0)).trans hw118_0), ((HB.out.cell (World.block_lt_of_cell? w _ hw118_1)).trans hw118_1), ((HB.out.cell (World.block_lt_of_cell? w _ hw118_2)).trans hw118_2), ((HB.out.cell (World.block_lt_of_cell? w _ hw118_3)).trans hw118_3), ((HB.out.cell (World.block_lt_of_cell? w _ hw123_0)).trans hw123_0), ((HB.out.cell (World.block_lt_of_cell? w _ hw123_1)).trans hw123_1), ((HB.out.cell (World.block_lt_of_cell? w _ hw123_2)).trans hw123_2), ((HB.out.cell (World.block_lt_of_cell? w _ hw123_3)).trans hw123_3)⟩ (fun hHeld => ?_)
                                            clear hK K
                                            refine norm_ (a' := ?_) ?_ ?_
                                            rotate_left
                                            · show Act.put _ (some 40) _ = _
                                              simp only [Act.put, List.setIfInBounds_toArray, List.set_cons_zero, List.set_cons_succ, i64_w, i32_w]
                                              rfl
                                            refine two_ (i := 10) (j := 16) (Ni := some 46) (Nj := some 52) #[true, true, true, true, true, true, true, true, true, true, true, false, false, true, false, false, false, true, true, true, true, true, false, false, false] #[true, true, true, true, true, true, true, true, true, true, false, false, false, true, false, false, true, true, true, true, true, true, false, false, false] rfl rfl rfl rfl (two_of HT_.out (by kernel_rfl)) (by decide) (by decide) (fun K hK => ?_) (fun K hK => ?_)
                                            · skip
                                              refine goes_ Tryd.func29 (by kernel_rfl) rfl #[.slice Ao47 y115.length co47, .int .i64 ((rd_T25 l0 x4_1).f1)] (by rfl) rfl rfl (by (try simp only [List.map_toArray, List.map_cons, List.map_nil]); first | done | rfl | (simp only [List.length_drop, List.length_take]; rfl)) ?_
                                              with_reducible refine (supercargoref31_word.calls _ _ y115 ((rd_T25 l0 x4_1).f1) t119 _ ?side1 ?side2 A37.out).mono ?_
                                              (case side1 => repeat (first | exact (Kd.R_reads' HO117.out).2.2 | (with_reducible refine Kd.C_alloc ?_ _) | (with_reducible refine Kd.C_drewN ?_ _) | (with_reducible refine Kd.C_drew ?_)))
                                              (case side2 => exact (Kd.R_reads' HO117.out).2.1)
                                              rintro e w' ⟨rfl, ⟨nd, rfl⟩⟩
                                              refine ⟨_, rfl, ?_⟩
                                              refine hK.out _ _ ⟨((HB.out.cell (World.block_lt_of_cell? w _ hw118_0)).trans hw118_0), ((HB.out.cell (World.block_lt_of_cell? w _ hw118_1)).trans hw118_1), ((HB.out.cell (World.block_lt_of_cell? w _ hw118_2)).trans hw118_2), ((HB.out.cell (World.block_lt_of_cell? w _ hw118_3)).trans hw118_3), ((HB.out.cell (World.block_lt_of_cell? w _ hw123_0)).trans hw123_0), ((HB.out.cell (World.block_lt_of_cell? w _ hw123_1)).trans hw123_1), ((HB.out.cell (World.block_lt_of_cell? w _ hw123_2)).trans hw123_2), ((HB.out.cell (World.block_lt_of_cell? w _ hw123_3)).trans hw123_3)⟩ (fun hHeld => ?_)
                                              clear hK K
                                              refine norm_ (a' := ?_) ?_ ?_
                                              rotate_left
                                              · show Act.put _ (some 46) _ = _
                                                simp only [Act.put, List.setIfInBounds_toArray, List.set_cons_zero, List.set_cons_succ, i64_w, i32_w]
                                                rfl
                                              refine pure_ (i := 11) (N := some 47) (v := ?_) (a' := ?_) #[true, true, true, true, true, true, true, true, true, true, true, true, false, true, false, false, false, true, true, true, true, true, false, false, false] rfl rfl (any_of HT_.out (by kernel_rfl)) (fun _ _ _ h => h) (Or.inl ⟨by rfl, ?_⟩) ?_ ?_
                                              rotate_left
                                              · intro w'
                                                go_simp
                                                with_reducible rfl
                                              rotate_left
                                              · simp only [Act.put, List.setIfInBounds_toArray, List.set_cons_zero, List.set_cons_succ, i64_w, i32_w]
                                                rfl
                                              refine pure_ (i := 12) (N := some 48) (v := ?_) (a' := ?_) #[true, true, true, true, true, true, true, true, true, true, true, true, true, true, false, false, false, true, true, true, true, true, false, false, false] rfl rfl (any_of HT_.out (by kernel_rfl)) (fun _ _ _ h => h) (Or.inl ⟨by rfl, ?_⟩) ?_ ?_
                                              rotate_left
                                              · intro w'
                                                go_simp
                                                with_reducible rfl
                                              rotate_left
                                              · simp only [Act.put, List.setIfInBounds_toArray, List.set_cons_zero, List.set_cons_succ, i64_w, i32_w]
                                                rfl
                                              refine pure_ (i := 14) (N := some 50) (v := ?_) (a' := ?_) #[true, true, true, true, true, true, true, true, true, true, true, true, true, true, true, false, false, true, true, true, true, true, false, false, false] rfl rfl (any_of HT_.out (by kernel_rfl)) (fun _ _ _ h => h) (Or.inl ⟨by rfl, ?_⟩) ?_ ?_
                                              rotate_left
                                              · intro w'
                                                go_simp
                                                with_reducible rfl
                                              rotate_left
                                              · simp only [Act.put, List.setIfInBounds_toArray, List.set_cons_zero, List.set_cons_succ, i64_w, i32_w]
                                                rfl
                                              refine pure_ (i := 15) (N := some 51) (v := ?_) (a' := ?_) #[true, true, true, true, true, true, true, true, true, true, true, true, true, true, true, true, false, true, true, true, true, true, false, false, false] rfl rfl (any_of HT_.out (by kernel_rfl)) (fun _ _ _ h => h) (Or.inl ⟨by rfl, ?_⟩) ?_ ?_
                                              rotate_left
                                              · intro w'
                                                go_simp
                                                with_reducible rfl
                                              rotate_left
                                              · simp only [Act.put, List.setIfInBounds_toArray, List.set_cons_zero, List.set_cons_succ, i64_w, i32_w]
                                                rfl
                                              refine one_ (i := 16) (N := some 52) #[true, true, true, true, true, true, true, true, true, true, true, true, true, true, true, true, true, true, true, true, true, true, false, false, false] rfl rfl (one_of HT_.out (by kernel_rfl)) (by decide) (fun K hK => ?_)
                                              refine Kd.R_lit_step Kd.string _ 9 ?hg (N := 52) ?hd (xs := ([(⟨#[102, 105, 110, 101]⟩ : ByteArray), (⟨#[108, 97, 99, 107, 115]⟩ : ByteArray), (⟨#[102, 97, 105, 108, 115]⟩ : ByteArray), (⟨#[117, 110, 108, 105, 107, 101]⟩ : ByteArray), (⟨#[108, 97, 116, 101]⟩ : ByteArray), (⟨#[109, 117, 99, 104]⟩ : ByteArray), (⟨#[102, 101, 119]⟩ : ByteArray)] : List ByteArray)) (inner := [.string (⟨#[102, 105, 110, 101]⟩ : ByteArray), .string (⟨#[108, 97, 99, 107, 115]⟩ : ByteArray), .string (⟨#[102, 97, 105, 108, 115]⟩ : ByteArray), .string (⟨#[117, 110, 108, 105, 107, 101]⟩ : ByteArray), .string (⟨#[108, 97, 116, 101]⟩ : ByteArray), .string (⟨#[109, 117, 99, 104]⟩ : ByteArray), .string (⟨#[102, 101, 119]⟩ : ByteArray)]) (ok := fun _ => True) (okp := fun _ => True) ?hr ?hp (fun _ hk => hk) trivial (Below.refl _ _) (Nat.le_refl _) (by simp) ?_; (case hd => rfl); (case hg => rfl); (case hr => first | (go_simp; done) | (go_simp; rfl)); (case hp => exact (Reps.one (show Kd.M Kd.string _ _ _ (⟨#[102, 105, 110, 101]⟩ : ByteArray) [.string (⟨#[102, 105, 110, 101]⟩ : ByteArray)] from rfl) (Reps.one (show Kd.M Kd.string _ _ _ (⟨#[108, 97, 99, 107, 115]⟩ : ByteArray) [.string (⟨#[108, 97, 99, 107, 115]⟩ : ByteArray)] from rfl) (Reps.one (show Kd.M Kd.string _ _ _ (⟨#[102, 97, 105, 108, 115]⟩ : ByteArray) [.string (⟨#[102, 97, 105, 108, 115]⟩ : ByteArray)] from rfl) (Reps.one (show Kd.M Kd.string _ _ _ (⟨#[117, 110, 108, 105, 107, 101]⟩ : ByteArray) [.string (⟨#[117, 110, 108, 105, 107, 101]⟩ : ByteArray)] from rfl) (Reps.one (show Kd.M Kd.string _ _ _ (⟨#[108, 97, 116, 101]⟩ : ByteArray) [.string (⟨#[108, 97, 116, 101]⟩ : ByteArray)] from rfl) (Reps.one (show Kd.M Kd.string _ _ _ (⟨#[109, 117, 99, 104]⟩ : ByteArray) [.string (⟨#[109, 117, 99, 104]⟩ : ByteArray)] from rfl) (Reps.one (show Kd.M Kd.string _ _ _ (⟨#[102, 101, 119]⟩ : ByteArray) [.string (⟨#[102, 101, 119]⟩ : ByteArray)] from rfl) (Reps.none _ _)))))))))
                                              intro v121 w48 ho49 hb hg_ hnew_
                                              clear hg_ hnew_
                                              (first | rw [← Ny120.out] at ho49 | (simp only [Int.reduceToNat] at ho49; rw [← Ny120.out] at ho49))
                                              have n0_ := Aside0.mk (Kd.R_elder' (by (with_reducible repeat (first | apply Kd.R_alloc | apply Kd.R_drewN | apply Kd.R_drew)); exact HO117.out) (Kd.R_base ho49) hb)
                                              have n1_ := Aside0.mk (Kd.R_lower (Kd.R_new' ho49 (Kd.R_lt (by (with_reducible repeat (first | apply Kd.R_alloc | apply Kd.R_drewN | apply Kd.R_drew)); exact HO117.out))) (below_size (by repeat (first | (with_reducible first | exact HB.out | apply below_alloc | apply pw_below_drewN | apply below_drew1) | exact HB.out))))
                                              have n2_ := Aside0.mk (below_step (by repeat (first | (with_reducible first | exact HB.out | apply below_alloc | apply pw_below_drewN | apply below_drew1) | exact HB.out)) hb)
                                              clear HO117
                                              clear HB
                                              have HO117 := n0_
                                              have HO122 := n1_
                                              have HB := n2_
                                              clear n0_ n1_ n2_
                                              clear hb ho49
                                              refine hK.out _ _ ⟨((HB.out.cell (World.block_lt_of_cell? w _ hw118_0)).trans hw118_0), ((HB.out.cell (World.block_lt_of_cell? w _ hw118_1)).trans hw118_1), ((HB.out.cell (World.block_lt_of_cell? w _ hw118_2)).trans hw118_2), ((HB.out.cell (World.block_lt_of_cell? w _ hw118_3)).trans hw118_3), ((HB.out.cell (World.block_lt_of_cell? w _ hw123_0)).trans hw123_0), ((HB.out.cell (World.block_lt_of_cell? w _ hw123_1)).trans hw123_1), ((HB.out.cell (World.block_lt_of_cell? w _ hw123_2)).trans hw123_2), ((HB.out.cell (World.block_lt_of_cell? w _ hw123_3)).trans hw123_3)⟩ (fun hHeld => ?_)
                                              clear hK K
                                              refine norm_ (a' := ?_) ?_ ?_
                                              rotate_left
                                              · show Act.put _ (some 52) _ = _
                                                simp only [Act.put, List.setIfInBounds_toArray, List.set_cons_zero, List.set_cons_succ, i64_w, i32_w]
                                                rfl
                                              exact norm_ (by simp only [putAll, Act.put, List.setIfInBounds_toArray, List.set_cons_zero, List.set_cons_succ]) (hCont (.slice Ao47 y115.length co47, v121) _ ⟨hHeld, (by (with_reducible repeat (first | apply Kd.R_alloc | apply Kd.R_drewN | apply Kd.R_drew)); exact Kd.R_mono HO117.out (fun _ hk => hk.2)), (by (with_reducible repeat (first | apply Kd.R_alloc | apply Kd.R_drewN | apply Kd.R_drew)); exact Kd.R_mono HO122.out (fun _ hk => hk.2)), (by repeat (first | (with_reducible first | exact HB.out | apply below_alloc | apply pw_below_drewN | apply below_drew1) | exact HB.out))⟩)
                                            · skip
                                              refine Kd.R_lit_step Kd.string _ 9 ?hg (N := 52) ?hd (xs := ([(⟨#[102, 105, 110, 101]⟩ : ByteArray), (⟨#[108, 97, 99, 107, 115]⟩ : ByteArray), (⟨#[102, 97, 105, 108, 115]⟩ : ByteArray), (⟨#[117, 110, 108, 105, 107, 101]⟩ : ByteArray), (⟨#[108, 97, 116, 101]⟩ : ByteArray), (⟨#[109, 117, 99, 104]⟩ : ByteArray), (⟨#[102, 101, 119]⟩ : ByteArray)] : List ByteArray)) (inner := [.string (⟨#[102, 105, 110, 101]⟩ : ByteArray), .string (⟨#[108, 97, 99, 107, 115]⟩ : ByteArray), .string (⟨#[102, 97, 105, 108, 115]⟩ : ByteArray), .string (⟨#[117, 110, 108, 105, 107, 101]⟩ : ByteArray), .string (⟨#[108, 97, 116, 101]⟩ : ByteArray), .string (⟨#[109, 117, 99, 104]⟩ : ByteArray), .string (⟨#[102, 101, 119]⟩ : ByteArray)]) (ok := fun _ => True) (okp := fun _ => True) ?hr ?hp (fun _ hk => hk) trivial (Below.refl _ _) (Nat.le_refl _) (by simp) ?_; (case hd => rfl); (case hg => rfl); (case hr => first | (go_simp; done) | (go_simp; rfl)); (case hp => exact (Reps.one (show Kd.M Kd.string _ _ _ (⟨#[102, 105, 110, 101]⟩ : ByteArray) [.string (⟨#[102, 105, 110, 101]⟩ : ByteArray)] from rfl) (Reps.one (show Kd.M Kd.string _ _ _ (⟨#[108, 97, 99, 107, 115]⟩ : ByteArray) [.string (⟨#[108, 97, 99, 107, 115]⟩ : ByteArray)] from rfl) (Reps.one (show Kd.M Kd.string _ _ _ (⟨#[102, 97, 105, 108, 115]⟩ : ByteArray) [.string (⟨#[102, 97, 105, 108, 115]⟩ : ByteArray)] from rfl) (Reps.one (show Kd.M Kd.string _ _ _ (⟨#[117, 110, 108, 105, 107, 101]⟩ : ByteArray) [.string (⟨#[117, 110, 108, 105, 107, 101]⟩ : ByteArray)] from rfl) (Reps.one (show Kd.M Kd.string _ _ _ (⟨#[108, 97, 116, 101]⟩ : ByteArray) [.string (⟨#[108, 97, 116, 101]⟩ : ByteArray)] from rfl) (Reps.one (show Kd.M Kd.string _ _ _ (⟨#[109, 117, 99, 104]⟩ : ByteArray) [.string (⟨#[109, 117, 99, 104]⟩ : ByteArray)] from rfl) (Reps.one (show Kd.M Kd.string _ _ _ (⟨#[102, 101, 119]⟩ : ByteArray) [.string (⟨#[102, 101, 119]⟩ : ByteArray)] from rfl) (Reps.none _ _)))))))))
                                              intro v121 w47 ho48 hb hg_ hnew_
                                              clear hg_ hnew_
                                              (first | rw [← Ny120.out] at ho48 | (simp only [Int.reduceToNat] at ho48; rw [← Ny120.out] at ho48))
                                              have n0_ := Aside0.mk (Kd.R_elder' (by (with_reducible repeat (first | apply Kd.R_alloc | apply Kd.R_drewN | apply Kd.R_drew)); exact HO117.out) (Kd.R_base ho48) hb)
                                              have n1_ := Aside0.mk (Kd.R_lower (Kd.R_new' ho48 (Kd.R_lt (by (with_reducible repeat (first | apply Kd.R_alloc | apply Kd.R_drewN | apply Kd.R_drew)); exact HO117.out))) (below_size (by repeat (first | (with_reducible first | exact HB.out | apply below_alloc | apply pw_below_drewN | apply below_drew1) | exact HB.out))))
                                              have n2_ := Aside0.mk (below_step (by repeat (first | (with_reducible first | exact HB.out | apply below_alloc | apply pw_below_drewN | apply below_drew1) | exact HB.out)) hb)
                                              clear HO117
                                              clear HB
                                              have HO117 := n0_
                                              have HO122 := n1_
                                              have HB := n2_
                                              clear n0_ n1_ n2_
                                              clear hb ho48
                                              obtain ⟨Ao49, co49, eo49⟩ := Kd.R_slice HO117.out
                                              (first | subst eo49 | (injection eo49 with f1_ f2_ f3_; have f4_ := f1_.symm; have f5_ := f3_.symm; clear f1_ f2_ f3_; subst f4_; subst f5_))
                                              refine hK.out _ _ ⟨((HB.out.cell (World.block_lt_of_cell? w _ hw118_0)).trans hw118_0), ((HB.out.cell (World.block_lt_of_cell? w _ hw118_1)).trans hw118_1), ((HB.out.cell (World.block_lt_of_cell? w _ hw118_2)).trans hw118_2), ((HB.out.cell (World.block_lt_of_cell? w _ hw118_3)).trans hw118_3), ((HB.out.cell (World.block_lt_of_cell? w _ hw123_0)).trans hw123_0), ((HB.out.cell (World.block_lt_of_cell? w _ hw123_1)).trans hw123_1), ((HB.out.cell (World.block_lt_of_cell? w _ hw123_2)).trans hw123_2), ((HB.out.cell (World.block_lt_of_cell? w _ hw123_3)).trans hw123_3)⟩ (fun hHeld => ?_)
                                              clear hK K
                                              refine norm_ (a' := ?_) ?_ ?_
                                              rotate_left
                                              · show Act.put _ (some 52) _ = _
                                                simp only [Act.put, List.setIfInBounds_toArray, List.set_cons_zero, List.set_cons_succ, i64_w, i32_w]
                                                rfl
                                              refine one_ (i := 10) (N := some 46) #[true, true, true, true, true, true, true, true, true, true, true, false, false, true, false, false, true, true, true, true, true, true, false, false, false] rfl rfl (one_of HT_.out (by kernel_rfl)) (by decide) (fun K hK => ?_)
                                              refine goes_ Tryd.func29 (by kernel_rfl) rfl #[.slice Ao49 y115.length co49, .int .i64 ((rd_T25 l0 x4_1).f1)] (by rfl) rfl rfl (by (try simp only [List.map_toArray, List.map_cons, List.map_nil]); first | done | rfl | (simp only [List.length_drop, List.length_take]; rfl)) ?_
                                              with_reducible refine (supercargoref31_word.calls _ _ y115 ((rd_T25 l0 x4_1).f1) t119 _ ?side1 ?side2 A37.out).mono ?_
                                              (case side1 => repeat (first | exact (Kd.R_reads' HO117.out).2.2 | (with_reducible refine Kd.C_alloc ?_ _) | (with_reducible refine Kd.C_drewN ?_ _) | (with_reducible refine Kd.C_drew ?_)))
                                              (case side2 => exact (Kd.R_reads' HO117.out).2.1)
                                              rintro e w' ⟨rfl, ⟨nd, rfl⟩⟩
                                              refine ⟨_, rfl, ?_⟩
                                              refine hK.out _ _ ⟨((HB.out.cell (World.block_lt_of_cell? w _ hw118_0)).trans hw118_0), ((HB.out.cell (World.block_lt_of_cell? w _ hw118_1)).trans hw118_1), ((HB.out.cell (World.block_lt_of_cell? w _ hw118_2)).trans hw118_2), ((HB.out.cell (World.block_lt_of_cell? w _ hw118_3)).trans hw118_3), ((HB.out.cell (World.block_lt_of_cell? w _ hw123_0)).trans hw123_0), ((HB.out.cell (World.block_lt_of_cell? w _ hw123_1)).trans hw123_1), ((HB.out.cell (World.block_lt_of_cell? w _ hw123_2)).trans hw123_2), ((HB.out.cell (World.block_lt_of_cell? w _ hw123_3)).trans hw123_3)⟩ (fun hHeld => ?_)
                                              clear hK K
                                              refine norm_ (a' := ?_) ?_ ?_
                                              rotate_left
                                              · show Act.put _ (some 46) _ = _
                                                simp only [Act.put, List.setIfInBounds_toArray, List.set_cons_zero, List.set_cons_succ, i64_w, i32_w]
                                                rfl
                                              refine pure_ (i := 11) (N := some 47) (v := ?_) (a' := ?_) #[true, true, true, true, true, true, true, true, true, true, true, true, false, true, false, false, true, true, true, true, true, true, false, false, false] rfl rfl (any_of HT_.out (by kernel_rfl)) (fun _ _ _ h => h) (Or.inl ⟨by rfl, ?_⟩) ?_ ?_
                                              rotate_left
                                              · intro w'
                                                go_simp
                                                with_reducible rfl
                                              rotate_left
                                              · simp only [Act.put, List.setIfInBounds_toArray, List.set_cons_zero, List.set_cons_succ, i64_w, i32_w]
                                                rfl
                                              refine pure_ (i := 12) (N := some 48) (v := ?_) (a' := ?_) #[true, true, true, true, true, true, true, true, true, true, true, true, true, true, false, false, true, true, true, true, true, true, false, false, false] rfl rfl (any_of HT_.out (by kernel_rfl)) (fun _ _ _ h => h) (Or.inl ⟨by rfl, ?_⟩) ?_ ?_
                                              rotate_left
                                              · intro w'
                                                go_simp
                                                with_reducible rfl
                                              rotate_left
                                              · simp only [Act.put, List.setIfInBounds_toArray, List.set_cons_zero, List.set_cons_succ, i64_w, i32_w]
                                                rfl
                                              refine pure_ (i := 14) (N := some 50) (v := ?_) (a' := ?_) #[true, true, true, true, true, true, true, true, true, true, true, true, true, true, true, false, true, true, true, true, true, true, false, false, false] rfl rfl (any_of HT_.out (by kernel_rfl)) (fun _ _ _ h => h) (Or.inl ⟨by rfl, ?_⟩) ?_ ?_
                                              rotate_left
                                              · intro w'
                                                go_simp
                                                with_reducible rfl
                                              rotate_left
                                              · simp only [Act.put, List.setIfInBounds_toArray, List.set_cons_zero, List.set_cons_succ, i64_w, i32_w]
                                                rfl
                                              refine pure_ (i := 15) (N := some 51) (v := ?_) (a' := ?_) #[true, true, true, true, true, true, true, true, true, true, true, true, true, true, true, true, true, true, true, true, true, true, false, false, false] rfl rfl (any_of HT_.out (by kernel_rfl)) (fun _ _ _ h => h) (Or.inl ⟨by rfl, ?_⟩) ?_ ?_
                                              rotate_left
                                              · intro w'
                                                go_simp
                                                with_reducible rfl
                                              rotate_left
                                              · simp only [Act.put, List.setIfInBounds_toArray, List.set_cons_zero, List.set_cons_succ, i64_w, i32_w]
                                                rfl
                                              exact norm_ (by simp only [putAll, Act.put, List.setIfInBounds_toArray, List.set_cons_zero, List.set_cons_succ]) (hCont (.slice Ao49 y115.length co49, v121) _ ⟨hHeld, (by (with_reducible repeat (first | apply Kd.R_alloc | apply Kd.R_drewN | apply Kd.R_drew)); exact Kd.R_mono HO117.out (fun _ hk => hk.2)), (by (with_reducible repeat (first | apply Kd.R_alloc | apply Kd.R_drewN | apply Kd.R_drew)); exact Kd.R_mono HO122.out (fun _ hk => hk.2)), (by repeat (first | (with_reducible first | exact HB.out | apply below_alloc | apply pw_below_drewN | apply below_drew1) | exact HB.out))⟩)
                                          · skip
                                            refine Kd.R_lit_step Kd.string _ 9 ?hg (N := 52) ?hd (xs := ([(⟨#[102, 105, 110, 101]⟩ : ByteArray), (⟨#[108, 97, 99, 107, 115]⟩ : ByteArray), (⟨#[102, 97, 105, 108, 115]⟩ : ByteArray), (⟨#[117, 110, 108, 105, 107, 101]⟩ : ByteArray), (⟨#[108, 97, 116, 101]⟩ : ByteArray), (⟨#[109, 117, 99, 104]⟩ : ByteArray), (⟨#[102, 101, 119]⟩ : ByteArray)] : List ByteArray)) (inner := [.string (⟨#[102, 105, 110, 101]⟩ : ByteArray), .string (⟨#[108, 97, 99, 107, 115]⟩ : ByteArray), .string (⟨#[102, 97, 105, 108, 115]⟩ : ByteArray), .string (⟨#[117, 110, 108, 105, 107, 101]⟩ : ByteArray), .string (⟨#[108, 97, 116, 101]⟩ : ByteArray), .string (⟨#[109, 117, 99, 104]⟩ : ByteArray), .string (⟨#[102, 101, 119]⟩ : ByteArray)]) (ok := fun _ => True) (okp := fun _ => True) ?hr ?hp (fun _ hk => hk) trivial (Below.refl _ _) (Nat.le_refl _) (by simp) ?_; (case hd => rfl); (case hg => rfl); (case hr => first | (go_simp; done) | (go_simp; rfl)); (case hp => exact (Reps.one (show Kd.M Kd.string _ _ _ (⟨#[102, 105, 110, 101]⟩ : ByteArray) [.string (⟨#[102, 105, 110, 101]⟩ : ByteArray)] from rfl) (Reps.one (show Kd.M Kd.string _ _ _ (⟨#[108, 97, 99, 107, 115]⟩ : ByteArray) [.string (⟨#[108, 97, 99, 107, 115]⟩ : ByteArray)] from rfl) (Reps.one (show Kd.M Kd.string _ _ _ (⟨#[102, 97, 105, 108, 115]⟩ : ByteArray) [.string (⟨#[102, 97, 105, 108, 115]⟩ : ByteArray)] from rfl) (Reps.one (show Kd.M Kd.string _ _ _ (⟨#[117, 110, 108, 105, 107, 101]⟩ : ByteArray) [.string (⟨#[117, 110, 108, 105, 107, 101]⟩ : ByteArray)] from rfl) (Reps.one (show Kd.M Kd.string _ _ _ (⟨#[108, 97, 116, 101]⟩ : ByteArray) [.string (⟨#[108, 97, 116, 101]⟩ : ByteArray)] from rfl) (Reps.one (show Kd.M Kd.string _ _ _ (⟨#[109, 117, 99, 104]⟩ : ByteArray) [.string (⟨#[109, 117, 99, 104]⟩ : ByteArray)] from rfl) (Reps.one (show Kd.M Kd.string _ _ _ (⟨#[102, 101, 119]⟩ : ByteArray) [.string (⟨#[102, 101, 119]⟩ : ByteArray)] from rfl) (Reps.none _ _)))))))))
                                            intro v121 w45 ho46 hb hg_ hnew_
                                            clear hg_ hnew_
                                            (first | rw [← Ny120.out] at ho46 | (simp only [Int.reduceToNat] at ho46; rw [← Ny120.out] at ho46))
                                            have n0_ := Aside0.mk (Kd.R_lower ho46 (below_size (by repeat (first | (with_reducible first | exact HB.out | apply below_alloc | apply pw_below_drewN | apply below_drew1) | exact HB.out))))
                                            have n1_ := Aside0.mk (below_step (by repeat (first | (with_reducible first | exact HB.out | apply below_alloc | apply pw_below_drewN | apply below_drew1) | exact HB.out)) hb)
                                            clear HB
                                            have HO122 := n0_
                                            have HB := n1_
                                            clear n0_ n1_
                                            clear hb ho46
                                            refine hK.out _ _ ⟨((HB.out.cell (World.block_lt_of_cell? w _ hw118_0)).trans hw118_0), ((HB.out.cell (World.block_lt_of_cell? w _ hw118_1)).trans hw118_1), ((HB.out.cell (World.block_lt_of_cell? w _ hw118_2)).trans hw118_2), ((HB.out.cell (World.block_lt_of_cell? w _ hw118_3)).trans hw118_3), ((HB.out.cell (World.block_lt_of_cell? w _ hw123_0)).trans hw123_0), ((HB.out.cell (World.block_lt_of_cell? w _ hw123_1)).trans hw123_1), ((HB.out.cell (World.block_lt_of_cell? w _ hw123_2)).trans hw123_2), ((HB.out.cell (World.block_lt_of_cell? w _ hw123_3)).trans hw123_3)⟩ (fun hHeld => ?_)
                                            clear hK K
                                            refine norm_ (a' := ?_) ?_ ?_
                                            rotate_left
                                            · show Act.put _ (some 52) _ = _
                                              simp only [Act.put, List.setIfInBounds_toArray, List.set_cons_zero, List.set_cons_succ, i64_w, i32_w]
                                              rfl
                                            refine one_ (i := 4) (N := some 40) #[true, true, true, true, true, true, true, true, true, true, false, false, false, true, false, false, true, true, true, true, true, true, false, false, false] rfl rfl (one_of HT_.out (by kernel_rfl)) (by decide) (fun K hK => ?_)
                                            refine Kd.R_lit_step Kd.string _ 9 ?hg (N := 40) ?hd (xs := ([(⟨#[105, 110, 118, 111, 105, 99, 101]⟩ : ByteArray), (⟨#[112, 97, 99, 107, 105, 110, 103]⟩ : ByteArray), (⟨#[108, 97, 100, 105, 110, 103]⟩ : ByteArray), (⟨#[105, 110, 115, 117, 114, 97, 110, 99, 101]⟩ : ByteArray), (⟨#[111, 114, 105, 103, 105, 110]⟩ : ByteArray), (⟨#[100, 114, 97, 102, 116]⟩ : ByteArray)] : List ByteArray)) (inner := [.string (⟨#[105, 110, 118, 111, 105, 99, 101]⟩ : ByteArray), .string (⟨#[112, 97, 99, 107, 105, 110, 103]⟩ : ByteArray), .string (⟨#[108, 97, 100, 105, 110, 103]⟩ : ByteArray), .string (⟨#[105, 110, 115, 117, 114, 97, 110, 99, 101]⟩ : ByteArray), .string (⟨#[111, 114, 105, 103, 105, 110]⟩ : ByteArray), .string (⟨#[100, 114, 97, 102, 116]⟩ : ByteArray)]) (ok := fun _ => True) (okp := fun _ => True) ?hr ?hp (fun _ hk => hk) trivial (Below.refl _ _) (Nat.le_refl _) (by simp) ?_; (case hd => rfl); (case hg => rfl); (case hr => first | (go_simp; done) | (go_simp; rfl)); (case hp => exact (Reps.one (show Kd.M Kd.string _ _ _ (⟨#[105, 110, 118, 111, 105, 99, 101]⟩ : ByteArray) [.string (⟨#[105, 110, 118, 111, 105, 99, 101]⟩ : ByteArray)] from rfl) (Reps.one (show Kd.M Kd.string _ _ _ (⟨#[112, 97, 99, 107, 105, 110, 103]⟩ : ByteArray) [.string (⟨#[112, 97, 99, 107, 105, 110, 103]⟩ : ByteArray)] from rfl) (Reps.one (show Kd.M Kd.string _ _ _ (⟨#[108, 97, 100, 105, 110, 103]⟩ : ByteArray) [.string (⟨#[108, 97, 100, 105, 110, 103]⟩ : ByteArray)] from rfl) (Reps.one (show Kd.M Kd.string _ _ _ (⟨#[105, 110, 115, 117, 114, 97, 110, 99, 101]⟩ : ByteArray) [.string (⟨#[105, 110, 115, 117, 114, 97, 110, 99, 101]⟩ : ByteArray)] from rfl) (Reps.one (show Kd.M Kd.string _ _ _ (⟨#[111, 114, 105, 103, 105, 110]⟩ : ByteArray) [.string (⟨#[111, 114, 105, 103, 105, 110]⟩ : ByteArray)] from rfl) (Reps.one (show Kd.M Kd.string _ _ _ (⟨#[100, 114, 97, 102, 116]⟩ : ByteArray) [.string (⟨#[100, 114, 97, 102, 116]⟩ : ByteArray)] from rfl) (Reps.none _ _))))))))
                                            intro v116 w47 ho48 hb hg_ hnew_
                                            clear hg_ hnew_
                                            (first | rw [← Ny115.out] at ho48 | (simp only [Int.reduceToNat] at ho48; rw [← Ny115.out] at ho48))
                                            have n0_ := Aside0.mk (Kd.R_elder' (by (with_reducible repeat (first | apply Kd.R_alloc | apply Kd.R_drewN | apply Kd.R_drew)); exact HO122.out) (Kd.R_base ho48) hb)
                                            have n1_ := Aside0.mk (Kd.R_lower (Kd.R_new' ho48 (Kd.R_lt (by (with_reducible repeat (first | apply Kd.R_alloc | apply Kd.R_drewN | apply Kd.R_drew)); exact HO122.out))) (below_size (by repeat (first | (with_reducible first | exact HB.out | apply below_alloc | apply pw_below_drewN | apply below_drew1) | exact HB.out))))
                                            have n2_ := Aside0.mk (below_step (by repeat (first | (with_reducible first | exact HB.out | apply below_alloc | apply pw_below_drewN | apply below_drew1) | exact HB.out)) hb)
                                            clear HO122
                                            clear HB
                                            have HO122 := n0_
                                            have HO117 := n1_
                                            have HB := n2_
                                            clear n0_ n1_ n2_
                                            clear hb ho48
                                            obtain ⟨Ao49, co49, eo49⟩ := Kd.R_slice HO117.out
                                            (first | subst eo49 | (injection eo49 with f1_ f2_ f3_; have f4_ := f1_.symm; have f5_ := f3_.symm; clear f1_ f2_ f3_; subst f4_; subst f5_))
                                            refine hK.out _ _ ⟨((HB.out.cell (World.block_lt_of_cell? w _ hw118_0)).trans hw118_0), ((HB.out.cell (World.block_lt_of_cell? w _ hw118_1)).trans hw118_1), ((HB.out.cell (World.block_lt_of_cell? w _ hw118_2)).trans hw118_2), ((HB.out.cell (World.block_lt_of_cell? w _ hw118_3)).trans hw118_3), ((HB.out.cell (World.block_lt_of_cell? w _ hw123_0)).trans hw123_0), ((HB.out.cell (World.block_lt_of_cell? w _ hw123_1)).trans hw123_1), ((HB.out.cell (World.block_lt_of_cell? w _ hw123_2)).trans hw123_2), ((HB.out.cell (World.block_lt_of_cell? w _ hw123_3)).trans hw123_3)⟩ (fun hHeld => ?_)
                                            clear hK K
                                            refine norm_ (a' := ?_) ?_ ?_
                                            rotate_left
                                            · show Act.put _ (some 40) _ = _
                                              simp only [Act.put, List.setIfInBounds_toArray, List.set_cons_zero, List.set_cons_succ, i64_w, i32_w]
                                              rfl
                                            refine one_ (i := 10) (N := some 46) #[true, true, true, true, true, true, true, true, true, true, true, false, false, true, false, false, true, true, true, true, true, true, false, false, false] rfl rfl (one_of HT_.out (by kernel_rfl)) (by decide) (fun K hK => ?_)
                                            refine goes_ Tryd.func29 (by kernel_rfl) rfl #[.slice Ao49 y115.length co49, .int .i64 ((rd_T25 l0 x4_1).f1)] (by rfl) rfl rfl (by (try simp only [List.map_toArray, List.map_cons, List.map_nil]); first | done | rfl | (simp only [List.length_drop, List.length_take]; rfl)) ?_
                                            with_reducible refine (supercargoref31_word.calls _ _ y115 ((rd_T25 l0 x4_1).f1) t119 _ ?side1 ?side2 A37.out).mono ?_
                                            (case side1 => repeat (first | exact (Kd.R_reads' HO117.out).2.2 | (with_reducible refine Kd.C_alloc ?_ _) | (with_reducible refine Kd.C_drewN ?_ _) | (with_reducible refine Kd.C_drew ?_)))
                                            (case side2 => exact (Kd.R_reads' HO117.out).2.1)
                                            rintro e w' ⟨rfl, ⟨nd, rfl⟩⟩
                                            refine ⟨_, rfl, ?_⟩
                                            refine hK.out _ _ ⟨((HB.out.cell (World.block_lt_of_cell? w _ hw118_0)).trans hw118_0), ((HB.out.cell (World.block_lt_of_cell? w _ hw118_1)).trans hw118_1), ((HB.out.cell (World.block_lt_of_cell? w _ hw118_2)).trans hw118_2), ((HB.out.cell (World.block_lt_of_cell? w _ hw118_3)).trans hw118_3), ((HB.out.cell (World.block_lt_of_cell? w _ hw123_0)).trans hw123_0), ((HB.out.cell (World.block_lt_of_cell? w _ hw123_1)).trans hw123_1), ((HB.out.cell (World.block_lt_of_cell? w _ hw123_2)).trans hw123_2), ((HB.out.cell (World.block_lt_of_cell? w _ hw123_3)).trans hw123_3)⟩ (fun hHeld => ?_)
                                            clear hK K
                                            refine norm_ (a' := ?_) ?_ ?_
                                            rotate_left
                                            · show Act.put _ (some 46) _ = _
                                              simp only [Act.put, List.setIfInBounds_toArray, List.set_cons_zero, List.set_cons_succ, i64_w, i32_w]
                                              rfl
                                            refine pure_ (i := 11) (N := some 47) (v := ?_) (a' := ?_) #[true, true, true, true, true, true, true, true, true, true, true, true, false, true, false, false, true, true, true, true, true, true, false, false, false] rfl rfl (any_of HT_.out (by kernel_rfl)) (fun _ _ _ h => h) (Or.inl ⟨by rfl, ?_⟩) ?_ ?_
                                            rotate_left
                                            · intro w'
                                              go_simp
                                              with_reducible rfl
                                            rotate_left
                                            · simp only [Act.put, List.setIfInBounds_toArray, List.set_cons_zero, List.set_cons_succ, i64_w, i32_w]
                                              rfl
                                            refine pure_ (i := 12) (N := some 48) (v := ?_) (a' := ?_) #[true, true, true, true, true, true, true, true, true, true, true, true, true, true, false, false, true, true, true, true, true, true, false, false, false] rfl rfl (any_of HT_.out (by kernel_rfl)) (fun _ _ _ h => h) (Or.inl ⟨by rfl, ?_⟩) ?_ ?_
                                            rotate_left
                                            · intro w'
                                              go_simp
                                              with_reducible rfl
                                            rotate_left
                                            · simp only [Act.put, List.setIfInBounds_toArray, List.set_cons_zero, List.set_cons_succ, i64_w, i32_w]
                                              rfl
                                            refine pure_ (i := 14) (N := some 50) (v := ?_) (a' := ?_) #[true, true, true, true, true, true, true, true, true, true, true, true, true, true, true, false, true, true, true, true, true, true, false, false, false] rfl rfl (any_of HT_.out (by kernel_rfl)) (fun _ _ _ h => h) (Or.inl ⟨by rfl, ?_⟩) ?_ ?_
                                            rotate_left
                                            · intro w'
                                              go_simp
                                              with_reducible rfl
                                            rotate_left
                                            · simp only [Act.put, List.setIfInBounds_toArray, List.set_cons_zero, List.set_cons_succ, i64_w, i32_w]
                                              rfl
                                            refine pure_ (i := 15) (N := some 51) (v := ?_) (a' := ?_) #[true, true, true, true, true, true, true, true, true, true, true, true, true, true, true, true, true, true, true, true, true, true, false, false, false] rfl rfl (any_of HT_.out (by kernel_rfl)) (fun _ _ _ h => h) (Or.inl ⟨by rfl, ?_⟩) ?_ ?_
                                            rotate_left
                                            · intro w'
                                              go_simp
                                              with_reducible rfl
                                            rotate_left
                                            · simp only [Act.put, List.setIfInBounds_toArray, List.set_cons_zero, List.set_cons_succ, i64_w, i32_w]
                                              rfl
                                            exact norm_ (by simp only [putAll, Act.put, List.setIfInBounds_toArray, List.set_cons_zero, List.set_cons_succ]) (hCont (.slice Ao49 y115.length co49, v121) _ ⟨hHeld, (by (with_reducible repeat (first | apply Kd.R_alloc | apply Kd.R_drewN | apply Kd.R_drew)); exact Kd.R_mono HO117.out (fun _ hk => hk.2)), (by (with_reducible repeat (first | apply Kd.R_alloc | apply Kd.R_drewN | apply Kd.R_drew)); exact Kd.R_mono HO122.out (fun _ hk => hk.2)), (by repeat (first | (with_reducible first | exact HB.out | apply below_alloc | apply pw_below_drewN | apply below_drew1) | exact HB.out))⟩)
                                        rintro ⟨v116, v121⟩ w50 ⟨hS_, h0_, h1_, h2_⟩
                                        have n0_ : Aside0 (Kd.R Kd.string 9 w50 w.heap.size (fun k_ => some k_ ≠ (v121 : Value).ownBlock) v116 y115) := ⟨h0_⟩
                                        have n1_ : Aside0 (Kd.R Kd.string 9 w50 w.heap.size (fun k_ => some k_ ≠ (v116 : Value).ownBlock) v121 y120) := ⟨h1_⟩
                                        have n2_ : Aside0 (Below w.heap.size w w50) := ⟨h2_⟩
                                        clear HB
                                        clear h0_ h1_ h2_
                                        have HO117 := n0_
                                        have HO122 := n1_
                                        have HB := n2_
                                        clear n0_ n1_ n2_
                                        have hHeld : w50.cell? (ad101.add ((x4_1).toNat * 4)) = some (.int .i64 ((rd_T25 l0 x4_1).f0)) ∧ w50.cell? ⟨(ad101.add ((x4_1).toNat * 4)).block, (ad101.add ((x4_1).toNat * 4)).off + 1, none⟩ = some (.int .i64 ((rd_T25 l0 x4_1).f1)) ∧ w50.cell? ⟨(ad101.add ((x4_1).toNat * 4)).block, (ad101.add ((x4_1).toNat * 4)).off + 2, none⟩ = some (.string ((rd_T25 l0 x4_1).f2)) ∧ w50.cell? ⟨(ad101.add ((x4_1).toNat * 4)).block, (ad101.add ((x4_1).toNat * 4)).off + 3, none⟩ = some (.int .i64 ((rd_T25 l0 x4_1).f3)) ∧ w50.cell? (ad101.add ((x4_1).toNat * 4)) = some (.int .i64 ((rd_T25 l0 x4_1).f0)) ∧ w50.cell? ⟨(ad101.add ((x4_1).toNat * 4)).block, (ad101.add ((x4_1).toNat * 4)).off + 1, none⟩ = some (.int .i64 ((rd_T25 l0 x4_1).f1)) ∧ w50.cell? ⟨(ad101.add ((x4_1).toNat * 4)).block, (ad101.add ((x4_1).toNat * 4)).off + 2, none⟩ = some (.string ((rd_T25 l0 x4_1).f2)) ∧ w50.cell? ⟨(ad101.add ((x4_1).toNat * 4)).block, (ad101.add ((x4_1).toNat * 4)).off + 3, none⟩ = some (.int .i64 ((rd_T25 l0 x4_1).f3)) := hS_
                                        obtain ⟨Ao51, co51, eo51⟩ := Kd.R_slice HO122.out
                                        (first | subst eo51 | (injection eo51 with f1_ f2_ f3_; have f4_ := f1_.symm; have f5_ := f3_.symm; clear f1_ f2_ f3_; subst f4_; subst f5_))
                                        refine norm_ (a' := ?_) ?_ ?_
                                        rotate_left
                                        · simp only [putAll, Act.put, List.setIfInBounds_toArray, List.set_cons_zero, List.set_cons_succ]
                                          rfl
                                        refine one_ (i := 22) (N := some 58) #[true, true, true, true, true, true, true, true, true, true, true, true, true, true, true, true, true, true, true, true, true, true, true, false, false] rfl rfl (one_of HT_.out (by kernel_rfl)) (by decide) (fun K hK => ?_)
                                        refine goes_ Tryd.func29 (by kernel_rfl) rfl #[.slice Ao51 y120.length co51, .int .i64 ((rd_T25 l0 x4_1).f3)] (by rfl) rfl rfl (by (try simp only [List.map_toArray, List.map_cons, List.map_nil]); first | done | rfl | (simp only [List.length_drop, List.length_take]; rfl)) ?_
                                        with_reducible refine (supercargoref31_word.calls _ _ y120 ((rd_T25 l0 x4_1).f3) t124 _ ?side1 ?side2 A42.out).mono ?_
                                        (case side1 => repeat (first | exact (Kd.R_reads' HO122.out).2.2 | (with_reducible refine Kd.C_alloc ?_ _) | (with_reducible refine Kd.C_drewN ?_ _) | (with_reducible refine Kd.C_drew ?_)))
                                        (case side2 => exact (Kd.R_reads' HO122.out).2.1)
                                        rintro e w' ⟨rfl, ⟨nd, rfl⟩⟩
                                        refine ⟨_, rfl, ?_⟩
                                        refine hK.out _ _ ⟨((HB.out.cell (World.block_lt_of_cell? w _ hw118_0)).trans hw118_0), ((HB.out.cell (World.block_lt_of_cell? w _ hw118_1)).trans hw118_1), ((HB.out.cell (World.block_lt_of_cell? w _ hw118_2)).trans hw118_2), ((HB.out.cell (World.block_lt_of_cell? w _ hw118_3)).trans hw118_3), ((HB.out.cell (World.block_lt_of_cell? w _ hw123_0)).trans hw123_0), ((HB.out.cell (World.block_lt_of_cell? w _ hw123_1)).trans hw123_1), ((HB.out.cell (World.block_lt_of_cell? w _ hw123_2)).trans hw123_2), ((HB.out.cell (World.block_lt_of_cell? w _ hw123_3)).trans hw123_3)⟩ (fun hHeld => ?_)
                                        clear hK K
                                        refine norm_ (a' := ?_) ?_ ?_
                                        rotate_left
                                        · show Act.put _ (some 58) _ = _
                                          simp only [Act.put, List.setIfInBounds_toArray, List.set_cons_zero, List.set_cons_succ, i64_w, i32_w]
                                          rfl
                                        refine pure_ (i := 23) (N := some 59) (v := ?_) (a' := ?_) #[true, true, true, true, true, true, true, true, true, true, true, true, true, true, true, true, true, true, true, true, true, true, true, true, false] rfl rfl (any_of HT_.out (by kernel_rfl)) (fun _ _ _ h => h) (Or.inl ⟨by rfl, ?_⟩) ?_ ?_
                                        rotate_left
                                        · intro w'
                                          go_simp
                                          with_reducible rfl
                                        rotate_left
                                        · simp only [Act.put, List.setIfInBounds_toArray, List.set_cons_zero, List.set_cons_succ, i64_w, i32_w]
                                          rfl
                                        refine pure_ (i := 24) (N := some 3) (v := ?_) (a' := ?_) #[true, true, true, true, true, true, true, true, true, true, true, true, true, true, true, true, true, true, true, true, true, true, true, true, true] rfl rfl (any_of HT_.out (by kernel_rfl)) (fun _ _ _ h => h) (Or.inl ⟨by rfl, ?_⟩) ?_ ?_
                                        rotate_left
                                        · intro w'
                                          go_simp
                                          with_reducible rfl
                                        rotate_left
                                        · simp only [Act.put, List.setIfInBounds_toArray, List.set_cons_zero, List.set_cons_succ, i64_w, i32_w]
                                          rfl
                                        refine done_ (done_of HT_.out (by kernel_rfl)) ?_
                                        try go_wp2
                                        go_roundg kj8
                                        case measure => have := HK1.out; have := HJ2.out; have := HJ8.out; omega
                                        case rel => exact ⟨(((((((x3_2 ++ x5_8) ++ (⟨#[32]⟩ : ByteArray)) ++ t119) ++ (⟨#[32]⟩ : ByteArray)) ++ ((rd_T25 l0 x4_1).f2)) ++ (⟨#[32]⟩ : ByteArray)) ++ t124), (wrap64 (x4_1 + 1)), (by first | rfl | (simp; done) | (simp [*]; done)), (by first | rfl | (simp; done) | (simp [*]; done)), H', ⟨by have := HK1.out; have := HJ2.out; have := HJ8.out; omega⟩, ⟨by repeat (first | (with_reducible first | exact HB.out | apply below_alloc | apply pw_below_drewN | apply below_drew1) | exact HB.out)⟩⟩
                                      · rw [if_neg c43] at H
                                        exact absurd H (by simp)
                                    · rw [if_neg c41] at H
                                      exact absurd H (by simp)
                                  · rw [if_neg c40] at H
                                    exact absurd H (by simp)
                                · rw [if_neg c39] at H
                                  exact absurd H (by simp)
                              · rw [if_neg c38] at H
                                exact absurd H (by simp)
                            · rw [if_neg c36] at H
                              exact absurd H (by simp)
                          · rw [if_neg c35] at H
                            exact absurd H (by simp)
                        · rw [if_neg c34] at H
                          exact absurd H (by simp)
                      · rw [if_neg c33] at H
                        exact absurd H (by simp)
              · rw [if_neg c7] at H
                exact absurd H (by simp)
            · rw [if_neg c6] at H
              exact absurd H (by simp)
      · rw [if_neg c2] at H
        have c2b0 : decide (x4_1 < (l0.length : Int)) = false := decide_eq_false c2
        clear c2
        obtain rfl := Option.some.inj H
        go_wp2
        go_ret
        exact ⟨by first | rfl | (simp [errW_none, errW_some] <;> rfl) | (simp [*, errW_none, errW_some] <;> rfl), by repeat (first | (with_reducible first | exact HB.out | apply below_alloc | apply pw_below_drewN | apply below_drew1) | exact HB.out)⟩

end Go.Proofs.YtcibglpbfaffgaaDoor.X
