-- Printed by a program of this session's own (wip/mkprint.py), after the print that the kit describes.
import Derived.Test.YtcibglpbfaffgaaDoorX0
namespace Go.Proofs.YtcibglpbfaffgaaDoor.X
open Go.RowKit Go.Proofs.YtcibglpbfaffgaaDoorW.PrintWords Go.Proofs.YtcibglpbfaffgaaDoorW.PrintLast Go.Proofs.YtcibglpbfaffgaaDoorW.PrintMore
attribute [local go_sem] max2_int min2_int max_two min_two max_three min_three max_four min_four   -- for this text's walks alone
set_option linter.unusedVariables false
set_option linter.unusedSimpArgs false

/-! ### supercargoref31_Asked: function 15 -/
def supercargoref31_Asked.l0 : Nat → Int → Int → ByteArray → ByteArray → ByteArray → ByteArray → ByteArray → ByteArray → ByteArray → ByteArray → Int → Int → Int → Int → Int → Int → Int → Bool → Bool → List (S45) → Option (Bool)
  | 0, _, _, _, _, _, _, _, _, _, _, _, _, _, _, _, _, _, _, _, _ => none
  | k + 1, x1, x5, x165000, x165001, x165002, x165003, x165004, x165005, x165006, x165007, x165008, x165009, x165010, x165011, x165012, x165013, x165014, x165015, x165016, x165017 => if x5 < (x165017.length : Int) then (if 0 ≤ x5 then (if ((rd_T45 x165017 x5).f0) = x1 then (some true) else (supercargoref31_Asked.l0 k x1 (wrap64 (x5 + 1)) x165000 x165001 x165002 x165003 x165004 x165005 x165006 x165007 x165008 x165009 x165010 x165011 x165012 x165013 x165014 x165015 x165016 x165017)) else (none)) else (some false)
def supercargoref31_Asked.f (k : Nat) (a0_0 : ByteArray) (a0_1 : ByteArray) (a0_2 : ByteArray) (a0_3 : ByteArray) (a0_4 : ByteArray) (a0_5 : ByteArray) (a0_6 : ByteArray) (a0_7 : ByteArray) (a0_8 : Int) (a0_9 : Int) (a0_10 : Int) (a0_11 : Int) (a0_12 : Int) (a0_13 : Int) (a0_14 : Int) (a0_15 : Bool) (a0_16 : Bool) (l0_17 : List (S45)) (a1 : Int) : Option (Bool) := supercargoref31_Asked.l0 k a1 0 a0_0 a0_1 a0_2 a0_3 a0_4 a0_5 a0_6 a0_7 a0_8 a0_9 a0_10 a0_11 a0_12 a0_13 a0_14 a0_15 a0_16 l0_17
theorem supercargoref31_Asked.mono_l : ∀ k, (∀ y0 y1 y2 y3 y4 y5 y6 y7 y8 y9 y10 y11 y12 y13 y14 y15 y16 y17 y18 y19, LeO (supercargoref31_Asked.l0 k y0 y1 y2 y3 y4 y5 y6 y7 y8 y9 y10 y11 y12 y13 y14 y15 y16 y17 y18 y19) (supercargoref31_Asked.l0 (k + 1) y0 y1 y2 y3 y4 y5 y6 y7 y8 y9 y10 y11 y12 y13 y14 y15 y16 y17 y18 y19))
  | 0 => fun _ _ _ _ _ _ _ _ _ _ _ _ _ _ _ _ _ _ _ _ r h => by simp [supercargoref31_Asked.l0] at h
  | k + 1 => by
    have ih0 := supercargoref31_Asked.mono_l k
    · intro y0 y1 y2 y3 y4 y5 y6 y7 y8 y9 y10 y11 y12 y13 y14 y15 y16 y17 y18 y19
      unfold supercargoref31_Asked.l0
      repeat' first
      | (with_reducible exact ih0 _ _ _ _ _ _ _ _ _ _ _ _ _ _ _ _ _ _ _ _)
      | (with_reducible exact LeO.refl _)
      | (with_reducible exact LeO.none _)
      | (with_reducible refine LeO.ite ?_ ?_)
      | (with_reducible refine LeO.bind ?_ (fun _ => ?_))
      | exact ih0 _ _ _ _ _ _ _ _ _ _ _ _ _ _ _ _ _ _ _ _
      | exact LeO.none _
      | refine LeO.ite ?_ ?_
      | refine LeO.bind ?_ (fun _ => ?_)
theorem supercargoref31_Asked.mono : ∀ a0 a1 a2 a3 a4 a5 a6 a7 a8 a9 a10 a11 a12 a13 a14 a15 a16 a17 a18 k, LeO (supercargoref31_Asked.f k a0 a1 a2 a3 a4 a5 a6 a7 a8 a9 a10 a11 a12 a13 a14 a15 a16 a17 a18) (supercargoref31_Asked.f (k + 1) a0 a1 a2 a3 a4 a5 a6 a7 a8 a9 a10 a11 a12 a13 a14 a15 a16 a17 a18) := by
  intro a0 a1 a2 a3 a4 a5 a6 a7 a8 a9 a10 a11 a12 a13 a14 a15 a16 a17 a18 k
  have ih0 := supercargoref31_Asked.mono_l k
  unfold supercargoref31_Asked.f
  repeat' first
      | (with_reducible exact ih0 _ _ _ _ _ _ _ _ _ _ _ _ _ _ _ _ _ _ _ _)
      | (with_reducible exact LeO.refl _)
      | (with_reducible exact LeO.none _)
      | (with_reducible refine LeO.ite ?_ ?_)
      | (with_reducible refine LeO.bind ?_ (fun _ => ?_))
      | exact ih0 _ _ _ _ _ _ _ _ _ _ _ _ _ _ _ _ _ _ _ _
      | exact LeO.none _
      | refine LeO.ite ?_ ?_
      | refine LeO.bind ?_ (fun _ => ?_)
set_option maxHeartbeats 8000000 in
set_option maxRecDepth 100000 in
theorem supercargoref31_Asked.calls (k : Nat) (a0_0 : ByteArray) (a0_1 : ByteArray) (a0_2 : ByteArray) (a0_3 : ByteArray) (a0_4 : ByteArray) (a0_5 : ByteArray) (a0_6 : ByteArray) (a0_7 : ByteArray) (a0_8 : Int) (a0_9 : Int) (a0_10 : Int) (a0_11 : Int) (a0_12 : Int) (a0_13 : Int) (a0_14 : Int) (a0_15 : Bool) (a0_16 : Bool) (A0_17 : Option Addr) (c0_17 : Nat) (l0_17 : List (S45)) (a1 : Int) (r : Bool) (w : World) (hr0_17 : Kd.C k45 w A0_17 l0_17.length l0_17) (hc0_17 : l0_17.length ≤ c0_17) (h : supercargoref31_Asked.f k a0_0 a0_1 a0_2 a0_3 a0_4 a0_5 a0_6 a0_7 a0_8 a0_9 a0_10 a0_11 a0_12 a0_13 a0_14 a0_15 a0_16 l0_17 a1 = some r) :
    Calls Tryd.prog 15 #[.agg #[.string a0_0, .string a0_1, .string a0_2, .string a0_3, .string a0_4, .string a0_5, .string a0_6, .string a0_7, .int .i64 a0_8, .int .i64 a0_9, .int .i64 a0_10, .int .i64 a0_11, .int .i64 a0_12, .int .i64 a0_13, .int .i64 a0_14, .bool a0_15, .bool a0_16, .slice A0_17 l0_17.length c0_17], .int .i64 a1] w fun e w' => e = .returned (.bool r) ∧ Below w.heap.size w w' := by
  have hu33 := Tryd.underlying33
  have HR0_17 := Aside0.mk hr0_17
  have HC0_17 := Aside0.mk hc0_17
  clear hr0_17 hc0_17
  have HB := Aside0.mk (Below.refl w.heap.size w)
  have H : (supercargoref31_Asked.l0 k a1 0 a0_0 a0_1 a0_2 a0_3 a0_4 a0_5 a0_6 a0_7 a0_8 a0_9 a0_10 a0_11 a0_12 a0_13 a0_14 a0_15 a0_16 l0_17) = some r := h
  clear h
  have H' := Aside0.mk H
  clear H
  go_enter Tryd.func15, Tryd.ntmps15
  go_wp2_with (first | ((with_reducible refine gate_dst (N := 2) rfl ?_); refine box_event ?hg (N := 2) ?hd (cs := #[.string a0_0, .string a0_1, .string a0_2, .string a0_3, .string a0_4, .string a0_5, .string a0_6, .string a0_7, .int .i64 a0_8, .int .i64 a0_9, .int .i64 a0_10, .int .i64 a0_11, .int .i64 a0_12, .int .i64 a0_13, .int .i64 a0_14, .bool a0_15, .bool a0_16, .slice A0_17 l0_17.length c0_17]) (t := 33) ?hr ?_; (case hd => rfl); (case hg => rfl); (case hr => first | (go_simp; done) | (go_simp; rfl)); intro gb164 hg w3 hbox hb; have n0_ := Aside0.mk (below_step (by repeat (first | (with_reducible first | exact HB.out | apply below_alloc | apply pw_below_drewN | apply below_drew1) | exact HB.out)) hb); have n1_ := Aside0.mk (hbox); have n2_ := Aside0.mk ((by rw [hg]; exact (below_size (by repeat (first | (with_reducible first | exact HB.out | apply below_alloc | apply pw_below_drewN | apply below_drew1) | exact HB.out))) : w.heap.size ≤ gb164)); have n3_ := Aside0.mk ((by rw [hg]; exact (below_size (by repeat (first | (with_reducible first | exact HB.out | apply below_alloc | apply pw_below_drewN | apply below_drew1) | exact HB.out))) : w.heap.size ≤ gb164)); clear HB; have HB := n0_; have BK164 := n1_; have GW164 := n2_; have GE164 := n3_; clear n0_ n1_ n2_ n3_; clear hb hbox hg))
  go_loopg [5] k (fun kq v5 w' => ∃ (x5_1 : Int), v5 = .int .i64 x5_1 ∧ Aside0 (supercargoref31_Asked.l0 kq a1 x5_1 a0_0 a0_1 a0_2 a0_3 a0_4 a0_5 a0_6 a0_7 a0_8 a0_9 a0_10 a0_11 a0_12 a0_13 a0_14 a0_15 a0_16 l0_17 = some r) ∧ Aside0 (kq ≤ k) ∧ Aside0 (w'.heap[gb164]? = some (.cells #[.string a0_0, .string a0_1, .string a0_2, .string a0_3, .string a0_4, .string a0_5, .string a0_6, .string a0_7, .int .i64 a0_8, .int .i64 a0_9, .int .i64 a0_10, .int .i64 a0_11, .int .i64 a0_12, .int .i64 a0_13, .int .i64 a0_14, .bool a0_15, .bool a0_16, (.slice A0_17 l0_17.length c0_17)] 33 (0, 0))) ∧ Aside0 (Below w.heap.size w w'))
  case atStart => exact ⟨(0), (by first | rfl | (simp; done) | (simp [*]; done)), H', ⟨Nat.le_refl _⟩, ⟨by (with_reducible repeat (first | refine blk_drewN ?_ _ | refine blk_drew ?_ | refine blk_alloc ?_ _)); exact BK164.out⟩, ⟨by repeat (first | (with_reducible first | exact HB.out | apply below_alloc | apply pw_below_drewN | apply below_drew1 | refine below_set ?_ GE164.out) | exact HB.out)⟩⟩
  case round =>
    clear H'
    try clear c1
    try clear p2
    obtain ⟨x5_1, rfl, HA, HK1, BK164, HB⟩ := hrel
    cases gk with
    | zero => exact absurd HA.out (by simp [supercargoref31_Asked.l0])
    | succ k1 =>
      have H := HA.out
      clear HA
      simp only [supercargoref31_Asked.l0] at H
      by_cases c4 : x5_1 < (l0_17.length : Int)
      · rw [if_pos c4] at H
        have c4b0 : decide (x5_1 < (l0_17.length : Int)) = true := decide_eq_true c4
        clear c4
        by_cases c5 : 0 ≤ x5_1
        · rw [if_pos c5] at H
          have c5b0 : decide (0 ≤ x5_1) = true := decide_eq_true c5
          clear c5
          by_cases c6 : ((rd_T45 l0_17 x5_1).f0) = a1
          · rw [if_pos c6] at H
            have c6b0 : (((rd_T45 l0_17 x5_1).f0) == a1) = true := beq_iff_eq.mpr c6
            have c6b1 : (((rd_T45 l0_17 x5_1).f0) != a1) = false := bne_eq_false_iff_eq.mpr c6
            clear c6
            obtain rfl := Option.some.inj H
            have hcz7_0 : wr.cell? ⟨gb164, 0, none⟩ = some (.string a0_0) := (blk_cell BK164.out 0).trans rfl
            have hcz7_1 : wr.cell? ⟨gb164, 1, none⟩ = some (.string a0_1) := (blk_cell BK164.out 1).trans rfl
            have hcz7_2 : wr.cell? ⟨gb164, 2, none⟩ = some (.string a0_2) := (blk_cell BK164.out 2).trans rfl
            have hcz7_3 : wr.cell? ⟨gb164, 3, none⟩ = some (.string a0_3) := (blk_cell BK164.out 3).trans rfl
            have hcz7_4 : wr.cell? ⟨gb164, 4, none⟩ = some (.string a0_4) := (blk_cell BK164.out 4).trans rfl
            have hcz7_5 : wr.cell? ⟨gb164, 5, none⟩ = some (.string a0_5) := (blk_cell BK164.out 5).trans rfl
            have hcz7_6 : wr.cell? ⟨gb164, 6, none⟩ = some (.string a0_6) := (blk_cell BK164.out 6).trans rfl
            have hcz7_7 : wr.cell? ⟨gb164, 7, none⟩ = some (.string a0_7) := (blk_cell BK164.out 7).trans rfl
            have hcz7_8 : wr.cell? ⟨gb164, 8, none⟩ = some (.int .i64 a0_8) := (blk_cell BK164.out 8).trans rfl
            have hcz7_9 : wr.cell? ⟨gb164, 9, none⟩ = some (.int .i64 a0_9) := (blk_cell BK164.out 9).trans rfl
            have hcz7_10 : wr.cell? ⟨gb164, 10, none⟩ = some (.int .i64 a0_10) := (blk_cell BK164.out 10).trans rfl
            have hcz7_11 : wr.cell? ⟨gb164, 11, none⟩ = some (.int .i64 a0_11) := (blk_cell BK164.out 11).trans rfl
            have hcz7_12 : wr.cell? ⟨gb164, 12, none⟩ = some (.int .i64 a0_12) := (blk_cell BK164.out 12).trans rfl
            have hcz7_13 : wr.cell? ⟨gb164, 13, none⟩ = some (.int .i64 a0_13) := (blk_cell BK164.out 13).trans rfl
            have hcz7_14 : wr.cell? ⟨gb164, 14, none⟩ = some (.int .i64 a0_14) := (blk_cell BK164.out 14).trans rfl
            have hcz7_15 : wr.cell? ⟨gb164, 15, none⟩ = some (.bool a0_15) := (blk_cell BK164.out 15).trans rfl
            have hcz7_16 : wr.cell? ⟨gb164, 16, none⟩ = some (.bool a0_16) := (blk_cell BK164.out 16).trans rfl
            have hcz7_17 : wr.cell? ⟨gb164, 17, none⟩ = some (.slice A0_17 l0_17.length c0_17) := (blk_cell BK164.out 17).trans rfl
            have hfz7_0 := blk_frozen BK164.out 0
            have hfz7_1 := blk_frozen BK164.out 1
            have hfz7_2 := blk_frozen BK164.out 2
            have hfz7_3 := blk_frozen BK164.out 3
            have hfz7_4 := blk_frozen BK164.out 4
            have hfz7_5 := blk_frozen BK164.out 5
            have hfz7_6 := blk_frozen BK164.out 6
            have hfz7_7 := blk_frozen BK164.out 7
            have hfz7_8 := blk_frozen BK164.out 8
            have hfz7_9 := blk_frozen BK164.out 9
            have hfz7_10 := blk_frozen BK164.out 10
            have hfz7_11 := blk_frozen BK164.out 11
            have hfz7_12 := blk_frozen BK164.out 12
            have hfz7_13 := blk_frozen BK164.out 13
            have hfz7_14 := blk_frozen BK164.out 14
            have hfz7_15 := blk_frozen BK164.out 15
            have hfz7_16 := blk_frozen BK164.out 16
            have hfz7_17 := blk_frozen BK164.out 17
            have p165 : 0 ≤ (x5_1 : Int) := of_decide_eq_true (by first | (with_reducible assumption) | assumption)
            have q165 : x5_1 < (l0_17.length : Int) := of_decide_eq_true (by first | (with_reducible assumption) | assumption)
            obtain ⟨ad165, A165_7, c165_7, e165, hx165_0, hx165_1, hx165_2, hx165_3, hx165_4, hx165_5, hx165_6, hx165_7, hl165_7, hi165_7⟩ := at_T45 HR0_17.out x5_1 p165 q165
            cases e165
            replace hx165_0 := (HB.out.cell (World.block_lt_of_cell? w _ hx165_0)).trans hx165_0
            replace hx165_1 := (HB.out.cell (World.block_lt_of_cell? w _ hx165_1)).trans hx165_1
            replace hx165_2 := (HB.out.cell (World.block_lt_of_cell? w _ hx165_2)).trans hx165_2
            replace hx165_3 := (HB.out.cell (World.block_lt_of_cell? w _ hx165_3)).trans hx165_3
            replace hx165_4 := (HB.out.cell (World.block_lt_of_cell? w _ hx165_4)).trans hx165_4
            replace hx165_5 := (HB.out.cell (World.block_lt_of_cell? w _ hx165_5)).trans hx165_5
            replace hx165_6 := (HB.out.cell (World.block_lt_of_cell? w _ hx165_6)).trans hx165_6
            replace hx165_7 := (HB.out.cell (World.block_lt_of_cell? w _ hx165_7)).trans hx165_7
            have HR165_7 := Aside0.mk hi165_7
            have HC165_7 := Aside0.mk hl165_7
            clear hi165_7 hl165_7
            replace p165 := eq_true p165
            replace q165 := eq_true q165
            go_wp2
            go_ret
            exact ⟨by first | rfl | (simp [errW_none, errW_some] <;> rfl) | (simp [*, errW_none, errW_some] <;> rfl), by repeat (first | (with_reducible first | exact HB.out | apply below_alloc | apply pw_below_drewN | apply below_drew1 | refine below_set ?_ GE164.out) | exact HB.out)⟩
          · rw [if_neg c6] at H
            have c6b0 : (((rd_T45 l0_17 x5_1).f0) == a1) = false := beq_eq_false_iff_ne.mpr c6
            have c6b1 : (((rd_T45 l0_17 x5_1).f0) != a1) = true := bne_iff_ne.mpr c6
            have H' := Aside0.mk H
            clear H
            have hcz8_0 : wr.cell? ⟨gb164, 0, none⟩ = some (.string a0_0) := (blk_cell BK164.out 0).trans rfl
            have hcz8_1 : wr.cell? ⟨gb164, 1, none⟩ = some (.string a0_1) := (blk_cell BK164.out 1).trans rfl
            have hcz8_2 : wr.cell? ⟨gb164, 2, none⟩ = some (.string a0_2) := (blk_cell BK164.out 2).trans rfl
            have hcz8_3 : wr.cell? ⟨gb164, 3, none⟩ = some (.string a0_3) := (blk_cell BK164.out 3).trans rfl
            have hcz8_4 : wr.cell? ⟨gb164, 4, none⟩ = some (.string a0_4) := (blk_cell BK164.out 4).trans rfl
            have hcz8_5 : wr.cell? ⟨gb164, 5, none⟩ = some (.string a0_5) := (blk_cell BK164.out 5).trans rfl
            have hcz8_6 : wr.cell? ⟨gb164, 6, none⟩ = some (.string a0_6) := (blk_cell BK164.out 6).trans rfl
            have hcz8_7 : wr.cell? ⟨gb164, 7, none⟩ = some (.string a0_7) := (blk_cell BK164.out 7).trans rfl
            have hcz8_8 : wr.cell? ⟨gb164, 8, none⟩ = some (.int .i64 a0_8) := (blk_cell BK164.out 8).trans rfl
            have hcz8_9 : wr.cell? ⟨gb164, 9, none⟩ = some (.int .i64 a0_9) := (blk_cell BK164.out 9).trans rfl
            have hcz8_10 : wr.cell? ⟨gb164, 10, none⟩ = some (.int .i64 a0_10) := (blk_cell BK164.out 10).trans rfl
            have hcz8_11 : wr.cell? ⟨gb164, 11, none⟩ = some (.int .i64 a0_11) := (blk_cell BK164.out 11).trans rfl
            have hcz8_12 : wr.cell? ⟨gb164, 12, none⟩ = some (.int .i64 a0_12) := (blk_cell BK164.out 12).trans rfl
            have hcz8_13 : wr.cell? ⟨gb164, 13, none⟩ = some (.int .i64 a0_13) := (blk_cell BK164.out 13).trans rfl
            have hcz8_14 : wr.cell? ⟨gb164, 14, none⟩ = some (.int .i64 a0_14) := (blk_cell BK164.out 14).trans rfl
            have hcz8_15 : wr.cell? ⟨gb164, 15, none⟩ = some (.bool a0_15) := (blk_cell BK164.out 15).trans rfl
            have hcz8_16 : wr.cell? ⟨gb164, 16, none⟩ = some (.bool a0_16) := (blk_cell BK164.out 16).trans rfl
            have hcz8_17 : wr.cell? ⟨gb164, 17, none⟩ = some (.slice A0_17 l0_17.length c0_17) := (blk_cell BK164.out 17).trans rfl
            have hfz8_0 := blk_frozen BK164.out 0
            have hfz8_1 := blk_frozen BK164.out 1
            have hfz8_2 := blk_frozen BK164.out 2
            have hfz8_3 := blk_frozen BK164.out 3
            have hfz8_4 := blk_frozen BK164.out 4
            have hfz8_5 := blk_frozen BK164.out 5
            have hfz8_6 := blk_frozen BK164.out 6
            have hfz8_7 := blk_frozen BK164.out 7
            have hfz8_8 := blk_frozen BK164.out 8
            have hfz8_9 := blk_frozen BK164.out 9
            have hfz8_10 := blk_frozen BK164.out 10
            have hfz8_11 := blk_frozen BK164.out 11
            have hfz8_12 := blk_frozen BK164.out 12
            have hfz8_13 := blk_frozen BK164.out 13
            have hfz8_14 := blk_frozen BK164.out 14
            have hfz8_15 := blk_frozen BK164.out 15
            have hfz8_16 := blk_frozen BK164.out 16
            have hfz8_17 := blk_frozen BK164.out 17
            have p165 : 0 ≤ (x5_1 : Int) := of_decide_eq_true (by first | (with_reducible assumption) | assumption)
            have q165 : x5_1 < (l0_17.length : Int) := of_decide_eq_true (by first | (with_reducible assumption) | assumption)
            obtain ⟨ad165, A165_7, c165_7, e165, hx165_0, hx165_1, hx165_2, hx165_3, hx165_4, hx165_5, hx165_6, hx165_7, hl165_7, hi165_7⟩ := at_T45 HR0_17.out x5_1 p165 q165
            cases e165
            replace hx165_0 := (HB.out.cell (World.block_lt_of_cell? w _ hx165_0)).trans hx165_0
            replace hx165_1 := (HB.out.cell (World.block_lt_of_cell? w _ hx165_1)).trans hx165_1
            replace hx165_2 := (HB.out.cell (World.block_lt_of_cell? w _ hx165_2)).trans hx165_2
            replace hx165_3 := (HB.out.cell (World.block_lt_of_cell? w _ hx165_3)).trans hx165_3
            replace hx165_4 := (HB.out.cell (World.block_lt_of_cell? w _ hx165_4)).trans hx165_4
            replace hx165_5 := (HB.out.cell (World.block_lt_of_cell? w _ hx165_5)).trans hx165_5
            replace hx165_6 := (HB.out.cell (World.block_lt_of_cell? w _ hx165_6)).trans hx165_6
            replace hx165_7 := (HB.out.cell (World.block_lt_of_cell? w _ hx165_7)).trans hx165_7
            have HR165_7 := Aside0.mk hi165_7
            have HC165_7 := Aside0.mk hl165_7
            clear hi165_7 hl165_7
            replace p165 := eq_true p165
            replace q165 := eq_true q165
            go_wp2
            go_roundg k1
            case measure => have := HK1.out; omega
            case rel => exact ⟨(wrap64 (x5_1 + 1)), (by first | rfl | (simp; done) | (simp [*]; done)), H', ⟨by have := HK1.out; omega⟩, ⟨by (with_reducible repeat (first | refine blk_drewN ?_ _ | refine blk_drew ?_ | refine blk_alloc ?_ _)); exact BK164.out⟩, ⟨by repeat (first | (with_reducible first | exact HB.out | apply below_alloc | apply pw_below_drewN | apply below_drew1 | refine below_set ?_ GE164.out) | exact HB.out)⟩⟩
        · rw [if_neg c5] at H
          exact absurd H (by simp)
      · rw [if_neg c4] at H
        have c4b0 : decide (x5_1 < (l0_17.length : Int)) = false := decide_eq_false c4
        clear c4
        obtain rfl := Option.some.inj H
        have hcz9_0 : wr.cell? ⟨gb164, 0, none⟩ = some (.string a0_0) := (blk_cell BK164.out 0).trans rfl
        have hcz9_1 : wr.cell? ⟨gb164, 1, none⟩ = some (.string a0_1) := (blk_cell BK164.out 1).trans rfl
        have hcz9_2 : wr.cell? ⟨gb164, 2, none⟩ = some (.string a0_2) := (blk_cell BK164.out 2).trans rfl
        have hcz9_3 : wr.cell? ⟨gb164, 3, none⟩ = some (.string a0_3) := (blk_cell BK164.out 3).trans rfl
        have hcz9_4 : wr.cell? ⟨gb164, 4, none⟩ = some (.string a0_4) := (blk_cell BK164.out 4).trans rfl
        have hcz9_5 : wr.cell? ⟨gb164, 5, none⟩ = some (.string a0_5) := (blk_cell BK164.out 5).trans rfl
        have hcz9_6 : wr.cell? ⟨gb164, 6, none⟩ = some (.string a0_6) := (blk_cell BK164.out 6).trans rfl
        have hcz9_7 : wr.cell? ⟨gb164, 7, none⟩ = some (.string a0_7) := (blk_cell BK164.out 7).trans rfl
        have hcz9_8 : wr.cell? ⟨gb164, 8, none⟩ = some (.int .i64 a0_8) := (blk_cell BK164.out 8).trans rfl
        have hcz9_9 : wr.cell? ⟨gb164, 9, none⟩ = some (.int .i64 a0_9) := (blk_cell BK164.out 9).trans rfl
        have hcz9_10 : wr.cell? ⟨gb164, 10, none⟩ = some (.int .i64 a0_10) := (blk_cell BK164.out 10).trans rfl
        have hcz9_11 : wr.cell? ⟨gb164, 11, none⟩ = some (.int .i64 a0_11) := (blk_cell BK164.out 11).trans rfl
        have hcz9_12 : wr.cell? ⟨gb164, 12, none⟩ = some (.int .i64 a0_12) := (blk_cell BK164.out 12).trans rfl
        have hcz9_13 : wr.cell? ⟨gb164, 13, none⟩ = some (.int .i64 a0_13) := (blk_cell BK164.out 13).trans rfl
        have hcz9_14 : wr.cell? ⟨gb164, 14, none⟩ = some (.int .i64 a0_14) := (blk_cell BK164.out 14).trans rfl
        have hcz9_15 : wr.cell? ⟨gb164, 15, none⟩ = some (.bool a0_15) := (blk_cell BK164.out 15).trans rfl
        have hcz9_16 : wr.cell? ⟨gb164, 16, none⟩ = some (.bool a0_16) := (blk_cell BK164.out 16).trans rfl
        have hcz9_17 : wr.cell? ⟨gb164, 17, none⟩ = some (.slice A0_17 l0_17.length c0_17) := (blk_cell BK164.out 17).trans rfl
        have hfz9_0 := blk_frozen BK164.out 0
        have hfz9_1 := blk_frozen BK164.out 1
        have hfz9_2 := blk_frozen BK164.out 2
        have hfz9_3 := blk_frozen BK164.out 3
        have hfz9_4 := blk_frozen BK164.out 4
        have hfz9_5 := blk_frozen BK164.out 5
        have hfz9_6 := blk_frozen BK164.out 6
        have hfz9_7 := blk_frozen BK164.out 7
        have hfz9_8 := blk_frozen BK164.out 8
        have hfz9_9 := blk_frozen BK164.out 9
        have hfz9_10 := blk_frozen BK164.out 10
        have hfz9_11 := blk_frozen BK164.out 11
        have hfz9_12 := blk_frozen BK164.out 12
        have hfz9_13 := blk_frozen BK164.out 13
        have hfz9_14 := blk_frozen BK164.out 14
        have hfz9_15 := blk_frozen BK164.out 15
        have hfz9_16 := blk_frozen BK164.out 16
        have hfz9_17 := blk_frozen BK164.out 17
        go_wp2
        go_ret
        exact ⟨by first | rfl | (simp [errW_none, errW_some] <;> rfl) | (simp [*, errW_none, errW_some] <;> rfl), by repeat (first | (with_reducible first | exact HB.out | apply below_alloc | apply pw_below_drewN | apply below_drew1 | refine below_set ?_ GE164.out) | exact HB.out)⟩

end Go.Proofs.YtcibglpbfaffgaaDoor.X
