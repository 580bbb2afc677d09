-- Printed by a program of this session's own (wip/mkprint.py), after the print that the kit describes.
import Derived.Test.YtcibglpbfaffgaaDoorX0
namespace Go.Proofs.YtcibglpbfaffgaaDoor.X
open Go.RowKit Go.Proofs.YtcibglpbfaffgaaDoorW.PrintWords Go.Proofs.YtcibglpbfaffgaaDoorW.PrintLast Go.Proofs.YtcibglpbfaffgaaDoorW.PrintMore
attribute [local go_sem] max2_int min2_int max_two min_two max_three min_three max_four min_four   -- for this text's walks alone
set_option linter.unusedVariables false
set_option linter.unusedSimpArgs false

/-! ### supercargoref31_Size: function 21 -/
mutual
def supercargoref31_Size.l0 : Nat → Int → Int → Int → Int → Int → ByteArray → ByteArray → Int → List (S43) → Option (Int)
  | 0, _, _, _, _, _, _, _, _, _ => none
  | k + 1, x1, x5, x6, x153000, x153001, x153002, x153003, x153004, x153005 => if x6 < (x153005.length : Int) then (if x5 < x1 then (if 0 ≤ x6 then ((supercargoref31_Size.f k ((rd_T43 x153005 x6).f0) ((rd_T43 x153005 x6).f1) ((rd_T43 x153005 x6).f2) ((rd_T43 x153005 x6).f3) ((rd_T43 x153005 x6).f4) ((rd_T43 x153005 x6).f5) (wrap64 (x1 - x5))).bind fun t154 => (supercargoref31_Size.l0 k x1 (wrap64 (x5 + t154)) (wrap64 (x6 + 1)) x153000 x153001 x153002 x153003 x153004 x153005)) else (none)) else (some x5)) else (some x5)
def supercargoref31_Size.f : Nat → Int → Int → ByteArray → ByteArray → Int → List (S43) → Int → Option (Int)
  | 0, _, _, _, _, _, _, _ => none
  | k + 1, a0_0, a0_1, a0_2, a0_3, a0_4, l0_5, a1 => if a1 ≤ 0 then (some 1) else (supercargoref31_Size.l0 k a1 (wrap64 ((wrap64 (1 + (wrap64 ((a0_2.size : Int) / 200)))) + (wrap64 ((a0_3.size : Int) / 200)))) 0 a0_0 a0_1 a0_2 a0_3 a0_4 l0_5)
end
theorem supercargoref31_Size.mono_l : ∀ k, (∀ y0 y1 y2 y3 y4 y5 y6, LeO (supercargoref31_Size.f k y0 y1 y2 y3 y4 y5 y6) (supercargoref31_Size.f (k + 1) y0 y1 y2 y3 y4 y5 y6)) ∧ (∀ y0 y1 y2 y3 y4 y5 y6 y7 y8, LeO (supercargoref31_Size.l0 k y0 y1 y2 y3 y4 y5 y6 y7 y8) (supercargoref31_Size.l0 (k + 1) y0 y1 y2 y3 y4 y5 y6 y7 y8))
  | 0 => ⟨fun _ _ _ _ _ _ _ r h => by simp [supercargoref31_Size.f] at h, fun _ _ _ _ _ _ _ _ _ r h => by simp [supercargoref31_Size.l0] at h⟩
  | k + 1 => by
    obtain ⟨ih0, ih1⟩ := supercargoref31_Size.mono_l k
    refine ⟨?_, ?_⟩
    · intro y0 y1 y2 y3 y4 y5 y6
      unfold supercargoref31_Size.f
      repeat' first
      | (with_reducible exact ih0 _ _ _ _ _ _ _)
      | (with_reducible exact ih1 _ _ _ _ _ _ _ _ _)
      | (with_reducible exact LeO.refl _)
      | (with_reducible exact LeO.none _)
      | (with_reducible refine LeO.ite ?_ ?_)
      | (with_reducible refine LeO.bind ?_ (fun _ => ?_))
      | exact ih0 _ _ _ _ _ _ _
      | exact ih1 _ _ _ _ _ _ _ _ _
      | exact LeO.none _
      | refine LeO.ite ?_ ?_
      | refine LeO.bind ?_ (fun _ => ?_)
    · intro y0 y1 y2 y3 y4 y5 y6 y7 y8
      unfold supercargoref31_Size.l0
      repeat' first
      | (with_reducible exact ih0 _ _ _ _ _ _ _)
      | (with_reducible exact ih1 _ _ _ _ _ _ _ _ _)
      | (with_reducible exact LeO.refl _)
      | (with_reducible exact LeO.none _)
      | (with_reducible refine LeO.ite ?_ ?_)
      | (with_reducible refine LeO.bind ?_ (fun _ => ?_))
      | exact ih0 _ _ _ _ _ _ _
      | exact ih1 _ _ _ _ _ _ _ _ _
      | exact LeO.none _
      | refine LeO.ite ?_ ?_
      | refine LeO.bind ?_ (fun _ => ?_)
theorem supercargoref31_Size.mono : ∀ a0 a1 a2 a3 a4 a5 a6 k, LeO (supercargoref31_Size.f k a0 a1 a2 a3 a4 a5 a6) (supercargoref31_Size.f (k + 1) a0 a1 a2 a3 a4 a5 a6) := by
  intro a0 a1 a2 a3 a4 a5 a6 k
  obtain ⟨ih0, ih1⟩ := supercargoref31_Size.mono_l k
  exact ih0 a0 a1 a2 a3 a4 a5 a6
set_option maxHeartbeats 8000000 in
set_option maxRecDepth 100000 in
theorem supercargoref31_Size.calls (k : Nat) : ∀ (a0_0 : Int) (a0_1 : Int) (a0_2 : ByteArray) (a0_3 : ByteArray) (a0_4 : Int) (A0_5 : Option Addr) (c0_5 : Nat) (l0_5 : List (S43)) (a1 : Int) (r : Int) (w : World) (hr0_5 : Kd.C k43 w A0_5 l0_5.length l0_5) (hc0_5 : l0_5.length ≤ c0_5) (h : supercargoref31_Size.f k a0_0 a0_1 a0_2 a0_3 a0_4 l0_5 a1 = some r),
    Calls Tryd.prog 21 #[.agg #[.int .i64 a0_0, .int .i64 a0_1, .string a0_2, .string a0_3, .int .i64 a0_4, .slice A0_5 l0_5.length c0_5], .int .i64 a1] w fun e w' => e = .returned (.int .i64 r) ∧ Below w.heap.size w w' := by
  induction k using Nat.strongRecOn with
  | _ k ih =>
  intro a0_0 a0_1 a0_2 a0_3 a0_4 A0_5 c0_5 l0_5 a1 r w hr0_5 hc0_5 h
  cases k with
  | zero => exact absurd h (by simp [supercargoref31_Size.f])
  | succ k =>
  simp only [supercargoref31_Size.f] at h
  have hu43 := Tryd.underlying43
  have HR0_5 := Aside0.mk hr0_5
  have HC0_5 := Aside0.mk hc0_5
  clear hr0_5 hc0_5
  have HB := Aside0.mk (Below.refl w.heap.size w)
  have H : (if a1 ≤ 0 then (some 1) else (supercargoref31_Size.l0 k a1 (wrap64 ((wrap64 (1 + (wrap64 ((a0_2.size : Int) / 200)))) + (wrap64 ((a0_3.size : Int) / 200)))) 0 a0_0 a0_1 a0_2 a0_3 a0_4 l0_5)) = some r := h
  clear h
  by_cases c3 : a1 ≤ 0
  · rw [if_pos c3] at H
    have c3b0 : decide (a1 ≤ 0) = true := decide_eq_true c3
    clear c3
    obtain rfl := Option.some.inj H
    go_enter Tryd.func21, Tryd.ntmps21
    go_wp2_with (first | ((with_reducible refine gate_dst (N := 2) rfl ?_); refine box_event ?hg (N := 2) ?hd (cs := #[.int .i64 a0_0, .int .i64 a0_1, .string a0_2, .string a0_3, .int .i64 a0_4, .slice A0_5 l0_5.length c0_5]) (t := 43) ?hr ?_; (case hd => rfl); (case hg => rfl); (case hr => first | (go_simp; done) | (go_simp; rfl)); intro gb152 hg w4 hbox hb; have n0_ := Aside0.mk (below_step (by repeat (first | (with_reducible first | exact HB.out | apply below_alloc | apply pw_below_drewN | apply below_drew1) | exact HB.out)) hb); have n1_ := Aside0.mk (hbox); have n2_ := Aside0.mk ((by rw [hg]; exact (below_size (by repeat (first | (with_reducible first | exact HB.out | apply below_alloc | apply pw_below_drewN | apply below_drew1) | exact HB.out))) : w.heap.size ≤ gb152)); have n3_ := Aside0.mk ((by rw [hg]; exact (below_size (by repeat (first | (with_reducible first | exact HB.out | apply below_alloc | apply pw_below_drewN | apply below_drew1) | exact HB.out))) : w.heap.size ≤ gb152)); clear HB; have HB := n0_; have BK152 := n1_; have GW152 := n2_; have GE152 := n3_; clear n0_ n1_ n2_ n3_; clear hb hbox hg))
    go_ret
    exact ⟨by first | rfl | (simp [errW_none, errW_some] <;> rfl) | (simp [*, errW_none, errW_some] <;> rfl), by repeat (first | (with_reducible first | exact HB.out | apply below_alloc | apply pw_below_drewN | apply below_drew1 | refine below_set ?_ GE152.out) | exact HB.out)⟩
  · rw [if_neg c3] at H
    have c3b0 : decide (a1 ≤ 0) = false := decide_eq_false c3
    clear c3
    have H' := Aside0.mk H
    clear H
    go_enter Tryd.func21, Tryd.ntmps21
    go_wp2_with (first | ((with_reducible refine gate_dst (N := 2) rfl ?_); refine box_event ?hg (N := 2) ?hd (cs := #[.int .i64 a0_0, .int .i64 a0_1, .string a0_2, .string a0_3, .int .i64 a0_4, .slice A0_5 l0_5.length c0_5]) (t := 43) ?hr ?_; (case hd => rfl); (case hg => rfl); (case hr => first | (go_simp; done) | (go_simp; rfl)); intro gb152 hg w5 hbox hb; have n0_ := Aside0.mk (below_step (by repeat (first | (with_reducible first | exact HB.out | apply below_alloc | apply pw_below_drewN | apply below_drew1) | exact HB.out)) hb); have n1_ := Aside0.mk (hbox); have n2_ := Aside0.mk ((by rw [hg]; exact (below_size (by repeat (first | (with_reducible first | exact HB.out | apply below_alloc | apply pw_below_drewN | apply below_drew1) | exact HB.out))) : w.heap.size ≤ gb152)); have n3_ := Aside0.mk ((by rw [hg]; exact (below_size (by repeat (first | (with_reducible first | exact HB.out | apply below_alloc | apply pw_below_drewN | apply below_drew1) | exact HB.out))) : w.heap.size ≤ gb152)); clear HB; have HB := n0_; have BK152 := n1_; have GW152 := n2_; have GE152 := n3_; clear n0_ n1_ n2_ n3_; clear hb hbox hg; have hcz6_0 : w5.cell? ⟨gb152, 0, none⟩ = some (.int .i64 a0_0) := (blk_cell BK152.out 0).trans rfl; have hcz6_1 : w5.cell? ⟨gb152, 1, none⟩ = some (.int .i64 a0_1) := (blk_cell BK152.out 1).trans rfl; have hcz6_2 : w5.cell? ⟨gb152, 2, none⟩ = some (.string a0_2) := (blk_cell BK152.out 2).trans rfl; have hcz6_3 : w5.cell? ⟨gb152, 3, none⟩ = some (.string a0_3) := (blk_cell BK152.out 3).trans rfl; have hcz6_4 : w5.cell? ⟨gb152, 4, none⟩ = some (.int .i64 a0_4) := (blk_cell BK152.out 4).trans rfl; have hcz6_5 : w5.cell? ⟨gb152, 5, none⟩ = some (.slice A0_5 l0_5.length c0_5) := (blk_cell BK152.out 5).trans rfl; have hfz6_0 := blk_frozen BK152.out 0; have hfz6_1 := blk_frozen BK152.out 1; have hfz6_2 := blk_frozen BK152.out 2; have hfz6_3 := blk_frozen BK152.out 3; have hfz6_4 := blk_frozen BK152.out 4; have hfz6_5 := blk_frozen BK152.out 5))
    go_loopg [5, 6] k (fun kq v5 v6 w' => ∃ (x5_1 : Int) (x6_1 : Int), v5 = .int .i64 x5_1 ∧ v6 = .int .i64 x6_1 ∧ Aside0 (supercargoref31_Size.l0 kq a1 x5_1 x6_1 a0_0 a0_1 a0_2 a0_3 a0_4 l0_5 = some r) ∧ Aside0 (kq ≤ k) ∧ Aside0 (w'.heap[gb152]? = some (.cells #[.int .i64 a0_0, .int .i64 a0_1, .string a0_2, .string a0_3, .int .i64 a0_4, (.slice A0_5 l0_5.length c0_5)] 43 (0, 0))) ∧ Aside0 (Below w.heap.size w w'))
    case atStart => exact ⟨(wrap64 ((wrap64 (1 + (wrap64 ((a0_2.size : Int) / 200)))) + (wrap64 ((a0_3.size : Int) / 200)))), (0), (by first | rfl | (simp; done) | (simp [*]; done)), (by first | rfl | (simp; done) | (simp [*]; done)), H', ⟨Nat.le_refl _⟩, ⟨by (with_reducible repeat (first | refine blk_drewN ?_ _ | refine blk_drew ?_ | refine blk_alloc ?_ _)); exact BK152.out⟩, ⟨by repeat (first | (with_reducible first | exact HB.out | apply below_alloc | apply pw_below_drewN | apply below_drew1 | refine below_set ?_ GE152.out) | exact HB.out)⟩⟩
    case round =>
      clear H'
      try clear c2
      try clear p2
      try clear c3
      try clear c3b0
      try clear p6
      try clear hcz6_0
      try clear hcz6_1
      try clear hcz6_2
      try clear hcz6_3
      try clear hcz6_4
      try clear hcz6_5
      try clear hfz6_0
      try clear hfz6_1
      try clear hfz6_2
      try clear hfz6_3
      try clear hfz6_4
      try clear hfz6_5
      obtain ⟨x5_1, x6_1, rfl, rfl, HA, HK1, BK152, HB⟩ := hrel
      cases gk with
      | zero => exact absurd HA.out (by simp [supercargoref31_Size.l0])
      | succ k1 =>
        have H := HA.out
        clear HA
        simp only [supercargoref31_Size.l0] at H
        by_cases c7 : x6_1 < (l0_5.length : Int)
        · rw [if_pos c7] at H
          have c7b0 : decide (x6_1 < (l0_5.length : Int)) = true := decide_eq_true c7
          clear c7
          by_cases c8 : x5_1 < a1
          · rw [if_pos c8] at H
            have c8b0 : decide (x5_1 < a1) = true := decide_eq_true c8
            clear c8
            by_cases c9 : 0 ≤ x6_1
            · rw [if_pos c9] at H
              have c9b0 : decide (0 ≤ x6_1) = true := decide_eq_true c9
              clear c9
              replace H := Option.bind_eq_some_iff.mp H
              obtain ⟨t154, A100, H⟩ := H
              replace H : (supercargoref31_Size.l0 k1 a1 (wrap64 (x5_1 + t154)) (wrap64 (x6_1 + 1)) a0_0 a0_1 a0_2 a0_3 a0_4 l0_5) = some r := H
              have A10 := Aside0.mk A100
              clear A100
              have H' := Aside0.mk H
              clear H
              have hcz11_0 : wr.cell? ⟨gb152, 0, none⟩ = some (.int .i64 a0_0) := (blk_cell BK152.out 0).trans rfl
              have hcz11_1 : wr.cell? ⟨gb152, 1, none⟩ = some (.int .i64 a0_1) := (blk_cell BK152.out 1).trans rfl
              have hcz11_2 : wr.cell? ⟨gb152, 2, none⟩ = some (.string a0_2) := (blk_cell BK152.out 2).trans rfl
              have hcz11_3 : wr.cell? ⟨gb152, 3, none⟩ = some (.string a0_3) := (blk_cell BK152.out 3).trans rfl
              have hcz11_4 : wr.cell? ⟨gb152, 4, none⟩ = some (.int .i64 a0_4) := (blk_cell BK152.out 4).trans rfl
              have hcz11_5 : wr.cell? ⟨gb152, 5, none⟩ = some (.slice A0_5 l0_5.length c0_5) := (blk_cell BK152.out 5).trans rfl
              have hfz11_0 := blk_frozen BK152.out 0
              have hfz11_1 := blk_frozen BK152.out 1
              have hfz11_2 := blk_frozen BK152.out 2
              have hfz11_3 := blk_frozen BK152.out 3
              have hfz11_4 := blk_frozen BK152.out 4
              have hfz11_5 := blk_frozen BK152.out 5
              have p153 : 0 ≤ (x6_1 : Int) := of_decide_eq_true (by first | (with_reducible assumption) | assumption)
              have q153 : x6_1 < (l0_5.length : Int) := of_decide_eq_true (by first | (with_reducible assumption) | assumption)
              obtain ⟨ad153, A153_5, c153_5, e153, hx153_0, hx153_1, hx153_2, hx153_3, hx153_4, hx153_5, hl153_5, hi153_5⟩ := at_T43 HR0_5.out x6_1 p153 q153
              cases e153
              replace hx153_0 := (HB.out.cell (World.block_lt_of_cell? w _ hx153_0)).trans hx153_0
              replace hx153_1 := (HB.out.cell (World.block_lt_of_cell? w _ hx153_1)).trans hx153_1
              replace hx153_2 := (HB.out.cell (World.block_lt_of_cell? w _ hx153_2)).trans hx153_2
              replace hx153_3 := (HB.out.cell (World.block_lt_of_cell? w _ hx153_3)).trans hx153_3
              replace hx153_4 := (HB.out.cell (World.block_lt_of_cell? w _ hx153_4)).trans hx153_4
              replace hx153_5 := (HB.out.cell (World.block_lt_of_cell? w _ hx153_5)).trans hx153_5
              have HR153_5 := Aside0.mk hi153_5
              have HC153_5 := Aside0.mk hl153_5
              clear hi153_5 hl153_5
              replace p153 := eq_true p153
              replace q153 := eq_true q153
              go_wp2_with (first | ((with_reducible refine gate_callee (f := 21) rfl ?_); refine goesL_ (some 40) rfl rfl Tryd.func21 (by kernel_rfl) rfl #[.agg #[.int .i64 ((rd_T43 l0_5 x6_1).f0), .int .i64 ((rd_T43 l0_5 x6_1).f1), .string ((rd_T43 l0_5 x6_1).f2), .string ((rd_T43 l0_5 x6_1).f3), .int .i64 ((rd_T43 l0_5 x6_1).f4), .slice A153_5 ((rd_T43 l0_5 x6_1).f5).length c153_5], .int .i64 (wrap64 (a1 - x5_1))] rfl (by (try simp only [List.map_toArray, List.map_cons, List.map_nil]); first | done | rfl | (simp only [List.length_drop, List.length_take]; rfl)) ?_; (with_reducible refine (ih k1 (by have := HK1.out; omega) ((rd_T43 l0_5 x6_1).f0) ((rd_T43 l0_5 x6_1).f1) ((rd_T43 l0_5 x6_1).f2) ((rd_T43 l0_5 x6_1).f3) ((rd_T43 l0_5 x6_1).f4) _ _ ((rd_T43 l0_5 x6_1).f5) (wrap64 (a1 - x5_1)) t154 _ ?side1 ?side2 A10.out).mono ?_); (case side1 => repeat (first | exact (Kd.C_below HR153_5.out HB.out) | (with_reducible refine Kd.C_alloc ?_ _) | (with_reducible refine Kd.C_drewN ?_ _) | (with_reducible refine Kd.C_drew ?_))); (case side2 => exact HC153_5.out); rintro e w12 ⟨rfl, hb⟩; refine ⟨_, rfl, ?_⟩; have n0_ := Aside0.mk (blk_below (g := gb152) (o := .cells #[.int .i64 a0_0, .int .i64 a0_1, .string a0_2, .string a0_3, .int .i64 a0_4, .slice (some ad153) l0_5.length c0_5] 43 (0, 0)) (by (with_reducible repeat (first | refine blk_drewN ?_ _ | refine blk_drew ?_ | refine blk_alloc ?_ _)); exact BK152.out) hb); have n1_ := Aside0.mk (below_step (by repeat (first | (with_reducible first | exact HB.out | apply below_alloc | apply pw_below_drewN | apply below_drew1 | refine below_set ?_ GE152.out) | exact HB.out)) hb); clear BK152; clear HB; have BK152 := n0_; have HB := n1_; clear n0_ n1_; (try clear hb); (try clear hb2); (try clear hk); (try clear hi)))
              go_roundg k1
              case measure => have := HK1.out; omega
              case rel => exact ⟨(wrap64 (x5_1 + t154)), (wrap64 (x6_1 + 1)), (by first | rfl | (simp; done) | (simp [*]; done)), (by first | rfl | (simp; done) | (simp [*]; done)), H', ⟨by have := HK1.out; omega⟩, ⟨by (with_reducible repeat (first | refine blk_drewN ?_ _ | refine blk_drew ?_ | refine blk_alloc ?_ _)); exact BK152.out⟩, ⟨by repeat (first | (with_reducible first | exact HB.out | apply below_alloc | apply pw_below_drewN | apply below_drew1 | refine below_set ?_ GE152.out) | exact HB.out)⟩⟩
            · rw [if_neg c9] at H
              exact absurd H (by simp)
          · rw [if_neg c8] at H
            have c8b0 : decide (x5_1 < a1) = false := decide_eq_false c8
            clear c8
            obtain rfl := Option.some.inj H
            have hcz13_0 : wr.cell? ⟨gb152, 0, none⟩ = some (.int .i64 a0_0) := (blk_cell BK152.out 0).trans rfl
            have hcz13_1 : wr.cell? ⟨gb152, 1, none⟩ = some (.int .i64 a0_1) := (blk_cell BK152.out 1).trans rfl
            have hcz13_2 : wr.cell? ⟨gb152, 2, none⟩ = some (.string a0_2) := (blk_cell BK152.out 2).trans rfl
            have hcz13_3 : wr.cell? ⟨gb152, 3, none⟩ = some (.string a0_3) := (blk_cell BK152.out 3).trans rfl
            have hcz13_4 : wr.cell? ⟨gb152, 4, none⟩ = some (.int .i64 a0_4) := (blk_cell BK152.out 4).trans rfl
            have hcz13_5 : wr.cell? ⟨gb152, 5, none⟩ = some (.slice A0_5 l0_5.length c0_5) := (blk_cell BK152.out 5).trans rfl
            have hfz13_0 := blk_frozen BK152.out 0
            have hfz13_1 := blk_frozen BK152.out 1
            have hfz13_2 := blk_frozen BK152.out 2
            have hfz13_3 := blk_frozen BK152.out 3
            have hfz13_4 := blk_frozen BK152.out 4
            have hfz13_5 := blk_frozen BK152.out 5
            go_wp2
            go_ret
            exact ⟨by first | rfl | (simp [errW_none, errW_some] <;> rfl) | (simp [*, errW_none, errW_some] <;> rfl), by repeat (first | (with_reducible first | exact HB.out | apply below_alloc | apply pw_below_drewN | apply below_drew1 | refine below_set ?_ GE152.out) | exact HB.out)⟩
        · rw [if_neg c7] at H
          have c7b0 : decide (x6_1 < (l0_5.length : Int)) = false := decide_eq_false c7
          clear c7
          obtain rfl := Option.some.inj H
          have hcz14_0 : wr.cell? ⟨gb152, 0, none⟩ = some (.int .i64 a0_0) := (blk_cell BK152.out 0).trans rfl
          have hcz14_1 : wr.cell? ⟨gb152, 1, none⟩ = some (.int .i64 a0_1) := (blk_cell BK152.out 1).trans rfl
          have hcz14_2 : wr.cell? ⟨gb152, 2, none⟩ = some (.string a0_2) := (blk_cell BK152.out 2).trans rfl
          have hcz14_3 : wr.cell? ⟨gb152, 3, none⟩ = some (.string a0_3) := (blk_cell BK152.out 3).trans rfl
          have hcz14_4 : wr.cell? ⟨gb152, 4, none⟩ = some (.int .i64 a0_4) := (blk_cell BK152.out 4).trans rfl
          have hcz14_5 : wr.cell? ⟨gb152, 5, none⟩ = some (.slice A0_5 l0_5.length c0_5) := (blk_cell BK152.out 5).trans rfl
          have hfz14_0 := blk_frozen BK152.out 0
          have hfz14_1 := blk_frozen BK152.out 1
          have hfz14_2 := blk_frozen BK152.out 2
          have hfz14_3 := blk_frozen BK152.out 3
          have hfz14_4 := blk_frozen BK152.out 4
          have hfz14_5 := blk_frozen BK152.out 5
          go_wp2
          go_ret
          exact ⟨by first | rfl | (simp [errW_none, errW_some] <;> rfl) | (simp [*, errW_none, errW_some] <;> rfl), by repeat (first | (with_reducible first | exact HB.out | apply below_alloc | apply pw_below_drewN | apply below_drew1 | refine below_set ?_ GE152.out) | exact HB.out)⟩

end Go.Proofs.YtcibglpbfaffgaaDoor.X
