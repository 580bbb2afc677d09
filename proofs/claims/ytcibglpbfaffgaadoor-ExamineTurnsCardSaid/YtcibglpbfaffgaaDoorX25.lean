-- Printed by a program of this session's own (wip/mkprint.py), after the print that the kit describes.
import Derived.Test.YtcibglpbfaffgaaDoorX0
import Derived.Test.YtcibglpbfaffgaaDoorX24
import Derived.Test.YtcibglpbfaffgaaDoorG0
namespace Go.Proofs.YtcibglpbfaffgaaDoor.X
open Go.RowKit Go.Proofs.YtcibglpbfaffgaaDoorW.PrintWords Go.Proofs.YtcibglpbfaffgaaDoorW.PrintLast Go.Proofs.YtcibglpbfaffgaaDoorW.PrintMore
attribute [local go_sem] max2_int min2_int max_two min_two max_three min_three max_four min_four   -- for this text's walks alone
set_option linter.unusedVariables false
set_option linter.unusedSimpArgs false

/-! ### examine_rule: function 36 -/
mutual
def examine_rule.j2 : Nat → List (S37) → List Int → Int → Int → ByteArray → ByteArray → Int → List (S43) → Int → ByteArray → ByteArray → List (S66) → Option (Int)
  | 0, _, _, _, _, _, _, _, _, _, _, _, _ => none
  | k + 1, x1, x7, x295000, x295001, x295002, x295003, x295004, x295005, x296000, x296001, x296002, x296003 => if x295000 = 0 then (if x7.length < 17592186044416 then ((slices_Max_int_int.f (x7 ++ [0])).bind fun t305 => (some t305)) else (none)) else (if x295000 = 1 then (if x7.length < 17592186044416 then ((slices_Min_int_int.f (x7 ++ [2])).bind fun t309 => (some t309)) else (none)) else (if x295000 = 2 then (if x7.length < 17592186044416 then ((slices_Max_int_int.f (x7 ++ [0])).bind fun t313 => (some (wrap64 (2 - t313)))) else (none)) else (if x295000 = 3 then ((examine_atom.f k x295000 x295001 x295002 x295003 x295004 x295005 x1 x296000 x296001 x296002 x296003).bind fun t314 => (some t314)) else (if x295000 = 4 then ((examine_atom.f k x295000 x295001 x295002 x295003 x295004 x295005 x1 x296000 x296001 x296002 x296003).bind fun t315 => (some t315)) else (if x295000 = 5 then ((examine_atom.f k x295000 x295001 x295002 x295003 x295004 x295005 x1 x296000 x296001 x296002 x296003).bind fun t316 => (some t316)) else (if x295000 = 6 then ((examine_atom.f k x295000 x295001 x295002 x295003 x295004 x295005 x1 x296000 x296001 x296002 x296003).bind fun t317 => (some t317)) else (if x295000 = 7 then ((examine_atom.f k x295000 x295001 x295002 x295003 x295004 x295005 x1 x296000 x296001 x296002 x296003).bind fun t318 => (some t318)) else (some 2))))))))
def examine_rule.j0 : Nat → List (S37) → List Int → Bool → Int → Int → ByteArray → ByteArray → Int → List (S43) → Int → ByteArray → ByteArray → List (S66) → Option (Int)
  | 0, _, _, _, _, _, _, _, _, _, _, _, _, _ => none
  | k + 1, x1, x7, x12, x295000, x295001, x295002, x295003, x295004, x295005, x296000, x296001, x296002, x296003 => if x12 = true then (examine_rule.l0 k x1 x7 x295005 (x295005.length : Int) 0 x295000 x295001 x295002 x295003 x295004 x295005 x296000 x296001 x296002 x296003) else (examine_rule.j2 k x1 x7 x295000 x295001 x295002 x295003 x295004 x295005 x296000 x296001 x296002 x296003)
def examine_rule.l0 : Nat → List (S37) → List Int → List (S43) → Int → Int → Int → Int → ByteArray → ByteArray → Int → List (S43) → Int → ByteArray → ByteArray → List (S66) → Option (Int)
  | 0, _, _, _, _, _, _, _, _, _, _, _, _, _, _, _ => none
  | k + 1, x1, x7, x17, x18, x19, x295000, x295001, x295002, x295003, x295004, x295005, x296000, x296001, x296002, x296003 => if x19 < x18 then (if 0 ≤ x19 then (if x19 < (x17.length : Int) then ((examine_rule.f k ((rd_T43 x17 x19).f0) ((rd_T43 x17 x19).f1) ((rd_T43 x17 x19).f2) ((rd_T43 x17 x19).f3) ((rd_T43 x17 x19).f4) ((rd_T43 x17 x19).f5) x1 x296000 x296001 x296002 x296003).bind fun t298 => (if x7.length < 17592186044416 then (examine_rule.l0 k x1 (x7 ++ [t298]) x17 x18 (wrap64 (x19 + 1)) x295000 x295001 x295002 x295003 x295004 x295005 x296000 x296001 x296002 x296003) else (none))) else (none)) else (none)) else (examine_rule.j2 k x1 x7 x295000 x295001 x295002 x295003 x295004 x295005 x296000 x296001 x296002 x296003)
def examine_rule.f : Nat → Int → Int → ByteArray → ByteArray → Int → List (S43) → List (S37) → Int → ByteArray → ByteArray → List (S66) → Option (Int)
  | 0, _, _, _, _, _, _, _, _, _, _, _ => none
  | k + 1, a0_0, a0_1, a0_2, a0_3, a0_4, l0_5, l1, a2_0, a2_1, a2_2, l2_3 => if a0_0 = 0 then (examine_rule.j0 k l1 ([] : List Int) (a0_0 == 0) a0_0 a0_1 a0_2 a0_3 a0_4 l0_5 a2_0 a2_1 a2_2 l2_3) else (if a0_0 = 1 then (examine_rule.j0 k l1 ([] : List Int) (a0_0 == 1) a0_0 a0_1 a0_2 a0_3 a0_4 l0_5 a2_0 a2_1 a2_2 l2_3) else (examine_rule.j0 k l1 ([] : List Int) (a0_0 == 2) a0_0 a0_1 a0_2 a0_3 a0_4 l0_5 a2_0 a2_1 a2_2 l2_3))
end
theorem examine_rule.mono_l : ∀ k, (∀ y0 y1 y2 y3 y4 y5 y6 y7 y8 y9 y10, LeO (examine_rule.f k y0 y1 y2 y3 y4 y5 y6 y7 y8 y9 y10) (examine_rule.f (k + 1) y0 y1 y2 y3 y4 y5 y6 y7 y8 y9 y10)) ∧ (∀ y0 y1 y2 y3 y4 y5 y6 y7 y8 y9 y10 y11, LeO (examine_rule.j2 k y0 y1 y2 y3 y4 y5 y6 y7 y8 y9 y10 y11) (examine_rule.j2 (k + 1) y0 y1 y2 y3 y4 y5 y6 y7 y8 y9 y10 y11)) ∧ (∀ y0 y1 y2 y3 y4 y5 y6 y7 y8 y9 y10 y11 y12, LeO (examine_rule.j0 k y0 y1 y2 y3 y4 y5 y6 y7 y8 y9 y10 y11 y12) (examine_rule.j0 (k + 1) y0 y1 y2 y3 y4 y5 y6 y7 y8 y9 y10 y11 y12)) ∧ (∀ y0 y1 y2 y3 y4 y5 y6 y7 y8 y9 y10 y11 y12 y13 y14, LeO (examine_rule.l0 k y0 y1 y2 y3 y4 y5 y6 y7 y8 y9 y10 y11 y12 y13 y14) (examine_rule.l0 (k + 1) y0 y1 y2 y3 y4 y5 y6 y7 y8 y9 y10 y11 y12 y13 y14))
  | 0 => ⟨fun _ _ _ _ _ _ _ _ _ _ _ r h => by simp [examine_rule.f] at h, fun _ _ _ _ _ _ _ _ _ _ _ _ r h => by simp [examine_rule.j2] at h, fun _ _ _ _ _ _ _ _ _ _ _ _ _ r h => by simp [examine_rule.j0] at h, fun _ _ _ _ _ _ _ _ _ _ _ _ _ _ _ r h => by simp [examine_rule.l0] at h⟩
  | k + 1 => by
    obtain ⟨ih0, ih1, ih2, ih3⟩ := examine_rule.mono_l k
    refine ⟨?_, ?_, ?_, ?_⟩
    · intro y0 y1 y2 y3 y4 y5 y6 y7 y8 y9 y10
      unfold examine_rule.f
      repeat' first
      | (with_reducible exact ih0 _ _ _ _ _ _ _ _ _ _ _)
      | (with_reducible exact ih1 _ _ _ _ _ _ _ _ _ _ _ _)
      | (with_reducible exact ih2 _ _ _ _ _ _ _ _ _ _ _ _ _)
      | (with_reducible exact ih3 _ _ _ _ _ _ _ _ _ _ _ _ _ _ _)
      | (with_reducible exact examine_atom.mono _ _ _ _ _ _ _ _ _ _ _ _)
      | (with_reducible exact LeO.refl _)
      | (with_reducible exact LeO.none _)
      | (with_reducible refine LeO.ite ?_ ?_)
      | (with_reducible refine LeO.bind ?_ (fun _ => ?_))
      | exact ih0 _ _ _ _ _ _ _ _ _ _ _
      | exact ih1 _ _ _ _ _ _ _ _ _ _ _ _
      | exact ih2 _ _ _ _ _ _ _ _ _ _ _ _ _
      | exact ih3 _ _ _ _ _ _ _ _ _ _ _ _ _ _ _
      | exact examine_atom.mono _ _ _ _ _ _ _ _ _ _ _ _
      | exact LeO.none _
      | refine LeO.ite ?_ ?_
      | refine LeO.bind ?_ (fun _ => ?_)
    · intro y0 y1 y2 y3 y4 y5 y6 y7 y8 y9 y10 y11
      unfold examine_rule.j2
      repeat' first
      | (with_reducible exact ih0 _ _ _ _ _ _ _ _ _ _ _)
      | (with_reducible exact ih1 _ _ _ _ _ _ _ _ _ _ _ _)
      | (with_reducible exact ih2 _ _ _ _ _ _ _ _ _ _ _ _ _)
      | (with_reducible exact ih3 _ _ _ _ _ _ _ _ _ _ _ _ _ _ _)
      | (with_reducible exact examine_atom.mono _ _ _ _ _ _ _ _ _ _ _ _)
      | (with_reducible exact LeO.refl _)
      | (with_reducible exact LeO.none _)
      | (with_reducible refine LeO.ite ?_ ?_)
      | (with_reducible refine LeO.bind ?_ (fun _ => ?_))
      | exact ih0 _ _ _ _ _ _ _ _ _ _ _
      | exact ih1 _ _ _ _ _ _ _ _ _ _ _ _
      | exact ih2 _ _ _ _ _ _ _ _ _ _ _ _ _
      | exact ih3 _ _ _ _ _ _ _ _ _ _ _ _ _ _ _
      | exact examine_atom.mono _ _ _ _ _ _ _ _ _ _ _ _
      | exact LeO.none _
      | refine LeO.ite ?_ ?_
      | refine LeO.bind ?_ (fun _ => ?_)
    · intro y0 y1 y2 y3 y4 y5 y6 y7 y8 y9 y10 y11 y12
      unfold examine_rule.j0
      repeat' first
      | (with_reducible exact ih0 _ _ _ _ _ _ _ _ _ _ _)
      | (with_reducible exact ih1 _ _ _ _ _ _ _ _ _ _ _ _)
      | (with_reducible exact ih2 _ _ _ _ _ _ _ _ _ _ _ _ _)
      | (with_reducible exact ih3 _ _ _ _ _ _ _ _ _ _ _ _ _ _ _)
      | (with_reducible exact examine_atom.mono _ _ _ _ _ _ _ _ _ _ _ _)
      | (with_reducible exact LeO.refl _)
      | (with_reducible exact LeO.none _)
      | (with_reducible refine LeO.ite ?_ ?_)
      | (with_reducible refine LeO.bind ?_ (fun _ => ?_))
      | exact ih0 _ _ _ _ _ _ _ _ _ _ _
      | exact ih1 _ _ _ _ _ _ _ _ _ _ _ _
      | exact ih2 _ _ _ _ _ _ _ _ _ _ _ _ _
      | exact ih3 _ _ _ _ _ _ _ _ _ _ _ _ _ _ _
      | exact examine_atom.mono _ _ _ _ _ _ _ _ _ _ _ _
      | exact LeO.none _
      | refine LeO.ite ?_ ?_
      | refine LeO.bind ?_ (fun _ => ?_)
    · intro y0 y1 y2 y3 y4 y5 y6 y7 y8 y9 y10 y11 y12 y13 y14
      unfold examine_rule.l0
      repeat' first
      | (with_reducible exact ih0 _ _ _ _ _ _ _ _ _ _ _)
      | (with_reducible exact ih1 _ _ _ _ _ _ _ _ _ _ _ _)
      | (with_reducible exact ih2 _ _ _ _ _ _ _ _ _ _ _ _ _)
      | (with_reducible exact ih3 _ _ _ _ _ _ _ _ _ _ _ _ _ _ _)
      | (with_reducible exact examine_atom.mono _ _ _ _ _ _ _ _ _ _ _ _)
      | (with_reducible exact LeO.refl _)
      | (with_reducible exact LeO.none _)
      | (with_reducible refine LeO.ite ?_ ?_)
      | (with_reducible refine LeO.bind ?_ (fun _ => ?_))
      | exact ih0 _ _ _ _ _ _ _ _ _ _ _
      | exact ih1 _ _ _ _ _ _ _ _ _ _ _ _
      | exact ih2 _ _ _ _ _ _ _ _ _ _ _ _ _
      | exact ih3 _ _ _ _ _ _ _ _ _ _ _ _ _ _ _
      | exact examine_atom.mono _ _ _ _ _ _ _ _ _ _ _ _
      | exact LeO.none _
      | refine LeO.ite ?_ ?_
      | refine LeO.bind ?_ (fun _ => ?_)
theorem examine_rule.mono : ∀ a0 a1 a2 a3 a4 a5 a6 a7 a8 a9 a10 k, LeO (examine_rule.f k a0 a1 a2 a3 a4 a5 a6 a7 a8 a9 a10) (examine_rule.f (k + 1) a0 a1 a2 a3 a4 a5 a6 a7 a8 a9 a10) := by
  intro a0 a1 a2 a3 a4 a5 a6 a7 a8 a9 a10 k
  obtain ⟨ih0, ih1, ih2, ih3⟩ := examine_rule.mono_l k
  exact ih0 a0 a1 a2 a3 a4 a5 a6 a7 a8 a9 a10
set_option maxHeartbeats 8000000 in
set_option maxRecDepth 100000 in
theorem examine_rule.calls (k : Nat) : ∀ (a0_0 : Int) (a0_1 : Int) (a0_2 : ByteArray) (a0_3 : ByteArray) (a0_4 : Int) (A0_5 : Option Addr) (c0_5 : Nat) (l0_5 : List (S43)) (A1 : Option Addr) (c1 : Nat) (l1 : List (S37)) (a2_0 : Int) (a2_1 : ByteArray) (a2_2 : ByteArray) (A2_3 : Option Addr) (c2_3 : Nat) (l2_3 : List (S66)) (r : Int) (w : World) (hr0_5 : Kd.C k43 w A0_5 l0_5.length l0_5) (hc0_5 : l0_5.length ≤ c0_5) (hr1 : Kd.C k37 w A1 l1.length l1) (hc1 : l1.length ≤ c1) (hr2_3 : Kd.C k66 w A2_3 l2_3.length l2_3) (hc2_3 : l2_3.length ≤ c2_3) (hG : Glob w) (h : examine_rule.f k a0_0 a0_1 a0_2 a0_3 a0_4 l0_5 l1 a2_0 a2_1 a2_2 l2_3 = some r),
    Calls Tryd.prog 36 #[.agg #[.int .i64 a0_0, .int .i64 a0_1, .string a0_2, .string a0_3, .int .i64 a0_4, .slice A0_5 l0_5.length c0_5], .slice A1 l1.length c1, .agg #[.int .i64 a2_0, .string a2_1, .string a2_2, .slice A2_3 l2_3.length c2_3]] w fun e w' => e = .returned (.int .i64 r) ∧ Below w.heap.size w w' := by
  induction k using Nat.strongRecOn with
  | _ k ih =>
  intro a0_0 a0_1 a0_2 a0_3 a0_4 A0_5 c0_5 l0_5 A1 c1 l1 a2_0 a2_1 a2_2 A2_3 c2_3 l2_3 r w hr0_5 hc0_5 hr1 hc1 hr2_3 hc2_3 hG h
  cases k with
  | zero => exact absurd h (by simp [examine_rule.f])
  | succ k =>
  simp only [examine_rule.f] at h
  have hu43 := Tryd.underlying43
  have hu37 := Tryd.underlying37
  have HR0_5 := Aside0.mk hr0_5
  have HC0_5 := Aside0.mk hc0_5
  clear hr0_5 hc0_5
  have HR1 := Aside0.mk hr1
  have HC1 := Aside0.mk hc1
  clear hr1 hc1
  have HR2_3 := Aside0.mk hr2_3
  have HC2_3 := Aside0.mk hc2_3
  clear hr2_3 hc2_3
  have HB := Aside0.mk (Below.refl w.heap.size w)
  have HG := Aside0.mk hG
  clear hG
  have H : (if a0_0 = 0 then (examine_rule.j0 k l1 ([] : List Int) (a0_0 == 0) a0_0 a0_1 a0_2 a0_3 a0_4 l0_5 a2_0 a2_1 a2_2 l2_3) else (if a0_0 = 1 then (examine_rule.j0 k l1 ([] : List Int) (a0_0 == 1) a0_0 a0_1 a0_2 a0_3 a0_4 l0_5 a2_0 a2_1 a2_2 l2_3) else (examine_rule.j0 k l1 ([] : List Int) (a0_0 == 2) a0_0 a0_1 a0_2 a0_3 a0_4 l0_5 a2_0 a2_1 a2_2 l2_3))) = some r := h
  clear h
  have HC4 := Aside0.mk H
  clear H
  go_enter Tryd.func36, Tryd.ntmps36
  go_upto_block 0 with (first | ((with_reducible refine gate_dst (N := 3) rfl ?_); refine box_event ?hg (N := 3) ?hd (cs := #[.int .i64 a0_0, .int .i64 a0_1, .string a0_2, .string a0_3, .int .i64 a0_4, .slice A0_5 l0_5.length c0_5]) (t := 43) ?hr ?_; (case hd => rfl); (case hg => rfl); (case hr => first | (go_simp; done) | (go_simp; rfl)); intro gb294 hg w5 hbox hb; have n0_ := Aside0.mk (below_step (by repeat (first | (with_reducible first | exact HB.out | apply below_alloc | apply pw_below_drewN | apply below_drew1) | exact HB.out)) hb); have n1_ := Aside0.mk (hbox); have n2_ := Aside0.mk ((by rw [hg]; exact (below_size (by repeat (first | (with_reducible first | exact HB.out | apply below_alloc | apply pw_below_drewN | apply below_drew1) | exact HB.out))) : w.heap.size ≤ gb294)); have n3_ := Aside0.mk ((by rw [hg]; exact (below_size (by repeat (first | (with_reducible first | exact HB.out | apply below_alloc | apply pw_below_drewN | apply below_drew1) | exact HB.out))) : w.heap.size ≤ gb294)); clear HB; have HB := n0_; have BK294 := n1_; have GW294 := n2_; have GE294 := n3_; clear n0_ n1_ n2_ n3_; clear hb hbox hg) | ((with_reducible refine gate_dst (N := 5) rfl ?_); refine box_event ?hg (N := 5) ?hd (cs := #[.int .i64 a2_0, .string a2_1, .string a2_2, .slice A2_3 l2_3.length c2_3]) (t := 37) ?hr ?_; (case hd => rfl); (case hg => rfl); (case hr => first | (go_simp; done) | (go_simp; rfl)); intro gb295 hg w6 hbox hb; have n0_ := Aside0.mk (blk_below (g := gb294) (o := .cells #[.int .i64 a0_0, .int .i64 a0_1, .string a0_2, .string a0_3, .int .i64 a0_4, .slice A0_5 l0_5.length c0_5] 43 (0, 0)) (by (with_reducible repeat (first | refine blk_drewN ?_ _ | refine blk_drew ?_ | refine blk_alloc ?_ _)); exact BK294.out) hb); have n1_ := Aside0.mk (below_step (by repeat (first | (with_reducible first | exact HB.out | apply below_alloc | apply pw_below_drewN | apply below_drew1 | refine below_set ?_ GE294.out) | exact HB.out)) hb); have n2_ := Aside0.mk (hbox); have n3_ := Aside0.mk ((by rw [hg]; exact (below_size (by repeat (first | (with_reducible first | exact HB.out | apply below_alloc | apply pw_below_drewN | apply below_drew1 | refine below_set ?_ GE294.out) | exact HB.out))) : w.heap.size ≤ gb295)); have n4_ := Aside0.mk ((by rw [hg]; exact (below_size (by repeat (first | (with_reducible first | exact HB.out | apply below_alloc | apply pw_below_drewN | apply below_drew1 | refine below_set ?_ GE294.out) | exact HB.out))) : w.heap.size ≤ gb295)); have n5_ := Aside0.mk ((by rw [hg]; exact Nat.ne_of_lt (blk_lt (g := gb294) (o := .cells #[.int .i64 a0_0, .int .i64 a0_1, .string a0_2, .string a0_3, .int .i64 a0_4, .slice A0_5 l0_5.length c0_5] 43 (0, 0)) (by (with_reducible repeat (first | refine blk_drewN ?_ _ | refine blk_drew ?_ | refine blk_alloc ?_ _)); exact BK294.out)) : gb294 ≠ gb295)); have n6_ := Aside0.mk ((by rw [hg]; exact Nat.ne_of_gt (blk_lt (g := gb294) (o := .cells #[.int .i64 a0_0, .int .i64 a0_1, .string a0_2, .string a0_3, .int .i64 a0_4, .slice A0_5 l0_5.length c0_5] 43 (0, 0)) (by (with_reducible repeat (first | refine blk_drewN ?_ _ | refine blk_drew ?_ | refine blk_alloc ?_ _)); exact BK294.out)) : gb295 ≠ gb294)); clear BK294; clear HB; have BK294 := n0_; have HB := n1_; have BK295 := n2_; have GW295 := n3_; have GE295 := n4_; have NB294_295 := n5_; have NB295_294 := n6_; clear n0_ n1_ n2_ n3_ n4_ n5_ n6_; clear hb hbox hg; have hnb7 := NB294_295.out; have hnc7 := NB295_294.out; have hcz8_0 : w6.cell? ⟨gb294, 0, none⟩ = some (.int .i64 a0_0) := (blk_cell BK294.out 0).trans rfl; have hcz8_1 : w6.cell? ⟨gb294, 1, none⟩ = some (.int .i64 a0_1) := (blk_cell BK294.out 1).trans rfl; have hcz8_2 : w6.cell? ⟨gb294, 2, none⟩ = some (.string a0_2) := (blk_cell BK294.out 2).trans rfl; have hcz8_3 : w6.cell? ⟨gb294, 3, none⟩ = some (.string a0_3) := (blk_cell BK294.out 3).trans rfl; have hcz8_4 : w6.cell? ⟨gb294, 4, none⟩ = some (.int .i64 a0_4) := (blk_cell BK294.out 4).trans rfl; have hcz8_5 : w6.cell? ⟨gb294, 5, none⟩ = some (.slice A0_5 l0_5.length c0_5) := (blk_cell BK294.out 5).trans rfl; have hfz8_0 := blk_frozen BK294.out 0; have hfz8_1 := blk_frozen BK294.out 1; have hfz8_2 := blk_frozen BK294.out 2; have hfz8_3 := blk_frozen BK294.out 3; have hfz8_4 := blk_frozen BK294.out 4; have hfz8_5 := blk_frozen BK294.out 5))
  (try simp only [Act.put, List.setIfInBounds_toArray, List.set_cons_zero, List.set_cons_succ])
  go_cut [7] (fun v7 wc => ∃ (kq : Nat) (x7_3 : List Int), Aside0 (examine_rule.j2 kq l1 x7_3 a0_0 a0_1 a0_2 a0_3 a0_4 l0_5 a2_0 a2_1 a2_2 l2_3 = some r) ∧ Aside0 (kq ≤ k) ∧ Aside0 (Kd.R (Kd.int .i64) 3 wc w.heap.size (fun _ => True) v7 x7_3) ∧ Aside0 (wc.heap[gb294]? = some (.cells #[.int .i64 a0_0, .int .i64 a0_1, .string a0_2, .string a0_3, .int .i64 a0_4, (.slice A0_5 l0_5.length c0_5)] 43 (0, 0))) ∧ Aside0 (wc.heap[gb295]? = some (.cells #[.int .i64 a2_0, .string a2_1, .string a2_2, (.slice A2_3 l2_3.length c2_3)] 37 (0, 0))) ∧ Aside0 (Below w.heap.size w wc))
  case first =>
    have H := HC4.out
    clear HC4
    have HC9 := Aside0.mk H
    clear H
    go_upto_if 12 with (fail)
    go_cut [12] (fun v12 wc => ∃ (kq : Nat) (x12_8 : Bool), v12 = .bool x12_8 ∧ Aside0 (examine_rule.j0 kq l1 ([] : List Int) x12_8 a0_0 a0_1 a0_2 a0_3 a0_4 l0_5 a2_0 a2_1 a2_2 l2_3 = some r) ∧ Aside0 (kq ≤ k) ∧ Aside0 (Kd.R (Kd.int .i64) 3 wc w.heap.size (fun _ => True) (.slice none 0 0) ([] : List Int)) ∧ Aside0 (wc.heap[gb294]? = some (.cells #[.int .i64 a0_0, .int .i64 a0_1, .string a0_2, .string a0_3, .int .i64 a0_4, (.slice A0_5 l0_5.length c0_5)] 43 (0, 0))) ∧ Aside0 (wc.heap[gb295]? = some (.cells #[.int .i64 a2_0, .string a2_1, .string a2_2, (.slice A2_3 l2_3.length c2_3)] 37 (0, 0))) ∧ Aside0 (Below w.heap.size w wc))
    case first =>
      have H := HC9.out
      clear HC9
      by_cases c10 : a0_0 = 0
      · rw [if_pos c10] at H
        have c10b0 : (a0_0 == 0) = true := beq_iff_eq.mpr c10
        have c10b1 : (a0_0 != 0) = false := bne_eq_false_iff_eq.mpr c10
        clear c10
        (first | rw [c10b0] | (simp only [i64_w, i32_w]; rw [c10b0]) | skip)
        have H' := Aside0.mk H
        clear H
        go_wp2
        go_meet
        case rel => exact ⟨_, ((a0_0 == 0)), (by first | rfl | (simp; done) | (simp [*]; done)), H', ⟨by first | omega | exact Nat.le_refl _⟩, ⟨by first | exact Kd.R_nil _ _ _ _ _ | exact Kd.N_nil _ _ _ _ _ | exact Kd.V_nil _ _ _ _ _ | exact Kd.Q_nil _ _ _ _ _ | exact Kd.S_nil _ _ _ _ _⟩, ⟨by (with_reducible repeat (first | refine blk_drewN ?_ _ | refine blk_drew ?_ | refine blk_alloc ?_ _)); exact BK294.out⟩, ⟨by (with_reducible repeat (first | refine blk_drewN ?_ _ | refine blk_drew ?_ | refine blk_alloc ?_ _)); exact BK295.out⟩, ⟨by repeat (first | (with_reducible first | exact HB.out | apply below_alloc | apply pw_below_drewN | apply below_drew1 | refine below_set ?_ GE294.out | refine below_set ?_ GE295.out) | exact HB.out)⟩⟩
      · rw [if_neg c10] at H
        have c10b0 : (a0_0 == 0) = false := beq_eq_false_iff_ne.mpr c10
        have c10b1 : (a0_0 != 0) = true := bne_iff_ne.mpr c10
        (first | rw [c10b0] | (simp only [i64_w, i32_w]; rw [c10b0]) | skip)
        by_cases c11 : a0_0 = 1
        · rw [if_pos c11] at H
          have c11b0 : (a0_0 == 1) = true := beq_iff_eq.mpr c11
          have c11b1 : (a0_0 != 1) = false := bne_eq_false_iff_eq.mpr c11
          clear c11
          have H' := Aside0.mk H
          clear H
          go_wp2
          go_meet
          case rel => exact ⟨_, ((a0_0 == 1)), (by first | rfl | (simp; done) | (simp [*]; done)), H', ⟨by first | omega | exact Nat.le_refl _⟩, ⟨by first | exact Kd.R_nil _ _ _ _ _ | exact Kd.N_nil _ _ _ _ _ | exact Kd.V_nil _ _ _ _ _ | exact Kd.Q_nil _ _ _ _ _ | exact Kd.S_nil _ _ _ _ _⟩, ⟨by (with_reducible repeat (first | refine blk_drewN ?_ _ | refine blk_drew ?_ | refine blk_alloc ?_ _)); exact BK294.out⟩, ⟨by (with_reducible repeat (first | refine blk_drewN ?_ _ | refine blk_drew ?_ | refine blk_alloc ?_ _)); exact BK295.out⟩, ⟨by repeat (first | (with_reducible first | exact HB.out | apply below_alloc | apply pw_below_drewN | apply below_drew1 | refine below_set ?_ GE294.out | refine below_set ?_ GE295.out) | exact HB.out)⟩⟩
        · rw [if_neg c11] at H
          have c11b0 : (a0_0 == 1) = false := beq_eq_false_iff_ne.mpr c11
          have c11b1 : (a0_0 != 1) = true := bne_iff_ne.mpr c11
          have H' := Aside0.mk H
          clear H
          go_wp2
          go_meet
          case rel => exact ⟨_, ((a0_0 == 2)), (by first | rfl | (simp; done) | (simp [*]; done)), H', ⟨by first | omega | exact Nat.le_refl _⟩, ⟨by first | exact Kd.R_nil _ _ _ _ _ | exact Kd.N_nil _ _ _ _ _ | exact Kd.V_nil _ _ _ _ _ | exact Kd.Q_nil _ _ _ _ _ | exact Kd.S_nil _ _ _ _ _⟩, ⟨by (with_reducible repeat (first | refine blk_drewN ?_ _ | refine blk_drew ?_ | refine blk_alloc ?_ _)); exact BK294.out⟩, ⟨by (with_reducible repeat (first | refine blk_drewN ?_ _ | refine blk_drew ?_ | refine blk_alloc ?_ _)); exact BK295.out⟩, ⟨by repeat (first | (with_reducible first | exact HB.out | apply below_alloc | apply pw_below_drewN | apply below_drew1 | refine below_set ?_ GE294.out | refine below_set ?_ GE295.out) | exact HB.out)⟩⟩
    case rest =>
      clear HC9
      try clear c1
      try clear c2
      try clear p2
      try clear c3
      try clear c7
      try clear c10
      try clear c10b0
      try clear c10b1
      try clear c11
      try clear c11b0
      try clear c11b1
      try clear hcz8_0
      try clear hcz8_1
      try clear hcz8_2
      try clear hcz8_3
      try clear hcz8_4
      try clear hcz8_5
      try clear hfz8_0
      try clear hfz8_1
      try clear hfz8_2
      try clear hfz8_3
      try clear hfz8_4
      try clear hfz8_5
      obtain ⟨kq, x12_8, rfl, HA, HJ8, HO_7, BK294, BK295, HB⟩ := hcut
      cases kq with
      | zero => exact absurd HA.out (by simp [examine_rule.j0])
      | succ kj8 =>
        have H := HA.out
        clear HA
        simp only [examine_rule.j0] at H
        by_cases c12 : x12_8 = true
        · subst c12
          have H1 : (examine_rule.l0 kj8 l1 ([] : List Int) l0_5 (l0_5.length : Int) 0 a0_0 a0_1 a0_2 a0_3 a0_4 l0_5 a2_0 a2_1 a2_2 l2_3) = some r := by rw [if_pos rfl] at H; exact H
          clear H
          have H := H1
          clear H1
          have H' := Aside0.mk H
          clear H
          have hnb13 := NB294_295.out
          have hnc13 := NB295_294.out
          have hcz14_0 : wc.cell? ⟨gb294, 0, none⟩ = some (.int .i64 a0_0) := (blk_cell BK294.out 0).trans rfl
          have hcz14_1 : wc.cell? ⟨gb294, 1, none⟩ = some (.int .i64 a0_1) := (blk_cell BK294.out 1).trans rfl
          have hcz14_2 : wc.cell? ⟨gb294, 2, none⟩ = some (.string a0_2) := (blk_cell BK294.out 2).trans rfl
          have hcz14_3 : wc.cell? ⟨gb294, 3, none⟩ = some (.string a0_3) := (blk_cell BK294.out 3).trans rfl
          have hcz14_4 : wc.cell? ⟨gb294, 4, none⟩ = some (.int .i64 a0_4) := (blk_cell BK294.out 4).trans rfl
          have hcz14_5 : wc.cell? ⟨gb294, 5, none⟩ = some (.slice A0_5 l0_5.length c0_5) := (blk_cell BK294.out 5).trans rfl
          have hfz14_0 := blk_frozen BK294.out 0
          have hfz14_1 := blk_frozen BK294.out 1
          have hfz14_2 := blk_frozen BK294.out 2
          have hfz14_3 := blk_frozen BK294.out 3
          have hfz14_4 := blk_frozen BK294.out 4
          have hfz14_5 := blk_frozen BK294.out 5
          go_wp2
          go_loopg [7, 19] kj8 (fun kq v7 v19 w' => ∃ (x7_2 : List Int) (x19_2 : Int), v19 = .int .i64 x19_2 ∧ Aside0 (examine_rule.l0 kq l1 x7_2 l0_5 (l0_5.length : Int) x19_2 a0_0 a0_1 a0_2 a0_3 a0_4 l0_5 a2_0 a2_1 a2_2 l2_3 = some r) ∧ Aside0 (kq ≤ kj8) ∧ Aside0 (Kd.R (Kd.int .i64) 3 w' w.heap.size (fun _ => True) v7 x7_2) ∧ Aside0 (w'.heap[gb294]? = some (.cells #[.int .i64 a0_0, .int .i64 a0_1, .string a0_2, .string a0_3, .int .i64 a0_4, (.slice A0_5 l0_5.length c0_5)] 43 (0, 0))) ∧ Aside0 (w'.heap[gb295]? = some (.cells #[.int .i64 a2_0, .string a2_1, .string a2_2, (.slice A2_3 l2_3.length c2_3)] 37 (0, 0))) ∧ Aside0 (Below w.heap.size w w'))
          case atStart => exact ⟨(([] : List Int)), (0), (by first | rfl | (simp; done) | (simp [*]; done)), H', ⟨Nat.le_refl _⟩, ⟨by (with_reducible repeat (first | apply Kd.R_alloc | apply Kd.R_drewN | apply Kd.R_drew)); exact HO_7.out⟩, ⟨by (with_reducible repeat (first | refine blk_drewN ?_ _ | refine blk_drew ?_ | refine blk_alloc ?_ _)); exact BK294.out⟩, ⟨by (with_reducible repeat (first | refine blk_drewN ?_ _ | refine blk_drew ?_ | refine blk_alloc ?_ _)); exact BK295.out⟩, ⟨by repeat (first | (with_reducible first | exact HB.out | apply below_alloc | apply pw_below_drewN | apply below_drew1 | refine below_set ?_ GE294.out | refine below_set ?_ GE295.out) | exact HB.out)⟩⟩
          case round =>
            clear H'
            try clear c1
            try clear c2
            try clear p2
            try clear c3
            try clear c7
            try clear c10
            try clear c10b0
            try clear c10b1
            try clear c11
            try clear c11b0
            try clear c11b1
            try clear c12
            try clear c13
            try clear hcz14_0
            try clear hcz14_1
            try clear hcz14_2
            try clear hcz14_3
            try clear hcz14_4
            try clear hcz14_5
            try clear hcz8_0
            try clear hcz8_1
            try clear hcz8_2
            try clear hcz8_3
            try clear hcz8_4
            try clear hcz8_5
            try clear hfz14_0
            try clear hfz14_1
            try clear hfz14_2
            try clear hfz14_3
            try clear hfz14_4
            try clear hfz14_5
            try clear hfz8_0
            try clear hfz8_1
            try clear hfz8_2
            try clear hfz8_3
            try clear hfz8_4
            try clear hfz8_5
            try clear p2
            obtain ⟨x7_2, x19_2, rfl, HA, HK2, HO_7, BK294, BK295, HB⟩ := hrel
            cases gk with
            | zero => exact absurd HA.out (by simp [examine_rule.l0])
            | succ k2 =>
              have H := HA.out
              clear HA
              simp only [examine_rule.l0] at H
              by_cases c15 : x19_2 < (l0_5.length : Int)
              · rw [if_pos c15] at H
                have c15b0 : decide (x19_2 < (l0_5.length : Int)) = true := decide_eq_true c15
                clear c15
                by_cases c16 : 0 ≤ x19_2
                · rw [if_pos c16] at H
                  have c16b0 : decide (0 ≤ x19_2) = true := decide_eq_true c16
                  clear c16
                  by_cases c17 : x19_2 < (l0_5.length : Int)
                  · rw [if_pos c17] at H
                    have c17b0 : decide (x19_2 < (l0_5.length : Int)) = true := decide_eq_true c17
                    clear c17
                    replace H := Option.bind_eq_some_iff.mp H
                    obtain ⟨t298, A180, H⟩ := H
                    replace H : (if x7_2.length < 17592186044416 then (examine_rule.l0 k2 l1 (x7_2 ++ [t298]) l0_5 (l0_5.length : Int) (wrap64 (x19_2 + 1)) a0_0 a0_1 a0_2 a0_3 a0_4 l0_5 a2_0 a2_1 a2_2 l2_3) else (none)) = some r := H
                    have A18 := Aside0.mk A180
                    clear A180
                    by_cases c19 : x7_2.length < 17592186044416
                    · rw [if_pos c19] at H
                      have LMc19 := Aside0.mk c19
                      clear c19
                      obtain ⟨y299, hy299⟩ : ∃ y_ : List Int, y_ = (x7_2 ++ [t298]) := ⟨_, rfl⟩
                      replace H : (examine_rule.l0 k2 l1 y299 l0_5 (l0_5.length : Int) (wrap64 (x19_2 + 1)) a0_0 a0_1 a0_2 a0_3 a0_4 l0_5 a2_0 a2_1 a2_2 l2_3) = some r := by first | (rw [hy299]; with_reducible exact H) | (have H2_ := (Option.bind_some _ _).symm.trans H; rw [hy299]; with_reducible exact H2_) | (have H2_ := (Option.bind_some _ _).symm.trans H; with_reducible exact H2_) | with_reducible exact H | (rw [hy299]; exact H) | exact H
                      have Ny299 := Aside0.mk hy299
                      clear hy299
                      have H' := Aside0.mk H
                      clear H
                      have p296 : 0 ≤ (x19_2 : Int) := of_decide_eq_true (by first | (with_reducible assumption) | assumption)
                      have q296 : x19_2 < (l0_5.length : Int) := of_decide_eq_true (by first | (with_reducible assumption) | assumption)
                      obtain ⟨ad296, A296_5, c296_5, e296, hx296_0, hx296_1, hx296_2, hx296_3, hx296_4, hx296_5, hl296_5, hi296_5⟩ := at_T43 HR0_5.out x19_2 p296 q296
                      cases e296
                      replace hx296_0 := (HB.out.cell (World.block_lt_of_cell? w _ hx296_0)).trans hx296_0
                      replace hx296_1 := (HB.out.cell (World.block_lt_of_cell? w _ hx296_1)).trans hx296_1
                      replace hx296_2 := (HB.out.cell (World.block_lt_of_cell? w _ hx296_2)).trans hx296_2
                      replace hx296_3 := (HB.out.cell (World.block_lt_of_cell? w _ hx296_3)).trans hx296_3
                      replace hx296_4 := (HB.out.cell (World.block_lt_of_cell? w _ hx296_4)).trans hx296_4
                      replace hx296_5 := (HB.out.cell (World.block_lt_of_cell? w _ hx296_5)).trans hx296_5
                      have HR296_5 := Aside0.mk hi296_5
                      have HC296_5 := Aside0.mk hl296_5
                      clear hi296_5 hl296_5
                      replace p296 := eq_true p296
                      replace q296 := eq_true q296
                      go_wp2_with (first | ((with_reducible refine gate_dst (N := 9) rfl ?_); refine box_event ?hg (N := 9) ?hd (cs := #[.int .i64 0, .int .i64 0, .string (⟨#[]⟩ : ByteArray), .string (⟨#[]⟩ : ByteArray), .int .i64 0, .slice none 0 0]) (t := 43) ?hr ?_; (case hd => rfl); (case hg => rfl); (case hr => first | (go_simp; done) | (go_simp; rfl)); intro gb297 hg w20 hbox hb; have n0_ := Aside0.mk (Kd.R_below (by (with_reducible repeat (first | apply Kd.R_alloc | apply Kd.R_drewN | apply Kd.R_drew)); exact HO_7.out) hb); have n1_ := Aside0.mk (blk_below (g := gb294) (o := .cells #[.int .i64 a0_0, .int .i64 a0_1, .string a0_2, .string a0_3, .int .i64 a0_4, .slice (some ad296) l0_5.length c0_5] 43 (0, 0)) (by (with_reducible repeat (first | refine blk_drewN ?_ _ | refine blk_drew ?_ | refine blk_alloc ?_ _)); exact BK294.out) hb); have n2_ := Aside0.mk (blk_below (g := gb295) (o := .cells #[.int .i64 a2_0, .string a2_1, .string a2_2, .slice A2_3 l2_3.length c2_3] 37 (0, 0)) (by (with_reducible repeat (first | refine blk_drewN ?_ _ | refine blk_drew ?_ | refine blk_alloc ?_ _)); exact BK295.out) hb); have n3_ := Aside0.mk (below_step (by repeat (first | (with_reducible first | exact HB.out | apply below_alloc | apply pw_below_drewN | apply below_drew1 | refine below_set ?_ GE294.out | refine below_set ?_ GE295.out) | exact HB.out)) hb); have n4_ := Aside0.mk (hbox); have n5_ := Aside0.mk ((by rw [hg]; exact (below_size (by repeat (first | (with_reducible first | exact HB.out | apply below_alloc | apply pw_below_drewN | apply below_drew1 | refine below_set ?_ GE294.out | refine below_set ?_ GE295.out) | exact HB.out))) : w.heap.size ≤ gb297)); have n6_ := Aside0.mk ((by rw [hg]; exact (below_size (by repeat (first | (with_reducible first | exact HB.out | apply below_alloc | apply pw_below_drewN | apply below_drew1 | refine below_set ?_ GE294.out | refine below_set ?_ GE295.out) | exact HB.out))) : w.heap.size ≤ gb297)); have n7_ := Aside0.mk ((by rw [hg]; exact Nat.ne_of_lt (blk_lt (g := gb294) (o := .cells #[.int .i64 a0_0, .int .i64 a0_1, .string a0_2, .string a0_3, .int .i64 a0_4, .slice (some ad296) l0_5.length c0_5] 43 (0, 0)) (by (with_reducible repeat (first | refine blk_drewN ?_ _ | refine blk_drew ?_ | refine blk_alloc ?_ _)); exact BK294.out)) : gb294 ≠ gb297)); have n8_ := Aside0.mk ((by rw [hg]; exact Nat.ne_of_gt (blk_lt (g := gb294) (o := .cells #[.int .i64 a0_0, .int .i64 a0_1, .string a0_2, .string a0_3, .int .i64 a0_4, .slice (some ad296) l0_5.length c0_5] 43 (0, 0)) (by (with_reducible repeat (first | refine blk_drewN ?_ _ | refine blk_drew ?_ | refine blk_alloc ?_ _)); exact BK294.out)) : gb297 ≠ gb294)); have n9_ := Aside0.mk ((by rw [hg]; exact Nat.ne_of_lt (blk_lt (g := gb295) (o := .cells #[.int .i64 a2_0, .string a2_1, .string a2_2, .slice A2_3 l2_3.length c2_3] 37 (0, 0)) (by (with_reducible repeat (first | refine blk_drewN ?_ _ | refine blk_drew ?_ | refine blk_alloc ?_ _)); exact BK295.out)) : gb295 ≠ gb297)); have n10_ := Aside0.mk ((by rw [hg]; exact Nat.ne_of_gt (blk_lt (g := gb295) (o := .cells #[.int .i64 a2_0, .string a2_1, .string a2_2, .slice A2_3 l2_3.length c2_3] 37 (0, 0)) (by (with_reducible repeat (first | refine blk_drewN ?_ _ | refine blk_drew ?_ | refine blk_alloc ?_ _)); exact BK295.out)) : gb297 ≠ gb295)); clear HO_7; clear BK294; clear BK295; clear HB; have HO_7 := n0_; have BK294 := n1_; have BK295 := n2_; have HB := n3_; have BK297 := n4_; have GW297 := n5_; have GE297 := n6_; have NB294_297 := n7_; have NB297_294 := n8_; have NB295_297 := n9_; have NB297_295 := n10_; clear n0_ n1_ n2_ n3_ n4_ n5_ n6_ n7_ n8_ n9_ n10_; clear hb hbox hg; have hnb21 := NB297_294.out; have hnc21 := NB294_297.out; have hnb22 := NB297_295.out; have hnc22 := NB295_297.out; have hcz23_0 : w20.cell? ⟨gb297, 0, none⟩ = some (.int .i64 0) := (blk_cell BK297.out 0).trans rfl; have hcz23_1 : w20.cell? ⟨gb297, 1, none⟩ = some (.int .i64 0) := (blk_cell BK297.out 1).trans rfl; have hcz23_2 : w20.cell? ⟨gb297, 2, none⟩ = some (.string (⟨#[]⟩ : ByteArray)) := (blk_cell BK297.out 2).trans rfl; have hcz23_3 : w20.cell? ⟨gb297, 3, none⟩ = some (.string (⟨#[]⟩ : ByteArray)) := (blk_cell BK297.out 3).trans rfl; have hcz23_4 : w20.cell? ⟨gb297, 4, none⟩ = some (.int .i64 0) := (blk_cell BK297.out 4).trans rfl; have hcz23_5 : w20.cell? ⟨gb297, 5, none⟩ = some (.slice none 0 0) := (blk_cell BK297.out 5).trans rfl; have hfz23_0 := blk_frozen BK297.out 0; have hfz23_1 := blk_frozen BK297.out 1; have hfz23_2 := blk_frozen BK297.out 2; have hfz23_3 := blk_frozen BK297.out 3; have hfz23_4 := blk_frozen BK297.out 4; have hfz23_5 := blk_frozen BK297.out 5; have hnb24 := NB295_294.out; have hnc24 := NB294_295.out; have hcz25_0 : w20.cell? ⟨gb295, 0, none⟩ = some (.int .i64 a2_0) := (blk_cell BK295.out 0).trans rfl; have hcz25_1 : w20.cell? ⟨gb295, 1, none⟩ = some (.string a2_1) := (blk_cell BK295.out 1).trans rfl; have hcz25_2 : w20.cell? ⟨gb295, 2, none⟩ = some (.string a2_2) := (blk_cell BK295.out 2).trans rfl; have hcz25_3 : w20.cell? ⟨gb295, 3, none⟩ = some (.slice A2_3 l2_3.length c2_3) := (blk_cell BK295.out 3).trans rfl; have hfz25_0 := blk_frozen BK295.out 0; have hfz25_1 := blk_frozen BK295.out 1; have hfz25_2 := blk_frozen BK295.out 2; have hfz25_3 := blk_frozen BK295.out 3) | ((with_reducible refine gate_callee (f := 36) rfl ?_); refine goesL_ (some 27) rfl rfl Tryd.func36 (by kernel_rfl) rfl #[.agg #[.int .i64 ((rd_T43 l0_5 x19_2).f0), .int .i64 ((rd_T43 l0_5 x19_2).f1), .string ((rd_T43 l0_5 x19_2).f2), .string ((rd_T43 l0_5 x19_2).f3), .int .i64 ((rd_T43 l0_5 x19_2).f4), .slice A296_5 ((rd_T43 l0_5 x19_2).f5).length c296_5], .slice A1 l1.length c1, .agg #[.int .i64 a2_0, .string a2_1, .string a2_2, .slice A2_3 l2_3.length c2_3]] rfl (by (try simp only [List.map_toArray, List.map_cons, List.map_nil]); first | done | rfl | (simp only [List.length_drop, List.length_take]; rfl)) ?_; (with_reducible refine (ih k2 (by have := HJ8.out; have := HK2.out; omega) ((rd_T43 l0_5 x19_2).f0) ((rd_T43 l0_5 x19_2).f1) ((rd_T43 l0_5 x19_2).f2) ((rd_T43 l0_5 x19_2).f3) ((rd_T43 l0_5 x19_2).f4) _ _ ((rd_T43 l0_5 x19_2).f5) _ _ l1 a2_0 a2_1 a2_2 _ _ l2_3 t298 _ ?side1 ?side2 ?side3 ?side4 ?side5 ?side6 (by first | exact HG.out | exact Glob_below HG.out (by repeat (first | (with_reducible first | exact HB.out | apply below_alloc | apply pw_below_drewN | apply below_drew1 | refine below_set ?_ GE294.out | refine below_set ?_ GE295.out | refine below_set ?_ GE297.out) | exact HB.out)) | (repeat (first | exact HG.out | apply Glob_drewN | apply Glob_drew | apply Glob_alloc))) A18.out).mono ?_); (case side1 => exact Kd.C_below HR296_5.out (by repeat (first | (with_reducible first | exact HB.out | apply below_alloc | apply pw_below_drewN | apply below_drew1 | refine below_set ?_ GE294.out | refine below_set ?_ GE295.out | refine below_set ?_ GE297.out) | exact HB.out))); (case side2 => exact HC296_5.out); (case side3 => exact Kd.C_below HR1.out (by repeat (first | (with_reducible first | exact HB.out | apply below_alloc | apply pw_below_drewN | apply below_drew1 | refine below_set ?_ GE294.out | refine below_set ?_ GE295.out | refine below_set ?_ GE297.out) | exact HB.out))); (case side4 => exact HC1.out); (case side5 => exact Kd.C_below HR2_3.out (by repeat (first | (with_reducible first | exact HB.out | apply below_alloc | apply pw_below_drewN | apply below_drew1 | refine below_set ?_ GE294.out | refine below_set ?_ GE295.out | refine below_set ?_ GE297.out) | exact HB.out))); (case side6 => exact HC2_3.out); rintro e w26 ⟨rfl, hb⟩; refine ⟨_, rfl, ?_⟩; have n0_ := Aside0.mk (Kd.R_below (by (with_reducible repeat (first | apply Kd.R_alloc | apply Kd.R_drewN | apply Kd.R_drew)); exact (Kd.R_mono (Kd.R_far (p := ⟨gb297, 5, none⟩) (Kd.R_far (p := ⟨gb297, 4, none⟩) (Kd.R_far (p := ⟨gb297, 3, none⟩) (Kd.R_far (p := ⟨gb297, 2, none⟩) (Kd.R_far (p := ⟨gb297, 1, none⟩) (Kd.R_far (p := ⟨gb297, 0, none⟩) (Kd.R_types HO_7.out BK297.out (by decide)) (fun _ hk => hk.2) (.int .i64 ((rd_T43 l0_5 x19_2).f0))) (fun _ hk => hk.2) (.int .i64 ((rd_T43 l0_5 x19_2).f1))) (fun _ hk => hk.2) (.string ((rd_T43 l0_5 x19_2).f2))) (fun _ hk => hk.2) (.string ((rd_T43 l0_5 x19_2).f3))) (fun _ hk => hk.2) (.int .i64 ((rd_T43 l0_5 x19_2).f4))) (fun _ hk => hk.2) (.slice A296_5 ((rd_T43 l0_5 x19_2).f5).length c296_5)) (fun _ h_ => h_.1))) hb); have n1_ := Aside0.mk (blk_below (g := gb294) (o := .cells #[.int .i64 a0_0, .int .i64 a0_1, .string a0_2, .string a0_3, .int .i64 a0_4, .slice (some ad296) l0_5.length c0_5] 43 (0, 0)) (by (with_reducible repeat (first | refine blk_drewN ?_ _ | refine blk_drew ?_ | refine blk_alloc ?_ _)); refine blk_far ?_ NB294_297.out _; (with_reducible repeat (first | refine blk_drewN ?_ _ | refine blk_drew ?_ | refine blk_alloc ?_ _)); refine blk_far ?_ NB294_297.out _; (with_reducible repeat (first | refine blk_drewN ?_ _ | refine blk_drew ?_ | refine blk_alloc ?_ _)); refine blk_far ?_ NB294_297.out _; (with_reducible repeat (first | refine blk_drewN ?_ _ | refine blk_drew ?_ | refine blk_alloc ?_ _)); refine blk_far ?_ NB294_297.out _; (with_reducible repeat (first | refine blk_drewN ?_ _ | refine blk_drew ?_ | refine blk_alloc ?_ _)); refine blk_far ?_ NB294_297.out _; (with_reducible repeat (first | refine blk_drewN ?_ _ | refine blk_drew ?_ | refine blk_alloc ?_ _)); refine blk_far ?_ NB294_297.out _; (with_reducible repeat (first | refine blk_drewN ?_ _ | refine blk_drew ?_ | refine blk_alloc ?_ _)); exact BK294.out) hb); have n2_ := Aside0.mk (blk_below (g := gb295) (o := .cells #[.int .i64 a2_0, .string a2_1, .string a2_2, .slice A2_3 l2_3.length c2_3] 37 (0, 0)) (by (with_reducible repeat (first | refine blk_drewN ?_ _ | refine blk_drew ?_ | refine blk_alloc ?_ _)); refine blk_far ?_ NB295_297.out _; (with_reducible repeat (first | refine blk_drewN ?_ _ | refine blk_drew ?_ | refine blk_alloc ?_ _)); refine blk_far ?_ NB295_297.out _; (with_reducible repeat (first | refine blk_drewN ?_ _ | refine blk_drew ?_ | refine blk_alloc ?_ _)); refine blk_far ?_ NB295_297.out _; (with_reducible repeat (first | refine blk_drewN ?_ _ | refine blk_drew ?_ | refine blk_alloc ?_ _)); refine blk_far ?_ NB295_297.out _; (with_reducible repeat (first | refine blk_drewN ?_ _ | refine blk_drew ?_ | refine blk_alloc ?_ _)); refine blk_far ?_ NB295_297.out _; (with_reducible repeat (first | refine blk_drewN ?_ _ | refine blk_drew ?_ | refine blk_alloc ?_ _)); refine blk_far ?_ NB295_297.out _; (with_reducible repeat (first | refine blk_drewN ?_ _ | refine blk_drew ?_ | refine blk_alloc ?_ _)); exact BK295.out) hb); have n3_ := Aside0.mk (blk_below (g := gb297) (o := .cells #[.int .i64 ((rd_T43 l0_5 x19_2).f0), .int .i64 ((rd_T43 l0_5 x19_2).f1), .string ((rd_T43 l0_5 x19_2).f2), .string ((rd_T43 l0_5 x19_2).f3), .int .i64 ((rd_T43 l0_5 x19_2).f4), .slice A296_5 ((rd_T43 l0_5 x19_2).f5).length c296_5] 43 (0, 0)) (by (with_reducible repeat (first | refine blk_drewN ?_ _ | refine blk_drew ?_ | refine blk_alloc ?_ _)); refine blk_put (cs := #[.int .i64 ((rd_T43 l0_5 x19_2).f0), .int .i64 ((rd_T43 l0_5 x19_2).f1), .string ((rd_T43 l0_5 x19_2).f2), .string ((rd_T43 l0_5 x19_2).f3), .int .i64 ((rd_T43 l0_5 x19_2).f4), .slice none 0 0]) ?_ 5 _ rfl; (with_reducible repeat (first | refine blk_drewN ?_ _ | refine blk_drew ?_ | refine blk_alloc ?_ _)); refine blk_put (cs := #[.int .i64 ((rd_T43 l0_5 x19_2).f0), .int .i64 ((rd_T43 l0_5 x19_2).f1), .string ((rd_T43 l0_5 x19_2).f2), .string ((rd_T43 l0_5 x19_2).f3), .int .i64 0, .slice none 0 0]) ?_ 4 _ rfl; (with_reducible repeat (first | refine blk_drewN ?_ _ | refine blk_drew ?_ | refine blk_alloc ?_ _)); refine blk_put (cs := #[.int .i64 ((rd_T43 l0_5 x19_2).f0), .int .i64 ((rd_T43 l0_5 x19_2).f1), .string ((rd_T43 l0_5 x19_2).f2), .string (⟨#[]⟩ : ByteArray), .int .i64 0, .slice none 0 0]) ?_ 3 _ rfl; (with_reducible repeat (first | refine blk_drewN ?_ _ | refine blk_drew ?_ | refine blk_alloc ?_ _)); refine blk_put (cs := #[.int .i64 ((rd_T43 l0_5 x19_2).f0), .int .i64 ((rd_T43 l0_5 x19_2).f1), .string (⟨#[]⟩ : ByteArray), .string (⟨#[]⟩ : ByteArray), .int .i64 0, .slice none 0 0]) ?_ 2 _ rfl; (with_reducible repeat (first | refine blk_drewN ?_ _ | refine blk_drew ?_ | refine blk_alloc ?_ _)); refine blk_put (cs := #[.int .i64 ((rd_T43 l0_5 x19_2).f0), .int .i64 0, .string (⟨#[]⟩ : ByteArray), .string (⟨#[]⟩ : ByteArray), .int .i64 0, .slice none 0 0]) ?_ 1 _ rfl; (with_reducible repeat (first | refine blk_drewN ?_ _ | refine blk_drew ?_ | refine blk_alloc ?_ _)); refine blk_put (cs := #[.int .i64 0, .int .i64 0, .string (⟨#[]⟩ : ByteArray), .string (⟨#[]⟩ : ByteArray), .int .i64 0, .slice none 0 0]) ?_ 0 _ rfl; (with_reducible repeat (first | refine blk_drewN ?_ _ | refine blk_drew ?_ | refine blk_alloc ?_ _)); exact BK297.out) hb); have n4_ := Aside0.mk (below_step (by repeat (first | (with_reducible first | exact HB.out | apply below_alloc | apply pw_below_drewN | apply below_drew1 | refine below_set ?_ GE294.out | refine below_set ?_ GE295.out | refine below_set ?_ GE297.out) | exact HB.out)) hb); clear HO_7; clear BK294; clear BK295; clear BK297; clear HB; have HO_7 := n0_; have BK294 := n1_; have BK295 := n2_; have BK297 := n3_; have HB := n4_; clear n0_ n1_ n2_ n3_ n4_; (try clear hb); (try clear hb2); (try clear hk); (try clear hi)) | ((with_reducible refine gate_builtin (b := .append) (xs := #[.tmp 23, .tmp 28]) rfl ?_); at_builtin; refine Kd.R_append (Kd.int .i64) (w0 := w) w.heap.size rfl (.tmp 23) (.tmp 28) 100 3 (.int .i64 0) 8 rfl Tryd.underlying100 info3 rfl (by decide) (by omega) u7 x7_2 t298 [.int .i64 t298] (fun _ => True) (fun _ => False) rfl rfl ?aP (fun _ hk => hk.elim) ?aF ?aO ?aB ?aS ?aL ?_; (case aP => exact rfl); (case aB => exact (by repeat (first | (with_reducible first | exact HB.out | apply below_alloc | apply pw_below_drewN | apply below_drew1 | refine below_set ?_ GE294.out | refine below_set ?_ GE295.out | refine below_set ?_ GE297.out) | exact HB.out))); (case aF => exact (fun _ _ => trivial)); (case aO => exact (by (with_reducible repeat (first | apply Kd.R_alloc | apply Kd.R_drewN | apply Kd.R_drew)); exact HO_7.out)); (case aS => exact (below_size (by repeat (first | (with_reducible first | exact HB.out | apply below_alloc | apply pw_below_drewN | apply below_drew1 | refine below_set ?_ GE294.out | refine below_set ?_ GE295.out | refine below_set ?_ GE297.out) | exact HB.out)))); (case aL => have := LMc19.out; omega); intro v300 w27 ho hb hg hat; rw [← Ny299.out] at ho; have n0_ := Aside0.mk (blk_grown (g := gb294) (o := .cells #[.int .i64 a0_0, .int .i64 a0_1, .string a0_2, .string a0_3, .int .i64 a0_4, .slice (some ad296) l0_5.length c0_5] 43 (0, 0)) (by (with_reducible repeat (first | refine blk_drewN ?_ _ | refine blk_drew ?_ | refine blk_alloc ?_ _)); exact BK294.out) hg (Kd.R_ne HO_7.out BK294.out (by decide))); have n1_ := Aside0.mk (blk_grown (g := gb295) (o := .cells #[.int .i64 a2_0, .string a2_1, .string a2_2, .slice A2_3 l2_3.length c2_3] 37 (0, 0)) (by (with_reducible repeat (first | refine blk_drewN ?_ _ | refine blk_drew ?_ | refine blk_alloc ?_ _)); exact BK295.out) hg (Kd.R_ne HO_7.out BK295.out (by decide))); have n2_ := Aside0.mk (blk_grown (g := gb297) (o := .cells #[.int .i64 ((rd_T43 l0_5 x19_2).f0), .int .i64 ((rd_T43 l0_5 x19_2).f1), .string ((rd_T43 l0_5 x19_2).f2), .string ((rd_T43 l0_5 x19_2).f3), .int .i64 ((rd_T43 l0_5 x19_2).f4), .slice A296_5 ((rd_T43 l0_5 x19_2).f5).length c296_5] 43 (0, 0)) (by (with_reducible repeat (first | refine blk_drewN ?_ _ | refine blk_drew ?_ | refine blk_alloc ?_ _)); exact BK297.out) hg (Kd.R_ne HO_7.out BK297.out (by decide))); have n3_ := Aside0.mk (hb); have n4_ := Aside0.mk (ho); clear BK294; clear BK295; clear BK297; clear HB; clear HO_7; have BK294 := n0_; have BK295 := n1_; have BK297 := n2_; have HB := n3_; have HO301 := n4_; clear n0_ n1_ n2_ n3_ n4_; clear ho hb hg hat))
                      go_roundg k2
                      case measure => have := HJ8.out; have := HK2.out; omega
                      case rel => exact ⟨(y299), (wrap64 (x19_2 + 1)), (by first | rfl | (simp; done) | (simp [*]; done)), H', ⟨by have := HJ8.out; have := HK2.out; omega⟩, ⟨by (with_reducible repeat (first | apply Kd.R_alloc | apply Kd.R_drewN | apply Kd.R_drew)); exact HO301.out⟩, ⟨by (with_reducible repeat (first | refine blk_drewN ?_ _ | refine blk_drew ?_ | refine blk_alloc ?_ _)); exact BK294.out⟩, ⟨by (with_reducible repeat (first | refine blk_drewN ?_ _ | refine blk_drew ?_ | refine blk_alloc ?_ _)); exact BK295.out⟩, ⟨by repeat (first | (with_reducible first | exact HB.out | apply below_alloc | apply pw_below_drewN | apply below_drew1 | refine below_set ?_ GE294.out | refine below_set ?_ GE295.out | refine below_set ?_ GE297.out) | exact HB.out)⟩⟩
                    · rw [if_neg c19] at H
                      exact absurd H (by simp)
                  · rw [if_neg c17] at H
                    exact absurd H (by simp)
                · rw [if_neg c16] at H
                  exact absurd H (by simp)
              · rw [if_neg c15] at H
                have c15b0 : decide (x19_2 < (l0_5.length : Int)) = false := decide_eq_false c15
                clear c15
                have H' := Aside0.mk H
                clear H
                go_wp2
                go_meet
                case rel => exact ⟨_, (x7_2), H', ⟨by have := HJ8.out; have := HK2.out; first | omega | exact Nat.le_refl _⟩, ⟨by (with_reducible repeat (first | apply Kd.R_alloc | apply Kd.R_drewN | apply Kd.R_drew)); exact HO_7.out⟩, ⟨by (with_reducible repeat (first | refine blk_drewN ?_ _ | refine blk_drew ?_ | refine blk_alloc ?_ _)); exact BK294.out⟩, ⟨by (with_reducible repeat (first | refine blk_drewN ?_ _ | refine blk_drew ?_ | refine blk_alloc ?_ _)); exact BK295.out⟩, ⟨by repeat (first | (with_reducible first | exact HB.out | apply below_alloc | apply pw_below_drewN | apply below_drew1 | refine below_set ?_ GE294.out | refine below_set ?_ GE295.out) | exact HB.out)⟩⟩
        · replace c12 := Bool.eq_false_iff.mpr c12
          subst c12
          have H1 : (examine_rule.j2 kj8 l1 ([] : List Int) a0_0 a0_1 a0_2 a0_3 a0_4 l0_5 a2_0 a2_1 a2_2 l2_3) = some r := by rw [if_neg (show ¬ (false = true) by decide)] at H; exact H
          clear H
          have H := H1
          clear H1
          have H' := Aside0.mk H
          clear H
          go_wp2
          go_meet
          case rel => exact ⟨_, (([] : List Int)), H', ⟨by have := HJ8.out; first | omega | exact Nat.le_refl _⟩, ⟨by (with_reducible repeat (first | apply Kd.R_alloc | apply Kd.R_drewN | apply Kd.R_drew)); exact HO_7.out⟩, ⟨by (with_reducible repeat (first | refine blk_drewN ?_ _ | refine blk_drew ?_ | refine blk_alloc ?_ _)); exact BK294.out⟩, ⟨by (with_reducible repeat (first | refine blk_drewN ?_ _ | refine blk_drew ?_ | refine blk_alloc ?_ _)); exact BK295.out⟩, ⟨by repeat (first | (with_reducible first | exact HB.out | apply below_alloc | apply pw_below_drewN | apply below_drew1 | refine below_set ?_ GE294.out | refine below_set ?_ GE295.out) | exact HB.out)⟩⟩
  case rest =>
    clear HC4
    try clear c1
    try clear c2
    try clear p2
    try clear q2
    try clear hx2
    try clear c3
    try clear p6
    try clear c7
    try clear c10
    try clear c10b0
    try clear c10b1
    try clear c11
    try clear c11b0
    try clear c11b1
    try clear c12
    try clear c13
    try clear c15
    try clear c15b0
    try clear c16
    try clear c16b0
    try clear c17
    try clear c17b0
    try clear c19
    try clear c21
    try clear c22
    try clear c24
    try clear hcz14_0
    try clear hcz14_1
    try clear hcz14_2
    try clear hcz14_3
    try clear hcz14_4
    try clear hcz14_5
    try clear hcz23_0
    try clear hcz23_1
    try clear hcz23_2
    try clear hcz23_3
    try clear hcz23_4
    try clear hcz23_5
    try clear hcz25_0
    try clear hcz25_1
    try clear hcz25_2
    try clear hcz25_3
    try clear hcz8_0
    try clear hcz8_1
    try clear hcz8_2
    try clear hcz8_3
    try clear hcz8_4
    try clear hcz8_5
    try clear hfz14_0
    try clear hfz14_1
    try clear hfz14_2
    try clear hfz14_3
    try clear hfz14_4
    try clear hfz14_5
    try clear hfz23_0
    try clear hfz23_1
    try clear hfz23_2
    try clear hfz23_3
    try clear hfz23_4
    try clear hfz23_5
    try clear hfz25_0
    try clear hfz25_1
    try clear hfz25_2
    try clear hfz25_3
    try clear hfz8_0
    try clear hfz8_1
    try clear hfz8_2
    try clear hfz8_3
    try clear hfz8_4
    try clear hfz8_5
    try clear hx296_0
    try clear hx296_1
    try clear hx296_2
    try clear hx296_3
    try clear hx296_4
    try clear hx296_5
    try clear p2
    try clear p296
    try clear q296
    obtain ⟨kq, x7_3, HA, HJ3, HO_7, BK294, BK295, HB⟩ := hcut
    cases kq with
    | zero => exact absurd HA.out (by simp [examine_rule.j2])
    | succ kj3 =>
      have H := HA.out
      clear HA
      simp only [examine_rule.j2] at H
      by_cases c28 : a0_0 = 0
      · rw [if_pos c28] at H
        have c28b0 : (a0_0 == 0) = true := beq_iff_eq.mpr c28
        have c28b1 : (a0_0 != 0) = false := bne_eq_false_iff_eq.mpr c28
        clear c28
        by_cases c29 : x7_3.length < 17592186044416
        · rw [if_pos c29] at H
          have LMc29 := Aside0.mk c29
          clear c29
          obtain ⟨y302, hy302⟩ : ∃ y_ : List Int, y_ = (x7_3 ++ [0]) := ⟨_, rfl⟩
          replace H : ((slices_Max_int_int.f y302).bind fun t305 => (some t305)) = some r := by first | (rw [hy302]; with_reducible exact H) | (have H2_ := (Option.bind_some _ _).symm.trans H; rw [hy302]; with_reducible exact H2_) | (have H2_ := (Option.bind_some _ _).symm.trans H; with_reducible exact H2_) | with_reducible exact H | (rw [hy302]; exact H) | exact H
          have Ny302 := Aside0.mk hy302
          clear hy302
          replace H := Option.bind_eq_some_iff.mp H
          obtain ⟨t305, A300, H⟩ := H
          replace H : (some t305) = some r := H
          have A30 := Aside0.mk A300
          clear A300
          obtain rfl := Option.some.inj H
          have hnb31 := NB294_295.out
          have hnc31 := NB295_294.out
          have hcz32_0 : wc.cell? ⟨gb294, 0, none⟩ = some (.int .i64 a0_0) := (blk_cell BK294.out 0).trans rfl
          have hcz32_1 : wc.cell? ⟨gb294, 1, none⟩ = some (.int .i64 a0_1) := (blk_cell BK294.out 1).trans rfl
          have hcz32_2 : wc.cell? ⟨gb294, 2, none⟩ = some (.string a0_2) := (blk_cell BK294.out 2).trans rfl
          have hcz32_3 : wc.cell? ⟨gb294, 3, none⟩ = some (.string a0_3) := (blk_cell BK294.out 3).trans rfl
          have hcz32_4 : wc.cell? ⟨gb294, 4, none⟩ = some (.int .i64 a0_4) := (blk_cell BK294.out 4).trans rfl
          have hcz32_5 : wc.cell? ⟨gb294, 5, none⟩ = some (.slice A0_5 l0_5.length c0_5) := (blk_cell BK294.out 5).trans rfl
          have hfz32_0 := blk_frozen BK294.out 0
          have hfz32_1 := blk_frozen BK294.out 1
          have hfz32_2 := blk_frozen BK294.out 2
          have hfz32_3 := blk_frozen BK294.out 3
          have hfz32_4 := blk_frozen BK294.out 4
          have hfz32_5 := blk_frozen BK294.out 5
          go_wp2_with (first | ((with_reducible refine gate_builtin (b := .append) (xs := #[.tmp 35, .tmp 36]) rfl ?_); at_builtin; refine Kd.R_append (Kd.int .i64) (w0 := w) w.heap.size rfl (.tmp 35) (.tmp 36) 100 3 (.int .i64 0) 8 rfl Tryd.underlying100 info3 rfl (by decide) (by omega) u7 x7_3 0 [.int .i64 0] (fun _ => True) (fun _ => False) rfl rfl ?aP (fun _ hk => hk.elim) ?aF ?aO ?aB ?aS ?aL ?_; (case aP => exact rfl); (case aB => exact (by repeat (first | (with_reducible first | exact HB.out | apply below_alloc | apply pw_below_drewN | apply below_drew1 | refine below_set ?_ GE294.out | refine below_set ?_ GE295.out) | exact HB.out))); (case aF => exact (fun _ _ => trivial)); (case aO => exact (by (with_reducible repeat (first | apply Kd.R_alloc | apply Kd.R_drewN | apply Kd.R_drew)); exact HO_7.out)); (case aS => exact (below_size (by repeat (first | (with_reducible first | exact HB.out | apply below_alloc | apply pw_below_drewN | apply below_drew1 | refine below_set ?_ GE294.out | refine below_set ?_ GE295.out) | exact HB.out)))); (case aL => have := LMc29.out; omega); intro v303 w33 ho hb hg hat; rw [← Ny302.out] at ho; have n0_ := Aside0.mk (blk_grown (g := gb294) (o := .cells #[.int .i64 a0_0, .int .i64 a0_1, .string a0_2, .string a0_3, .int .i64 a0_4, .slice A0_5 l0_5.length c0_5] 43 (0, 0)) (by (with_reducible repeat (first | refine blk_drewN ?_ _ | refine blk_drew ?_ | refine blk_alloc ?_ _)); exact BK294.out) hg (Kd.R_ne HO_7.out BK294.out (by decide))); have n1_ := Aside0.mk (blk_grown (g := gb295) (o := .cells #[.int .i64 a2_0, .string a2_1, .string a2_2, .slice A2_3 l2_3.length c2_3] 37 (0, 0)) (by (with_reducible repeat (first | refine blk_drewN ?_ _ | refine blk_drew ?_ | refine blk_alloc ?_ _)); exact BK295.out) hg (Kd.R_ne HO_7.out BK295.out (by decide))); have n2_ := Aside0.mk (hb); have n3_ := Aside0.mk (ho); clear BK294; clear BK295; clear HB; clear HO_7; have BK294 := n0_; have BK295 := n1_; have HB := n2_; have HO304 := n3_; clear n0_ n1_ n2_ n3_; clear ho hb hg hat; obtain ⟨Ao34, co34, eo34⟩ := Kd.R_slice HO304.out; subst eo34) | ((with_reducible refine gate_callee (f := 48) rfl ?_); refine goesL_ (some 38) rfl rfl Tryd.func48 (by kernel_rfl) rfl #[.slice Ao34 y302.length co34] rfl (by (try simp only [List.map_toArray, List.map_cons, List.map_nil]); first | done | rfl | (simp only [List.length_drop, List.length_take]; rfl)) ?_; (with_reducible refine (slices_Max_int_int.calls _ _ y302 t305 _ ?side1 ?side2 A30.out).mono ?_); (case side1 => repeat (first | exact (Kd.R_reads' HO304.out).2.2 | (with_reducible refine Kd.C_alloc ?_ _) | (with_reducible refine Kd.C_drewN ?_ _) | (with_reducible refine Kd.C_drew ?_))); (case side2 => exact (Kd.R_reads' HO304.out).2.1); rintro e w35 ⟨rfl, hb⟩; refine ⟨_, rfl, ?_⟩; have n0_ := Aside0.mk (Kd.R_below (by (with_reducible repeat (first | apply Kd.R_alloc | apply Kd.R_drewN | apply Kd.R_drew)); exact HO304.out) hb); have n1_ := Aside0.mk (blk_below (g := gb294) (o := .cells #[.int .i64 a0_0, .int .i64 a0_1, .string a0_2, .string a0_3, .int .i64 a0_4, .slice A0_5 l0_5.length c0_5] 43 (0, 0)) (by (with_reducible repeat (first | refine blk_drewN ?_ _ | refine blk_drew ?_ | refine blk_alloc ?_ _)); exact BK294.out) hb); have n2_ := Aside0.mk (blk_below (g := gb295) (o := .cells #[.int .i64 a2_0, .string a2_1, .string a2_2, .slice A2_3 l2_3.length c2_3] 37 (0, 0)) (by (with_reducible repeat (first | refine blk_drewN ?_ _ | refine blk_drew ?_ | refine blk_alloc ?_ _)); exact BK295.out) hb); have n3_ := Aside0.mk (below_step (by repeat (first | (with_reducible first | exact HB.out | apply below_alloc | apply pw_below_drewN | apply below_drew1 | refine below_set ?_ GE294.out | refine below_set ?_ GE295.out) | exact HB.out)) hb); clear HO304; clear BK294; clear BK295; clear HB; have HO304 := n0_; have BK294 := n1_; have BK295 := n2_; have HB := n3_; clear n0_ n1_ n2_ n3_; (try clear hb); (try clear hb2); (try clear hk); (try clear hi)))
          go_ret
          exact ⟨by first | rfl | (simp [errW_none, errW_some] <;> rfl) | (simp [*, errW_none, errW_some] <;> rfl), by repeat (first | (with_reducible first | exact HB.out | apply below_alloc | apply pw_below_drewN | apply below_drew1 | refine below_set ?_ GE294.out | refine below_set ?_ GE295.out) | exact HB.out)⟩
        · rw [if_neg c29] at H
          exact absurd H (by simp)
      · rw [if_neg c28] at H
        have c28b0 : (a0_0 == 0) = false := beq_eq_false_iff_ne.mpr c28
        have c28b1 : (a0_0 != 0) = true := bne_iff_ne.mpr c28
        by_cases c36 : a0_0 = 1
        · rw [if_pos c36] at H
          have c36b0 : (a0_0 == 1) = true := beq_iff_eq.mpr c36
          have c36b1 : (a0_0 != 1) = false := bne_eq_false_iff_eq.mpr c36
          clear c36
          by_cases c37 : x7_3.length < 17592186044416
          · rw [if_pos c37] at H
            have LMc37 := Aside0.mk c37
            clear c37
            obtain ⟨y306, hy306⟩ : ∃ y_ : List Int, y_ = (x7_3 ++ [2]) := ⟨_, rfl⟩
            replace H : ((slices_Min_int_int.f y306).bind fun t309 => (some t309)) = some r := by first | (rw [hy306]; with_reducible exact H) | (have H2_ := (Option.bind_some _ _).symm.trans H; rw [hy306]; with_reducible exact H2_) | (have H2_ := (Option.bind_some _ _).symm.trans H; with_reducible exact H2_) | with_reducible exact H | (rw [hy306]; exact H) | exact H
            have Ny306 := Aside0.mk hy306
            clear hy306
            replace H := Option.bind_eq_some_iff.mp H
            obtain ⟨t309, A380, H⟩ := H
            replace H : (some t309) = some r := H
            have A38 := Aside0.mk A380
            clear A380
            obtain rfl := Option.some.inj H
            have hnb39 := NB294_295.out
            have hnc39 := NB295_294.out
            have hcz40_0 : wc.cell? ⟨gb294, 0, none⟩ = some (.int .i64 a0_0) := (blk_cell BK294.out 0).trans rfl
            have hcz40_1 : wc.cell? ⟨gb294, 1, none⟩ = some (.int .i64 a0_1) := (blk_cell BK294.out 1).trans rfl
            have hcz40_2 : wc.cell? ⟨gb294, 2, none⟩ = some (.string a0_2) := (blk_cell BK294.out 2).trans rfl
            have hcz40_3 : wc.cell? ⟨gb294, 3, none⟩ = some (.string a0_3) := (blk_cell BK294.out 3).trans rfl
            have hcz40_4 : wc.cell? ⟨gb294, 4, none⟩ = some (.int .i64 a0_4) := (blk_cell BK294.out 4).trans rfl
            have hcz40_5 : wc.cell? ⟨gb294, 5, none⟩ = some (.slice A0_5 l0_5.length c0_5) := (blk_cell BK294.out 5).trans rfl
            have hfz40_0 := blk_frozen BK294.out 0
            have hfz40_1 := blk_frozen BK294.out 1
            have hfz40_2 := blk_frozen BK294.out 2
            have hfz40_3 := blk_frozen BK294.out 3
            have hfz40_4 := blk_frozen BK294.out 4
            have hfz40_5 := blk_frozen BK294.out 5
            go_wp2_with (first | ((with_reducible refine gate_builtin (b := .append) (xs := #[.tmp 41, .tmp 42]) rfl ?_); at_builtin; refine Kd.R_append (Kd.int .i64) (w0 := w) w.heap.size rfl (.tmp 41) (.tmp 42) 100 3 (.int .i64 0) 8 rfl Tryd.underlying100 info3 rfl (by decide) (by omega) u7 x7_3 2 [.int .i64 2] (fun _ => True) (fun _ => False) rfl rfl ?aP (fun _ hk => hk.elim) ?aF ?aO ?aB ?aS ?aL ?_; (case aP => exact rfl); (case aB => exact (by repeat (first | (with_reducible first | exact HB.out | apply below_alloc | apply pw_below_drewN | apply below_drew1 | refine below_set ?_ GE294.out | refine below_set ?_ GE295.out) | exact HB.out))); (case aF => exact (fun _ _ => trivial)); (case aO => exact (by (with_reducible repeat (first | apply Kd.R_alloc | apply Kd.R_drewN | apply Kd.R_drew)); exact HO_7.out)); (case aS => exact (below_size (by repeat (first | (with_reducible first | exact HB.out | apply below_alloc | apply pw_below_drewN | apply below_drew1 | refine below_set ?_ GE294.out | refine below_set ?_ GE295.out) | exact HB.out)))); (case aL => have := LMc37.out; omega); intro v307 w41 ho hb hg hat; rw [← Ny306.out] at ho; have n0_ := Aside0.mk (blk_grown (g := gb294) (o := .cells #[.int .i64 a0_0, .int .i64 a0_1, .string a0_2, .string a0_3, .int .i64 a0_4, .slice A0_5 l0_5.length c0_5] 43 (0, 0)) (by (with_reducible repeat (first | refine blk_drewN ?_ _ | refine blk_drew ?_ | refine blk_alloc ?_ _)); exact BK294.out) hg (Kd.R_ne HO_7.out BK294.out (by decide))); have n1_ := Aside0.mk (blk_grown (g := gb295) (o := .cells #[.int .i64 a2_0, .string a2_1, .string a2_2, .slice A2_3 l2_3.length c2_3] 37 (0, 0)) (by (with_reducible repeat (first | refine blk_drewN ?_ _ | refine blk_drew ?_ | refine blk_alloc ?_ _)); exact BK295.out) hg (Kd.R_ne HO_7.out BK295.out (by decide))); have n2_ := Aside0.mk (hb); have n3_ := Aside0.mk (ho); clear BK294; clear BK295; clear HB; clear HO_7; have BK294 := n0_; have BK295 := n1_; have HB := n2_; have HO308 := n3_; clear n0_ n1_ n2_ n3_; clear ho hb hg hat; obtain ⟨Ao42, co42, eo42⟩ := Kd.R_slice HO308.out; subst eo42) | ((with_reducible refine gate_callee (f := 49) rfl ?_); refine goesL_ (some 44) rfl rfl Tryd.func49 (by kernel_rfl) rfl #[.slice Ao42 y306.length co42] rfl (by (try simp only [List.map_toArray, List.map_cons, List.map_nil]); first | done | rfl | (simp only [List.length_drop, List.length_take]; rfl)) ?_; (with_reducible refine (slices_Min_int_int.calls _ _ y306 t309 _ ?side1 ?side2 A38.out).mono ?_); (case side1 => repeat (first | exact (Kd.R_reads' HO308.out).2.2 | (with_reducible refine Kd.C_alloc ?_ _) | (with_reducible refine Kd.C_drewN ?_ _) | (with_reducible refine Kd.C_drew ?_))); (case side2 => exact (Kd.R_reads' HO308.out).2.1); rintro e w43 ⟨rfl, hb⟩; refine ⟨_, rfl, ?_⟩; have n0_ := Aside0.mk (Kd.R_below (by (with_reducible repeat (first | apply Kd.R_alloc | apply Kd.R_drewN | apply Kd.R_drew)); exact HO308.out) hb); have n1_ := Aside0.mk (blk_below (g := gb294) (o := .cells #[.int .i64 a0_0, .int .i64 a0_1, .string a0_2, .string a0_3, .int .i64 a0_4, .slice A0_5 l0_5.length c0_5] 43 (0, 0)) (by (with_reducible repeat (first | refine blk_drewN ?_ _ | refine blk_drew ?_ | refine blk_alloc ?_ _)); exact BK294.out) hb); have n2_ := Aside0.mk (blk_below (g := gb295) (o := .cells #[.int .i64 a2_0, .string a2_1, .string a2_2, .slice A2_3 l2_3.length c2_3] 37 (0, 0)) (by (with_reducible repeat (first | refine blk_drewN ?_ _ | refine blk_drew ?_ | refine blk_alloc ?_ _)); exact BK295.out) hb); have n3_ := Aside0.mk (below_step (by repeat (first | (with_reducible first | exact HB.out | apply below_alloc | apply pw_below_drewN | apply below_drew1 | refine below_set ?_ GE294.out | refine below_set ?_ GE295.out) | exact HB.out)) hb); clear HO308; clear BK294; clear BK295; clear HB; have HO308 := n0_; have BK294 := n1_; have BK295 := n2_; have HB := n3_; clear n0_ n1_ n2_ n3_; (try clear hb); (try clear hb2); (try clear hk); (try clear hi)))
            go_ret
            exact ⟨by first | rfl | (simp [errW_none, errW_some] <;> rfl) | (simp [*, errW_none, errW_some] <;> rfl), by repeat (first | (with_reducible first | exact HB.out | apply below_alloc | apply pw_below_drewN | apply below_drew1 | refine below_set ?_ GE294.out | refine below_set ?_ GE295.out) | exact HB.out)⟩
          · rw [if_neg c37] at H
            exact absurd H (by simp)
        · rw [if_neg c36] at H
          have c36b0 : (a0_0 == 1) = false := beq_eq_false_iff_ne.mpr c36
          have c36b1 : (a0_0 != 1) = true := bne_iff_ne.mpr c36
          by_cases c44 : a0_0 = 2
          · rw [if_pos c44] at H
            have c44b0 : (a0_0 == 2) = true := beq_iff_eq.mpr c44
            have c44b1 : (a0_0 != 2) = false := bne_eq_false_iff_eq.mpr c44
            clear c44
            by_cases c45 : x7_3.length < 17592186044416
            · rw [if_pos c45] at H
              have LMc45 := Aside0.mk c45
              clear c45
              obtain ⟨y310, hy310⟩ : ∃ y_ : List Int, y_ = (x7_3 ++ [0]) := ⟨_, rfl⟩
              replace H : ((slices_Max_int_int.f y310).bind fun t313 => (some (wrap64 (2 - t313)))) = some r := by first | (rw [hy310]; with_reducible exact H) | (have H2_ := (Option.bind_some _ _).symm.trans H; rw [hy310]; with_reducible exact H2_) | (have H2_ := (Option.bind_some _ _).symm.trans H; with_reducible exact H2_) | with_reducible exact H | (rw [hy310]; exact H) | exact H
              have Ny310 := Aside0.mk hy310
              clear hy310
              replace H := Option.bind_eq_some_iff.mp H
              obtain ⟨t313, A460, H⟩ := H
              replace H : (some (wrap64 (2 - t313))) = some r := H
              have A46 := Aside0.mk A460
              clear A460
              obtain rfl := Option.some.inj H
              have hnb47 := NB294_295.out
              have hnc47 := NB295_294.out
              have hcz48_0 : wc.cell? ⟨gb294, 0, none⟩ = some (.int .i64 a0_0) := (blk_cell BK294.out 0).trans rfl
              have hcz48_1 : wc.cell? ⟨gb294, 1, none⟩ = some (.int .i64 a0_1) := (blk_cell BK294.out 1).trans rfl
              have hcz48_2 : wc.cell? ⟨gb294, 2, none⟩ = some (.string a0_2) := (blk_cell BK294.out 2).trans rfl
              have hcz48_3 : wc.cell? ⟨gb294, 3, none⟩ = some (.string a0_3) := (blk_cell BK294.out 3).trans rfl
              have hcz48_4 : wc.cell? ⟨gb294, 4, none⟩ = some (.int .i64 a0_4) := (blk_cell BK294.out 4).trans rfl
              have hcz48_5 : wc.cell? ⟨gb294, 5, none⟩ = some (.slice A0_5 l0_5.length c0_5) := (blk_cell BK294.out 5).trans rfl
              have hfz48_0 := blk_frozen BK294.out 0
              have hfz48_1 := blk_frozen BK294.out 1
              have hfz48_2 := blk_frozen BK294.out 2
              have hfz48_3 := blk_frozen BK294.out 3
              have hfz48_4 := blk_frozen BK294.out 4
              have hfz48_5 := blk_frozen BK294.out 5
              go_wp2_with (first | ((with_reducible refine gate_builtin (b := .append) (xs := #[.tmp 47, .tmp 48]) rfl ?_); at_builtin; refine Kd.R_append (Kd.int .i64) (w0 := w) w.heap.size rfl (.tmp 47) (.tmp 48) 100 3 (.int .i64 0) 8 rfl Tryd.underlying100 info3 rfl (by decide) (by omega) u7 x7_3 0 [.int .i64 0] (fun _ => True) (fun _ => False) rfl rfl ?aP (fun _ hk => hk.elim) ?aF ?aO ?aB ?aS ?aL ?_; (case aP => exact rfl); (case aB => exact (by repeat (first | (with_reducible first | exact HB.out | apply below_alloc | apply pw_below_drewN | apply below_drew1 | refine below_set ?_ GE294.out | refine below_set ?_ GE295.out) | exact HB.out))); (case aF => exact (fun _ _ => trivial)); (case aO => exact (by (with_reducible repeat (first | apply Kd.R_alloc | apply Kd.R_drewN | apply Kd.R_drew)); exact HO_7.out)); (case aS => exact (below_size (by repeat (first | (with_reducible first | exact HB.out | apply below_alloc | apply pw_below_drewN | apply below_drew1 | refine below_set ?_ GE294.out | refine below_set ?_ GE295.out) | exact HB.out)))); (case aL => have := LMc45.out; omega); intro v311 w49 ho hb hg hat; rw [← Ny310.out] at ho; have n0_ := Aside0.mk (blk_grown (g := gb294) (o := .cells #[.int .i64 a0_0, .int .i64 a0_1, .string a0_2, .string a0_3, .int .i64 a0_4, .slice A0_5 l0_5.length c0_5] 43 (0, 0)) (by (with_reducible repeat (first | refine blk_drewN ?_ _ | refine blk_drew ?_ | refine blk_alloc ?_ _)); exact BK294.out) hg (Kd.R_ne HO_7.out BK294.out (by decide))); have n1_ := Aside0.mk (blk_grown (g := gb295) (o := .cells #[.int .i64 a2_0, .string a2_1, .string a2_2, .slice A2_3 l2_3.length c2_3] 37 (0, 0)) (by (with_reducible repeat (first | refine blk_drewN ?_ _ | refine blk_drew ?_ | refine blk_alloc ?_ _)); exact BK295.out) hg (Kd.R_ne HO_7.out BK295.out (by decide))); have n2_ := Aside0.mk (hb); have n3_ := Aside0.mk (ho); clear BK294; clear BK295; clear HB; clear HO_7; have BK294 := n0_; have BK295 := n1_; have HB := n2_; have HO312 := n3_; clear n0_ n1_ n2_ n3_; clear ho hb hg hat; obtain ⟨Ao50, co50, eo50⟩ := Kd.R_slice HO312.out; subst eo50) | ((with_reducible refine gate_callee (f := 48) rfl ?_); refine goesL_ (some 50) rfl rfl Tryd.func48 (by kernel_rfl) rfl #[.slice Ao50 y310.length co50] rfl (by (try simp only [List.map_toArray, List.map_cons, List.map_nil]); first | done | rfl | (simp only [List.length_drop, List.length_take]; rfl)) ?_; (with_reducible refine (slices_Max_int_int.calls _ _ y310 t313 _ ?side1 ?side2 A46.out).mono ?_); (case side1 => repeat (first | exact (Kd.R_reads' HO312.out).2.2 | (with_reducible refine Kd.C_alloc ?_ _) | (with_reducible refine Kd.C_drewN ?_ _) | (with_reducible refine Kd.C_drew ?_))); (case side2 => exact (Kd.R_reads' HO312.out).2.1); rintro e w51 ⟨rfl, hb⟩; refine ⟨_, rfl, ?_⟩; have n0_ := Aside0.mk (Kd.R_below (by (with_reducible repeat (first | apply Kd.R_alloc | apply Kd.R_drewN | apply Kd.R_drew)); exact HO312.out) hb); have n1_ := Aside0.mk (blk_below (g := gb294) (o := .cells #[.int .i64 a0_0, .int .i64 a0_1, .string a0_2, .string a0_3, .int .i64 a0_4, .slice A0_5 l0_5.length c0_5] 43 (0, 0)) (by (with_reducible repeat (first | refine blk_drewN ?_ _ | refine blk_drew ?_ | refine blk_alloc ?_ _)); exact BK294.out) hb); have n2_ := Aside0.mk (blk_below (g := gb295) (o := .cells #[.int .i64 a2_0, .string a2_1, .string a2_2, .slice A2_3 l2_3.length c2_3] 37 (0, 0)) (by (with_reducible repeat (first | refine blk_drewN ?_ _ | refine blk_drew ?_ | refine blk_alloc ?_ _)); exact BK295.out) hb); have n3_ := Aside0.mk (below_step (by repeat (first | (with_reducible first | exact HB.out | apply below_alloc | apply pw_below_drewN | apply below_drew1 | refine below_set ?_ GE294.out | refine below_set ?_ GE295.out) | exact HB.out)) hb); clear HO312; clear BK294; clear BK295; clear HB; have HO312 := n0_; have BK294 := n1_; have BK295 := n2_; have HB := n3_; clear n0_ n1_ n2_ n3_; (try clear hb); (try clear hb2); (try clear hk); (try clear hi)))
              go_ret
              exact ⟨by first | rfl | (simp [errW_none, errW_some] <;> rfl) | (simp [*, errW_none, errW_some] <;> rfl), by repeat (first | (with_reducible first | exact HB.out | apply below_alloc | apply pw_below_drewN | apply below_drew1 | refine below_set ?_ GE294.out | refine below_set ?_ GE295.out) | exact HB.out)⟩
            · rw [if_neg c45] at H
              exact absurd H (by simp)
          · rw [if_neg c44] at H
            have c44b0 : (a0_0 == 2) = false := beq_eq_false_iff_ne.mpr c44
            have c44b1 : (a0_0 != 2) = true := bne_iff_ne.mpr c44
            by_cases c52 : a0_0 = 3
            · rw [if_pos c52] at H
              have c52b0 : (a0_0 == 3) = true := beq_iff_eq.mpr c52
              have c52b1 : (a0_0 != 3) = false := bne_eq_false_iff_eq.mpr c52
              clear c52
              replace H := Option.bind_eq_some_iff.mp H
              obtain ⟨t314, A530, H⟩ := H
              replace H : (some t314) = some r := H
              have A53 := Aside0.mk A530
              clear A530
              obtain rfl := Option.some.inj H
              have hnb54 := NB294_295.out
              have hnc54 := NB295_294.out
              have hcz55_0 : wc.cell? ⟨gb294, 0, none⟩ = some (.int .i64 a0_0) := (blk_cell BK294.out 0).trans rfl
              have hcz55_1 : wc.cell? ⟨gb294, 1, none⟩ = some (.int .i64 a0_1) := (blk_cell BK294.out 1).trans rfl
              have hcz55_2 : wc.cell? ⟨gb294, 2, none⟩ = some (.string a0_2) := (blk_cell BK294.out 2).trans rfl
              have hcz55_3 : wc.cell? ⟨gb294, 3, none⟩ = some (.string a0_3) := (blk_cell BK294.out 3).trans rfl
              have hcz55_4 : wc.cell? ⟨gb294, 4, none⟩ = some (.int .i64 a0_4) := (blk_cell BK294.out 4).trans rfl
              have hcz55_5 : wc.cell? ⟨gb294, 5, none⟩ = some (.slice A0_5 l0_5.length c0_5) := (blk_cell BK294.out 5).trans rfl
              have hfz55_0 := blk_frozen BK294.out 0
              have hfz55_1 := blk_frozen BK294.out 1
              have hfz55_2 := blk_frozen BK294.out 2
              have hfz55_3 := blk_frozen BK294.out 3
              have hfz55_4 := blk_frozen BK294.out 4
              have hfz55_5 := blk_frozen BK294.out 5
              have hcz56_0 : wc.cell? ⟨gb295, 0, none⟩ = some (.int .i64 a2_0) := (blk_cell BK295.out 0).trans rfl
              have hcz56_1 : wc.cell? ⟨gb295, 1, none⟩ = some (.string a2_1) := (blk_cell BK295.out 1).trans rfl
              have hcz56_2 : wc.cell? ⟨gb295, 2, none⟩ = some (.string a2_2) := (blk_cell BK295.out 2).trans rfl
              have hcz56_3 : wc.cell? ⟨gb295, 3, none⟩ = some (.slice A2_3 l2_3.length c2_3) := (blk_cell BK295.out 3).trans rfl
              have hfz56_0 := blk_frozen BK295.out 0
              have hfz56_1 := blk_frozen BK295.out 1
              have hfz56_2 := blk_frozen BK295.out 2
              have hfz56_3 := blk_frozen BK295.out 3
              go_wp2_with (first | ((with_reducible refine gate_callee (f := 50) rfl ?_); refine goesL_ (some 61) rfl rfl Tryd.func50 (by kernel_rfl) rfl #[.agg #[.int .i64 a0_0, .int .i64 a0_1, .string a0_2, .string a0_3, .int .i64 a0_4, .slice A0_5 l0_5.length c0_5], .slice A1 l1.length c1, .agg #[.int .i64 a2_0, .string a2_1, .string a2_2, .slice A2_3 l2_3.length c2_3]] rfl (by (try simp only [List.map_toArray, List.map_cons, List.map_nil]); first | done | rfl | (simp only [List.length_drop, List.length_take]; rfl)) ?_; (with_reducible refine (examine_atom.calls kj3 a0_0 a0_1 a0_2 a0_3 a0_4 _ _ l0_5 _ _ l1 a2_0 a2_1 a2_2 _ _ l2_3 t314 _ ?side1 ?side2 ?side3 ?side4 ?side5 ?side6 (by first | exact HG.out | exact Glob_below HG.out (by repeat (first | (with_reducible first | exact HB.out | apply below_alloc | apply pw_below_drewN | apply below_drew1 | refine below_set ?_ GE294.out | refine below_set ?_ GE295.out) | exact HB.out)) | (repeat (first | exact HG.out | apply Glob_drewN | apply Glob_drew | apply Glob_alloc))) A53.out).mono ?_); (case side1 => repeat (first | exact (Kd.C_below HR0_5.out HB.out) | (with_reducible refine Kd.C_alloc ?_ _) | (with_reducible refine Kd.C_drewN ?_ _) | (with_reducible refine Kd.C_drew ?_))); (case side2 => exact HC0_5.out); (case side3 => repeat (first | exact (Kd.C_below HR1.out HB.out) | (with_reducible refine Kd.C_alloc ?_ _) | (with_reducible refine Kd.C_drewN ?_ _) | (with_reducible refine Kd.C_drew ?_))); (case side4 => exact HC1.out); (case side5 => repeat (first | exact (Kd.C_below HR2_3.out HB.out) | (with_reducible refine Kd.C_alloc ?_ _) | (with_reducible refine Kd.C_drewN ?_ _) | (with_reducible refine Kd.C_drew ?_))); (case side6 => exact HC2_3.out); rintro e w57 ⟨rfl, hb⟩; refine ⟨_, rfl, ?_⟩; have n0_ := Aside0.mk (Kd.R_below (by (with_reducible repeat (first | apply Kd.R_alloc | apply Kd.R_drewN | apply Kd.R_drew)); exact HO_7.out) hb); have n1_ := Aside0.mk (blk_below (g := gb294) (o := .cells #[.int .i64 a0_0, .int .i64 a0_1, .string a0_2, .string a0_3, .int .i64 a0_4, .slice A0_5 l0_5.length c0_5] 43 (0, 0)) (by (with_reducible repeat (first | refine blk_drewN ?_ _ | refine blk_drew ?_ | refine blk_alloc ?_ _)); exact BK294.out) hb); have n2_ := Aside0.mk (blk_below (g := gb295) (o := .cells #[.int .i64 a2_0, .string a2_1, .string a2_2, .slice A2_3 l2_3.length c2_3] 37 (0, 0)) (by (with_reducible repeat (first | refine blk_drewN ?_ _ | refine blk_drew ?_ | refine blk_alloc ?_ _)); exact BK295.out) hb); have n3_ := Aside0.mk (below_step (by repeat (first | (with_reducible first | exact HB.out | apply below_alloc | apply pw_below_drewN | apply below_drew1 | refine below_set ?_ GE294.out | refine below_set ?_ GE295.out) | exact HB.out)) hb); clear HO_7; clear BK294; clear BK295; clear HB; have HO_7 := n0_; have BK294 := n1_; have BK295 := n2_; have HB := n3_; clear n0_ n1_ n2_ n3_; (try clear hb); (try clear hb2); (try clear hk); (try clear hi)))
              go_ret
              exact ⟨by first | rfl | (simp [errW_none, errW_some] <;> rfl) | (simp [*, errW_none, errW_some] <;> rfl), by repeat (first | (with_reducible first | exact HB.out | apply below_alloc | apply pw_below_drewN | apply below_drew1 | refine below_set ?_ GE294.out | refine below_set ?_ GE295.out) | exact HB.out)⟩
            · rw [if_neg c52] at H
              have c52b0 : (a0_0 == 3) = false := beq_eq_false_iff_ne.mpr c52
              have c52b1 : (a0_0 != 3) = true := bne_iff_ne.mpr c52
              by_cases c58 : a0_0 = 4
              · rw [if_pos c58] at H
                have c58b0 : (a0_0 == 4) = true := beq_iff_eq.mpr c58
                have c58b1 : (a0_0 != 4) = false := bne_eq_false_iff_eq.mpr c58
                clear c58
                replace H := Option.bind_eq_some_iff.mp H
                obtain ⟨t315, A590, H⟩ := H
                replace H : (some t315) = some r := H
                have A59 := Aside0.mk A590
                clear A590
                obtain rfl := Option.some.inj H
                have hnb60 := NB294_295.out
                have hnc60 := NB295_294.out
                have hcz61_0 : wc.cell? ⟨gb294, 0, none⟩ = some (.int .i64 a0_0) := (blk_cell BK294.out 0).trans rfl
                have hcz61_1 : wc.cell? ⟨gb294, 1, none⟩ = some (.int .i64 a0_1) := (blk_cell BK294.out 1).trans rfl
                have hcz61_2 : wc.cell? ⟨gb294, 2, none⟩ = some (.string a0_2) := (blk_cell BK294.out 2).trans rfl
                have hcz61_3 : wc.cell? ⟨gb294, 3, none⟩ = some (.string a0_3) := (blk_cell BK294.out 3).trans rfl
                have hcz61_4 : wc.cell? ⟨gb294, 4, none⟩ = some (.int .i64 a0_4) := (blk_cell BK294.out 4).trans rfl
                have hcz61_5 : wc.cell? ⟨gb294, 5, none⟩ = some (.slice A0_5 l0_5.length c0_5) := (blk_cell BK294.out 5).trans rfl
                have hfz61_0 := blk_frozen BK294.out 0
                have hfz61_1 := blk_frozen BK294.out 1
                have hfz61_2 := blk_frozen BK294.out 2
                have hfz61_3 := blk_frozen BK294.out 3
                have hfz61_4 := blk_frozen BK294.out 4
                have hfz61_5 := blk_frozen BK294.out 5
                have hcz62_0 : wc.cell? ⟨gb295, 0, none⟩ = some (.int .i64 a2_0) := (blk_cell BK295.out 0).trans rfl
                have hcz62_1 : wc.cell? ⟨gb295, 1, none⟩ = some (.string a2_1) := (blk_cell BK295.out 1).trans rfl
                have hcz62_2 : wc.cell? ⟨gb295, 2, none⟩ = some (.string a2_2) := (blk_cell BK295.out 2).trans rfl
                have hcz62_3 : wc.cell? ⟨gb295, 3, none⟩ = some (.slice A2_3 l2_3.length c2_3) := (blk_cell BK295.out 3).trans rfl
                have hfz62_0 := blk_frozen BK295.out 0
                have hfz62_1 := blk_frozen BK295.out 1
                have hfz62_2 := blk_frozen BK295.out 2
                have hfz62_3 := blk_frozen BK295.out 3
                go_wp2_with (first | ((with_reducible refine gate_callee (f := 50) rfl ?_); refine goesL_ (some 61) rfl rfl Tryd.func50 (by kernel_rfl) rfl #[.agg #[.int .i64 a0_0, .int .i64 a0_1, .string a0_2, .string a0_3, .int .i64 a0_4, .slice A0_5 l0_5.length c0_5], .slice A1 l1.length c1, .agg #[.int .i64 a2_0, .string a2_1, .string a2_2, .slice A2_3 l2_3.length c2_3]] rfl (by (try simp only [List.map_toArray, List.map_cons, List.map_nil]); first | done | rfl | (simp only [List.length_drop, List.length_take]; rfl)) ?_; (with_reducible refine (examine_atom.calls kj3 a0_0 a0_1 a0_2 a0_3 a0_4 _ _ l0_5 _ _ l1 a2_0 a2_1 a2_2 _ _ l2_3 t315 _ ?side1 ?side2 ?side3 ?side4 ?side5 ?side6 (by first | exact HG.out | exact Glob_below HG.out (by repeat (first | (with_reducible first | exact HB.out | apply below_alloc | apply pw_below_drewN | apply below_drew1 | refine below_set ?_ GE294.out | refine below_set ?_ GE295.out) | exact HB.out)) | (repeat (first | exact HG.out | apply Glob_drewN | apply Glob_drew | apply Glob_alloc))) A59.out).mono ?_); (case side1 => repeat (first | exact (Kd.C_below HR0_5.out HB.out) | (with_reducible refine Kd.C_alloc ?_ _) | (with_reducible refine Kd.C_drewN ?_ _) | (with_reducible refine Kd.C_drew ?_))); (case side2 => exact HC0_5.out); (case side3 => repeat (first | exact (Kd.C_below HR1.out HB.out) | (with_reducible refine Kd.C_alloc ?_ _) | (with_reducible refine Kd.C_drewN ?_ _) | (with_reducible refine Kd.C_drew ?_))); (case side4 => exact HC1.out); (case side5 => repeat (first | exact (Kd.C_below HR2_3.out HB.out) | (with_reducible refine Kd.C_alloc ?_ _) | (with_reducible refine Kd.C_drewN ?_ _) | (with_reducible refine Kd.C_drew ?_))); (case side6 => exact HC2_3.out); rintro e w63 ⟨rfl, hb⟩; refine ⟨_, rfl, ?_⟩; have n0_ := Aside0.mk (Kd.R_below (by (with_reducible repeat (first | apply Kd.R_alloc | apply Kd.R_drewN | apply Kd.R_drew)); exact HO_7.out) hb); have n1_ := Aside0.mk (blk_below (g := gb294) (o := .cells #[.int .i64 a0_0, .int .i64 a0_1, .string a0_2, .string a0_3, .int .i64 a0_4, .slice A0_5 l0_5.length c0_5] 43 (0, 0)) (by (with_reducible repeat (first | refine blk_drewN ?_ _ | refine blk_drew ?_ | refine blk_alloc ?_ _)); exact BK294.out) hb); have n2_ := Aside0.mk (blk_below (g := gb295) (o := .cells #[.int .i64 a2_0, .string a2_1, .string a2_2, .slice A2_3 l2_3.length c2_3] 37 (0, 0)) (by (with_reducible repeat (first | refine blk_drewN ?_ _ | refine blk_drew ?_ | refine blk_alloc ?_ _)); exact BK295.out) hb); have n3_ := Aside0.mk (below_step (by repeat (first | (with_reducible first | exact HB.out | apply below_alloc | apply pw_below_drewN | apply below_drew1 | refine below_set ?_ GE294.out | refine below_set ?_ GE295.out) | exact HB.out)) hb); clear HO_7; clear BK294; clear BK295; clear HB; have HO_7 := n0_; have BK294 := n1_; have BK295 := n2_; have HB := n3_; clear n0_ n1_ n2_ n3_; (try clear hb); (try clear hb2); (try clear hk); (try clear hi)))
                go_ret
                exact ⟨by first | rfl | (simp [errW_none, errW_some] <;> rfl) | (simp [*, errW_none, errW_some] <;> rfl), by repeat (first | (with_reducible first | exact HB.out | apply below_alloc | apply pw_below_drewN | apply below_drew1 | refine below_set ?_ GE294.out | refine below_set ?_ GE295.out) | exact HB.out)⟩
              · rw [if_neg c58] at H
                have c58b0 : (a0_0 == 4) = false := beq_eq_false_iff_ne.mpr c58
                have c58b1 : (a0_0 != 4) = true := bne_iff_ne.mpr c58
                by_cases c64 : a0_0 = 5
                · rw [if_pos c64] at H
                  have c64b0 : (a0_0 == 5) = true := beq_iff_eq.mpr c64
                  have c64b1 : (a0_0 != 5) = false := bne_eq_false_iff_eq.mpr c64
                  clear c64
                  replace H := Option.bind_eq_some_iff.mp H
                  obtain ⟨t316, A650, H⟩ := H
                  replace H : (some t316) = some r := H
                  have A65 := Aside0.mk A650
                  clear A650
                  obtain rfl := Option.some.inj H
                  have hnb66 := NB294_295.out
                  have hnc66 := NB295_294.out
                  have hcz67_0 : wc.cell? ⟨gb294, 0, none⟩ = some (.int .i64 a0_0) := (blk_cell BK294.out 0).trans rfl
                  have hcz67_1 : wc.cell? ⟨gb294, 1, none⟩ = some (.int .i64 a0_1) := (blk_cell BK294.out 1).trans rfl
                  have hcz67_2 : wc.cell? ⟨gb294, 2, none⟩ = some (.string a0_2) := (blk_cell BK294.out 2).trans rfl
                  have hcz67_3 : wc.cell? ⟨gb294, 3, none⟩ = some (.string a0_3) := (blk_cell BK294.out 3).trans rfl
                  have hcz67_4 : wc.cell? ⟨gb294, 4, none⟩ = some (.int .i64 a0_4) := (blk_cell BK294.out 4).trans rfl
                  have hcz67_5 : wc.cell? ⟨gb294, 5, none⟩ = some (.slice A0_5 l0_5.length c0_5) := (blk_cell BK294.out 5).trans rfl
                  have hfz67_0 := blk_frozen BK294.out 0
                  have hfz67_1 := blk_frozen BK294.out 1
                  have hfz67_2 := blk_frozen BK294.out 2
                  have hfz67_3 := blk_frozen BK294.out 3
                  have hfz67_4 := blk_frozen BK294.out 4
                  have hfz67_5 := blk_frozen BK294.out 5
                  have hcz68_0 : wc.cell? ⟨gb295, 0, none⟩ = some (.int .i64 a2_0) := (blk_cell BK295.out 0).trans rfl
                  have hcz68_1 : wc.cell? ⟨gb295, 1, none⟩ = some (.string a2_1) := (blk_cell BK295.out 1).trans rfl
                  have hcz68_2 : wc.cell? ⟨gb295, 2, none⟩ = some (.string a2_2) := (blk_cell BK295.out 2).trans rfl
                  have hcz68_3 : wc.cell? ⟨gb295, 3, none⟩ = some (.slice A2_3 l2_3.length c2_3) := (blk_cell BK295.out 3).trans rfl
                  have hfz68_0 := blk_frozen BK295.out 0
                  have hfz68_1 := blk_frozen BK295.out 1
                  have hfz68_2 := blk_frozen BK295.out 2
                  have hfz68_3 := blk_frozen BK295.out 3
                  go_wp2_with (first | ((with_reducible refine gate_callee (f := 50) rfl ?_); refine goesL_ (some 61) rfl rfl Tryd.func50 (by kernel_rfl) rfl #[.agg #[.int .i64 a0_0, .int .i64 a0_1, .string a0_2, .string a0_3, .int .i64 a0_4, .slice A0_5 l0_5.length c0_5], .slice A1 l1.length c1, .agg #[.int .i64 a2_0, .string a2_1, .string a2_2, .slice A2_3 l2_3.length c2_3]] rfl (by (try simp only [List.map_toArray, List.map_cons, List.map_nil]); first | done | rfl | (simp only [List.length_drop, List.length_take]; rfl)) ?_; (with_reducible refine (examine_atom.calls kj3 a0_0 a0_1 a0_2 a0_3 a0_4 _ _ l0_5 _ _ l1 a2_0 a2_1 a2_2 _ _ l2_3 t316 _ ?side1 ?side2 ?side3 ?side4 ?side5 ?side6 (by first | exact HG.out | exact Glob_below HG.out (by repeat (first | (with_reducible first | exact HB.out | apply below_alloc | apply pw_below_drewN | apply below_drew1 | refine below_set ?_ GE294.out | refine below_set ?_ GE295.out) | exact HB.out)) | (repeat (first | exact HG.out | apply Glob_drewN | apply Glob_drew | apply Glob_alloc))) A65.out).mono ?_); (case side1 => repeat (first | exact (Kd.C_below HR0_5.out HB.out) | (with_reducible refine Kd.C_alloc ?_ _) | (with_reducible refine Kd.C_drewN ?_ _) | (with_reducible refine Kd.C_drew ?_))); (case side2 => exact HC0_5.out); (case side3 => repeat (first | exact (Kd.C_below HR1.out HB.out) | (with_reducible refine Kd.C_alloc ?_ _) | (with_reducible refine Kd.C_drewN ?_ _) | (with_reducible refine Kd.C_drew ?_))); (case side4 => exact HC1.out); (case side5 => repeat (first | exact (Kd.C_below HR2_3.out HB.out) | (with_reducible refine Kd.C_alloc ?_ _) | (with_reducible refine Kd.C_drewN ?_ _) | (with_reducible refine Kd.C_drew ?_))); (case side6 => exact HC2_3.out); rintro e w69 ⟨rfl, hb⟩; refine ⟨_, rfl, ?_⟩; have n0_ := Aside0.mk (Kd.R_below (by (with_reducible repeat (first | apply Kd.R_alloc | apply Kd.R_drewN | apply Kd.R_drew)); exact HO_7.out) hb); have n1_ := Aside0.mk (blk_below (g := gb294) (o := .cells #[.int .i64 a0_0, .int .i64 a0_1, .string a0_2, .string a0_3, .int .i64 a0_4, .slice A0_5 l0_5.length c0_5] 43 (0, 0)) (by (with_reducible repeat (first | refine blk_drewN ?_ _ | refine blk_drew ?_ | refine blk_alloc ?_ _)); exact BK294.out) hb); have n2_ := Aside0.mk (blk_below (g := gb295) (o := .cells #[.int .i64 a2_0, .string a2_1, .string a2_2, .slice A2_3 l2_3.length c2_3] 37 (0, 0)) (by (with_reducible repeat (first | refine blk_drewN ?_ _ | refine blk_drew ?_ | refine blk_alloc ?_ _)); exact BK295.out) hb); have n3_ := Aside0.mk (below_step (by repeat (first | (with_reducible first | exact HB.out | apply below_alloc | apply pw_below_drewN | apply below_drew1 | refine below_set ?_ GE294.out | refine below_set ?_ GE295.out) | exact HB.out)) hb); clear HO_7; clear BK294; clear BK295; clear HB; have HO_7 := n0_; have BK294 := n1_; have BK295 := n2_; have HB := n3_; clear n0_ n1_ n2_ n3_; (try clear hb); (try clear hb2); (try clear hk); (try clear hi)))
                  go_ret
                  exact ⟨by first | rfl | (simp [errW_none, errW_some] <;> rfl) | (simp [*, errW_none, errW_some] <;> rfl), by repeat (first | (with_reducible first | exact HB.out | apply below_alloc | apply pw_below_drewN | apply below_drew1 | refine below_set ?_ GE294.out | refine below_set ?_ GE295.out) | exact HB.out)⟩
                · rw [if_neg c64] at H
                  have c64b0 : (a0_0 == 5) = false := beq_eq_false_iff_ne.mpr c64
                  have c64b1 : (a0_0 != 5) = true := bne_iff_ne.mpr c64
                  by_cases c70 : a0_0 = 6
                  · rw [if_pos c70] at H
                    have c70b0 : (a0_0 == 6) = true := beq_iff_eq.mpr c70
                    have c70b1 : (a0_0 != 6) = false := bne_eq_false_iff_eq.mpr c70
                    clear c70
                    replace H := Option.bind_eq_some_iff.mp H
                    obtain ⟨t317, A710, H⟩ := H
                    replace H : (some t317) = some r := H
                    have A71 := Aside0.mk A710
                    clear A710
                    obtain rfl := Option.some.inj H
                    have hnb72 := NB294_295.out
                    have hnc72 := NB295_294.out
                    have hcz73_0 : wc.cell? ⟨gb294, 0, none⟩ = some (.int .i64 a0_0) := (blk_cell BK294.out 0).trans rfl
                    have hcz73_1 : wc.cell? ⟨gb294, 1, none⟩ = some (.int .i64 a0_1) := (blk_cell BK294.out 1).trans rfl
                    have hcz73_2 : wc.cell? ⟨gb294, 2, none⟩ = some (.string a0_2) := (blk_cell BK294.out 2).trans rfl
                    have hcz73_3 : wc.cell? ⟨gb294, 3, none⟩ = some (.string a0_3) := (blk_cell BK294.out 3).trans rfl
                    have hcz73_4 : wc.cell? ⟨gb294, 4, none⟩ = some (.int .i64 a0_4) := (blk_cell BK294.out 4).trans rfl
                    have hcz73_5 : wc.cell? ⟨gb294, 5, none⟩ = some (.slice A0_5 l0_5.length c0_5) := (blk_cell BK294.out 5).trans rfl
                    have hfz73_0 := blk_frozen BK294.out 0
                    have hfz73_1 := blk_frozen BK294.out 1
                    have hfz73_2 := blk_frozen BK294.out 2
                    have hfz73_3 := blk_frozen BK294.out 3
                    have hfz73_4 := blk_frozen BK294.out 4
                    have hfz73_5 := blk_frozen BK294.out 5
                    have hcz74_0 : wc.cell? ⟨gb295, 0, none⟩ = some (.int .i64 a2_0) := (blk_cell BK295.out 0).trans rfl
                    have hcz74_1 : wc.cell? ⟨gb295, 1, none⟩ = some (.string a2_1) := (blk_cell BK295.out 1).trans rfl
                    have hcz74_2 : wc.cell? ⟨gb295, 2, none⟩ = some (.string a2_2) := (blk_cell BK295.out 2).trans rfl
                    have hcz74_3 : wc.cell? ⟨gb295, 3, none⟩ = some (.slice A2_3 l2_3.length c2_3) := (blk_cell BK295.out 3).trans rfl
                    have hfz74_0 := blk_frozen BK295.out 0
                    have hfz74_1 := blk_frozen BK295.out 1
                    have hfz74_2 := blk_frozen BK295.out 2
                    have hfz74_3 := blk_frozen BK295.out 3
                    go_wp2_with (first | ((with_reducible refine gate_callee (f := 50) rfl ?_); refine goesL_ (some 61) rfl rfl Tryd.func50 (by kernel_rfl) rfl #[.agg #[.int .i64 a0_0, .int .i64 a0_1, .string a0_2, .string a0_3, .int .i64 a0_4, .slice A0_5 l0_5.length c0_5], .slice A1 l1.length c1, .agg #[.int .i64 a2_0, .string a2_1, .string a2_2, .slice A2_3 l2_3.length c2_3]] rfl (by (try simp only [List.map_toArray, List.map_cons, List.map_nil]); first | done | rfl | (simp only [List.length_drop, List.length_take]; rfl)) ?_; (with_reducible refine (examine_atom.calls kj3 a0_0 a0_1 a0_2 a0_3 a0_4 _ _ l0_5 _ _ l1 a2_0 a2_1 a2_2 _ _ l2_3 t317 _ ?side1 ?side2 ?side3 ?side4 ?side5 ?side6 (by first | exact HG.out | exact Glob_below HG.out (by repeat (first | (with_reducible first | exact HB.out | apply below_alloc | apply pw_below_drewN | apply below_drew1 | refine below_set ?_ GE294.out | refine below_set ?_ GE295.out) | exact HB.out)) | (repeat (first | exact HG.out | apply Glob_drewN | apply Glob_drew | apply Glob_alloc))) A71.out).mono ?_); (case side1 => repeat (first | exact (Kd.C_below HR0_5.out HB.out) | (with_reducible refine Kd.C_alloc ?_ _) | (with_reducible refine Kd.C_drewN ?_ _) | (with_reducible refine Kd.C_drew ?_))); (case side2 => exact HC0_5.out); (case side3 => repeat (first | exact (Kd.C_below HR1.out HB.out) | (with_reducible refine Kd.C_alloc ?_ _) | (with_reducible refine Kd.C_drewN ?_ _) | (with_reducible refine Kd.C_drew ?_))); (case side4 => exact HC1.out); (case side5 => repeat (first | exact (Kd.C_below HR2_3.out HB.out) | (with_reducible refine Kd.C_alloc ?_ _) | (with_reducible refine Kd.C_drewN ?_ _) | (with_reducible refine Kd.C_drew ?_))); (case side6 => exact HC2_3.out); rintro e w75 ⟨rfl, hb⟩; refine ⟨_, rfl, ?_⟩; have n0_ := Aside0.mk (Kd.R_below (by (with_reducible repeat (first | apply Kd.R_alloc | apply Kd.R_drewN | apply Kd.R_drew)); exact HO_7.out) hb); have n1_ := Aside0.mk (blk_below (g := gb294) (o := .cells #[.int .i64 a0_0, .int .i64 a0_1, .string a0_2, .string a0_3, .int .i64 a0_4, .slice A0_5 l0_5.length c0_5] 43 (0, 0)) (by (with_reducible repeat (first | refine blk_drewN ?_ _ | refine blk_drew ?_ | refine blk_alloc ?_ _)); exact BK294.out) hb); have n2_ := Aside0.mk (blk_below (g := gb295) (o := .cells #[.int .i64 a2_0, .string a2_1, .string a2_2, .slice A2_3 l2_3.length c2_3] 37 (0, 0)) (by (with_reducible repeat (first | refine blk_drewN ?_ _ | refine blk_drew ?_ | refine blk_alloc ?_ _)); exact BK295.out) hb); have n3_ := Aside0.mk (below_step (by repeat (first | (with_reducible first | exact HB.out | apply below_alloc | apply pw_below_drewN | apply below_drew1 | refine below_set ?_ GE294.out | refine below_set ?_ GE295.out) | exact HB.out)) hb); clear HO_7; clear BK294; clear BK295; clear HB; have HO_7 := n0_; have BK294 := n1_; have BK295 := n2_; have HB := n3_; clear n0_ n1_ n2_ n3_; (try clear hb); (try clear hb2); (try clear hk); (try clear hi)))
                    go_ret
                    exact ⟨by first | rfl | (simp [errW_none, errW_some] <;> rfl) | (simp [*, errW_none, errW_some] <;> rfl), by repeat (first | (with_reducible first | exact HB.out | apply below_alloc | apply pw_below_drewN | apply below_drew1 | refine below_set ?_ GE294.out | refine below_set ?_ GE295.out) | exact HB.out)⟩
                  · rw [if_neg c70] at H
                    have c70b0 : (a0_0 == 6) = false := beq_eq_false_iff_ne.mpr c70
                    have c70b1 : (a0_0 != 6) = true := bne_iff_ne.mpr c70
                    by_cases c76 : a0_0 = 7
                    · rw [if_pos c76] at H
                      have c76b0 : (a0_0 == 7) = true := beq_iff_eq.mpr c76
                      have c76b1 : (a0_0 != 7) = false := bne_eq_false_iff_eq.mpr c76
                      clear c76
                      replace H := Option.bind_eq_some_iff.mp H
                      obtain ⟨t318, A770, H⟩ := H
                      replace H : (some t318) = some r := H
                      have A77 := Aside0.mk A770
                      clear A770
                      obtain rfl := Option.some.inj H
                      have hnb78 := NB294_295.out
                      have hnc78 := NB295_294.out
                      have hcz79_0 : wc.cell? ⟨gb294, 0, none⟩ = some (.int .i64 a0_0) := (blk_cell BK294.out 0).trans rfl
                      have hcz79_1 : wc.cell? ⟨gb294, 1, none⟩ = some (.int .i64 a0_1) := (blk_cell BK294.out 1).trans rfl
                      have hcz79_2 : wc.cell? ⟨gb294, 2, none⟩ = some (.string a0_2) := (blk_cell BK294.out 2).trans rfl
                      have hcz79_3 : wc.cell? ⟨gb294, 3, none⟩ = some (.string a0_3) := (blk_cell BK294.out 3).trans rfl
                      have hcz79_4 : wc.cell? ⟨gb294, 4, none⟩ = some (.int .i64 a0_4) := (blk_cell BK294.out 4).trans rfl
                      have hcz79_5 : wc.cell? ⟨gb294, 5, none⟩ = some (.slice A0_5 l0_5.length c0_5) := (blk_cell BK294.out 5).trans rfl
                      have hfz79_0 := blk_frozen BK294.out 0
                      have hfz79_1 := blk_frozen BK294.out 1
                      have hfz79_2 := blk_frozen BK294.out 2
                      have hfz79_3 := blk_frozen BK294.out 3
                      have hfz79_4 := blk_frozen BK294.out 4
                      have hfz79_5 := blk_frozen BK294.out 5
                      have hcz80_0 : wc.cell? ⟨gb295, 0, none⟩ = some (.int .i64 a2_0) := (blk_cell BK295.out 0).trans rfl
                      have hcz80_1 : wc.cell? ⟨gb295, 1, none⟩ = some (.string a2_1) := (blk_cell BK295.out 1).trans rfl
                      have hcz80_2 : wc.cell? ⟨gb295, 2, none⟩ = some (.string a2_2) := (blk_cell BK295.out 2).trans rfl
                      have hcz80_3 : wc.cell? ⟨gb295, 3, none⟩ = some (.slice A2_3 l2_3.length c2_3) := (blk_cell BK295.out 3).trans rfl
                      have hfz80_0 := blk_frozen BK295.out 0
                      have hfz80_1 := blk_frozen BK295.out 1
                      have hfz80_2 := blk_frozen BK295.out 2
                      have hfz80_3 := blk_frozen BK295.out 3
                      go_wp2_with (first | ((with_reducible refine gate_callee (f := 50) rfl ?_); refine goesL_ (some 61) rfl rfl Tryd.func50 (by kernel_rfl) rfl #[.agg #[.int .i64 a0_0, .int .i64 a0_1, .string a0_2, .string a0_3, .int .i64 a0_4, .slice A0_5 l0_5.length c0_5], .slice A1 l1.length c1, .agg #[.int .i64 a2_0, .string a2_1, .string a2_2, .slice A2_3 l2_3.length c2_3]] rfl (by (try simp only [List.map_toArray, List.map_cons, List.map_nil]); first | done | rfl | (simp only [List.length_drop, List.length_take]; rfl)) ?_; (with_reducible refine (examine_atom.calls kj3 a0_0 a0_1 a0_2 a0_3 a0_4 _ _ l0_5 _ _ l1 a2_0 a2_1 a2_2 _ _ l2_3 t318 _ ?side1 ?side2 ?side3 ?side4 ?side5 ?side6 (by first | exact HG.out | exact Glob_below HG.out (by repeat (first | (with_reducible first | exact HB.out | apply below_alloc | apply pw_below_drewN | apply below_drew1 | refine below_set ?_ GE294.out | refine below_set ?_ GE295.out) | exact HB.out)) | (repeat (first | exact HG.out | apply Glob_drewN | apply Glob_drew | apply Glob_alloc))) A77.out).mono ?_); (case side1 => repeat (first | exact (Kd.C_below HR0_5.out HB.out) | (with_reducible refine Kd.C_alloc ?_ _) | (with_reducible refine Kd.C_drewN ?_ _) | (with_reducible refine Kd.C_drew ?_))); (case side2 => exact HC0_5.out); (case side3 => repeat (first | exact (Kd.C_below HR1.out HB.out) | (with_reducible refine Kd.C_alloc ?_ _) | (with_reducible refine Kd.C_drewN ?_ _) | (with_reducible refine Kd.C_drew ?_))); (case side4 => exact HC1.out); (case side5 => repeat (first | exact (Kd.C_below HR2_3.out HB.out) | (with_reducible refine Kd.C_alloc ?_ _) | (with_reducible refine Kd.C_drewN ?_ _) | (with_reducible refine Kd.C_drew ?_))); (case side6 => exact HC2_3.out); rintro e w81 ⟨rfl, hb⟩; refine ⟨_, rfl, ?_⟩; have n0_ := Aside0.mk (Kd.R_below (by (with_reducible repeat (first | apply Kd.R_alloc | apply Kd.R_drewN | apply Kd.R_drew)); exact HO_7.out) hb); have n1_ := Aside0.mk (blk_below (g := gb294) (o := .cells #[.int .i64 a0_0, .int .i64 a0_1, .string a0_2, .string a0_3, .int .i64 a0_4, .slice A0_5 l0_5.length c0_5] 43 (0, 0)) (by (with_reducible repeat (first | refine blk_drewN ?_ _ | refine blk_drew ?_ | refine blk_alloc ?_ _)); exact BK294.out) hb); have n2_ := Aside0.mk (blk_below (g := gb295) (o := .cells #[.int .i64 a2_0, .string a2_1, .string a2_2, .slice A2_3 l2_3.length c2_3] 37 (0, 0)) (by (with_reducible repeat (first | refine blk_drewN ?_ _ | refine blk_drew ?_ | refine blk_alloc ?_ _)); exact BK295.out) hb); have n3_ := Aside0.mk (below_step (by repeat (first | (with_reducible first | exact HB.out | apply below_alloc | apply pw_below_drewN | apply below_drew1 | refine below_set ?_ GE294.out | refine below_set ?_ GE295.out) | exact HB.out)) hb); clear HO_7; clear BK294; clear BK295; clear HB; have HO_7 := n0_; have BK294 := n1_; have BK295 := n2_; have HB := n3_; clear n0_ n1_ n2_ n3_; (try clear hb); (try clear hb2); (try clear hk); (try clear hi)))
                      go_ret
                      exact ⟨by first | rfl | (simp [errW_none, errW_some] <;> rfl) | (simp [*, errW_none, errW_some] <;> rfl), by repeat (first | (with_reducible first | exact HB.out | apply below_alloc | apply pw_below_drewN | apply below_drew1 | refine below_set ?_ GE294.out | refine below_set ?_ GE295.out) | exact HB.out)⟩
                    · rw [if_neg c76] at H
                      have c76b0 : (a0_0 == 7) = false := beq_eq_false_iff_ne.mpr c76
                      have c76b1 : (a0_0 != 7) = true := bne_iff_ne.mpr c76
                      obtain rfl := Option.some.inj H
                      have hnb82 := NB294_295.out
                      have hnc82 := NB295_294.out
                      have hcz83_0 : wc.cell? ⟨gb294, 0, none⟩ = some (.int .i64 a0_0) := (blk_cell BK294.out 0).trans rfl
                      have hcz83_1 : wc.cell? ⟨gb294, 1, none⟩ = some (.int .i64 a0_1) := (blk_cell BK294.out 1).trans rfl
                      have hcz83_2 : wc.cell? ⟨gb294, 2, none⟩ = some (.string a0_2) := (blk_cell BK294.out 2).trans rfl
                      have hcz83_3 : wc.cell? ⟨gb294, 3, none⟩ = some (.string a0_3) := (blk_cell BK294.out 3).trans rfl
                      have hcz83_4 : wc.cell? ⟨gb294, 4, none⟩ = some (.int .i64 a0_4) := (blk_cell BK294.out 4).trans rfl
                      have hcz83_5 : wc.cell? ⟨gb294, 5, none⟩ = some (.slice A0_5 l0_5.length c0_5) := (blk_cell BK294.out 5).trans rfl
                      have hfz83_0 := blk_frozen BK294.out 0
                      have hfz83_1 := blk_frozen BK294.out 1
                      have hfz83_2 := blk_frozen BK294.out 2
                      have hfz83_3 := blk_frozen BK294.out 3
                      have hfz83_4 := blk_frozen BK294.out 4
                      have hfz83_5 := blk_frozen BK294.out 5
                      go_wp2
                      go_ret
                      exact ⟨by first | rfl | (simp [errW_none, errW_some] <;> rfl) | (simp [*, errW_none, errW_some] <;> rfl), by repeat (first | (with_reducible first | exact HB.out | apply below_alloc | apply pw_below_drewN | apply below_drew1 | refine below_set ?_ GE294.out | refine below_set ?_ GE295.out) | exact HB.out)⟩

end Go.Proofs.YtcibglpbfaffgaaDoor.X
