-- Printed by a program of this session's own (wip/mkprint.py), after the print that the kit describes.
import Derived.Test.YtcibglpbfaffgaaDoorX0
import Derived.Test.YtcibglpbfaffgaaDoorX8
namespace Go.Proofs.YtcibglpbfaffgaaDoor.X
open Go.RowKit Go.Proofs.YtcibglpbfaffgaaDoorW.PrintWords Go.Proofs.YtcibglpbfaffgaaDoorW.PrintLast Go.Proofs.YtcibglpbfaffgaaDoorW.PrintMore
attribute [local go_sem] max2_int min2_int max_two min_two max_three min_three max_four min_four   -- for this text's walks alone
set_option linter.unusedVariables false
set_option linter.unusedSimpArgs false

/-! ### supercargoref31_Few: function 14 -/
mutual
def supercargoref31_Few.j0 : Nat → List (S37) → Bool → ByteArray → ByteArray → ByteArray → ByteArray → ByteArray → ByteArray → ByteArray → ByteArray → Int → Int → Int → Int → Int → Int → Int → Bool → Bool → List (S45) → Option (Bool)
  | 0, _, _, _, _, _, _, _, _, _, _, _, _, _, _, _, _, _, _, _, _ => none
  | k + 1, x1, x16, x156000, x156001, x156002, x156003, x156004, x156005, x156006, x156007, x156008, x156009, x156010, x156011, x156012, x156013, x156014, x156015, x156016, x156017 => if x16 = true then (some false) else (supercargoref31_Few.l0 k x1 0 x156000 x156001 x156002 x156003 x156004 x156005 x156006 x156007 x156008 x156009 x156010 x156011 x156012 x156013 x156014 x156015 x156016 x156017)
def supercargoref31_Few.l0 : Nat → List (S37) → Int → ByteArray → ByteArray → ByteArray → ByteArray → ByteArray → ByteArray → ByteArray → ByteArray → Int → Int → Int → Int → Int → Int → Int → Bool → Bool → List (S45) → Option (Bool)
  | 0, _, _, _, _, _, _, _, _, _, _, _, _, _, _, _, _, _, _, _, _ => none
  | k + 1, x1, x5, x156000, x156001, x156002, x156003, x156004, x156005, x156006, x156007, x156008, x156009, x156010, x156011, x156012, x156013, x156014, x156015, x156016, x156017 => if x5 < (x156017.length : Int) then (if 0 ≤ x5 then ((supercargoref31_Size.f k ((rd_T45 x156017 x5).f2.f0) ((rd_T45 x156017 x5).f2.f1) ((rd_T45 x156017 x5).f2.f2) ((rd_T45 x156017 x5).f2.f3) ((rd_T45 x156017 x5).f2.f4) ((rd_T45 x156017 x5).f2.f5) 200).bind fun t157 => (if t157 > 60 then (some false) else (supercargoref31_Few.l0 k x1 (wrap64 (x5 + 1)) x156000 x156001 x156002 x156003 x156004 x156005 x156006 x156007 x156008 x156009 x156010 x156011 x156012 x156013 x156014 x156015 x156016 x156017))) else (none)) else (supercargoref31_Few.l1 k x1 0)
def supercargoref31_Few.l1 : Nat → List (S37) → Int → Option (Bool)
  | 0, _, _ => none
  | k + 1, x1, x6 => if x6 < (x1.length : Int) then (if 0 ≤ x6 then (if (((rd_T37 x1 x6).f3).length : Int) > 30 then (some false) else (supercargoref31_Few.l2 k x1 x6 0)) else (none)) else (some true)
def supercargoref31_Few.l2 : Nat → List (S37) → Int → Int → Option (Bool)
  | 0, _, _, _ => none
  | k + 1, x1, x6, x7 => if 0 ≤ x6 then (if x6 < (x1.length : Int) then (if x7 < (((rd_T37 x1 x6).f3).length : Int) then (if 0 ≤ x7 then (if (wrap64 ((((rd_T66 ((rd_T37 x1 x6).f3) x7).f0).size : Int) + (((rd_T66 ((rd_T37 x1 x6).f3) x7).f1).size : Int))) > 300 then (some false) else (supercargoref31_Few.l2 k x1 x6 (wrap64 (x7 + 1)))) else (none)) else (supercargoref31_Few.l1 k x1 (wrap64 (x6 + 1)))) else (none)) else (none)
end
def supercargoref31_Few.f (k : Nat) (a0_0 : ByteArray) (a0_1 : ByteArray) (a0_2 : ByteArray) (a0_3 : ByteArray) (a0_4 : ByteArray) (a0_5 : ByteArray) (a0_6 : ByteArray) (a0_7 : ByteArray) (a0_8 : Int) (a0_9 : Int) (a0_10 : Int) (a0_11 : Int) (a0_12 : Int) (a0_13 : Int) (a0_14 : Int) (a0_15 : Bool) (a0_16 : Bool) (l0_17 : List (S45)) (l1 : List (S37)) : Option (Bool) := if (l0_17.length : Int) > 12 then (supercargoref31_Few.j0 k l1 true a0_0 a0_1 a0_2 a0_3 a0_4 a0_5 a0_6 a0_7 a0_8 a0_9 a0_10 a0_11 a0_12 a0_13 a0_14 a0_15 a0_16 l0_17) else (supercargoref31_Few.j0 k l1 (decide ((l1.length : Int) > 12)) a0_0 a0_1 a0_2 a0_3 a0_4 a0_5 a0_6 a0_7 a0_8 a0_9 a0_10 a0_11 a0_12 a0_13 a0_14 a0_15 a0_16 l0_17)
theorem supercargoref31_Few.mono_l : ∀ k, (∀ y0 y1 y2 y3 y4 y5 y6 y7 y8 y9 y10 y11 y12 y13 y14 y15 y16 y17 y18 y19, LeO (supercargoref31_Few.j0 k y0 y1 y2 y3 y4 y5 y6 y7 y8 y9 y10 y11 y12 y13 y14 y15 y16 y17 y18 y19) (supercargoref31_Few.j0 (k + 1) y0 y1 y2 y3 y4 y5 y6 y7 y8 y9 y10 y11 y12 y13 y14 y15 y16 y17 y18 y19)) ∧ (∀ y0 y1 y2 y3 y4 y5 y6 y7 y8 y9 y10 y11 y12 y13 y14 y15 y16 y17 y18 y19, LeO (supercargoref31_Few.l0 k y0 y1 y2 y3 y4 y5 y6 y7 y8 y9 y10 y11 y12 y13 y14 y15 y16 y17 y18 y19) (supercargoref31_Few.l0 (k + 1) y0 y1 y2 y3 y4 y5 y6 y7 y8 y9 y10 y11 y12 y13 y14 y15 y16 y17 y18 y19)) ∧ (∀ y0 y1, LeO (supercargoref31_Few.l1 k y0 y1) (supercargoref31_Few.l1 (k + 1) y0 y1)) ∧ (∀ y0 y1 y2, LeO (supercargoref31_Few.l2 k y0 y1 y2) (supercargoref31_Few.l2 (k + 1) y0 y1 y2))
  | 0 => ⟨fun _ _ _ _ _ _ _ _ _ _ _ _ _ _ _ _ _ _ _ _ r h => by simp [supercargoref31_Few.j0] at h, fun _ _ _ _ _ _ _ _ _ _ _ _ _ _ _ _ _ _ _ _ r h => by simp [supercargoref31_Few.l0] at h, fun _ _ r h => by simp [supercargoref31_Few.l1] at h, fun _ _ _ r h => by simp [supercargoref31_Few.l2] at h⟩
  | k + 1 => by
    obtain ⟨ih0, ih1, ih2, ih3⟩ := supercargoref31_Few.mono_l k
    refine ⟨?_, ?_, ?_, ?_⟩
    · intro y0 y1 y2 y3 y4 y5 y6 y7 y8 y9 y10 y11 y12 y13 y14 y15 y16 y17 y18 y19
      unfold supercargoref31_Few.j0
      repeat' first
      | (with_reducible exact ih0 _ _ _ _ _ _ _ _ _ _ _ _ _ _ _ _ _ _ _ _)
      | (with_reducible exact ih1 _ _ _ _ _ _ _ _ _ _ _ _ _ _ _ _ _ _ _ _)
      | (with_reducible exact ih2 _ _)
      | (with_reducible exact ih3 _ _ _)
      | (with_reducible exact supercargoref31_Size.mono _ _ _ _ _ _ _ _)
      | (with_reducible exact LeO.refl _)
      | (with_reducible exact LeO.none _)
      | (with_reducible refine LeO.ite ?_ ?_)
      | (with_reducible refine LeO.bind ?_ (fun _ => ?_))
      | exact ih0 _ _ _ _ _ _ _ _ _ _ _ _ _ _ _ _ _ _ _ _
      | exact ih1 _ _ _ _ _ _ _ _ _ _ _ _ _ _ _ _ _ _ _ _
      | exact ih2 _ _
      | exact ih3 _ _ _
      | exact supercargoref31_Size.mono _ _ _ _ _ _ _ _
      | exact LeO.none _
      | refine LeO.ite ?_ ?_
      | refine LeO.bind ?_ (fun _ => ?_)
    · intro y0 y1 y2 y3 y4 y5 y6 y7 y8 y9 y10 y11 y12 y13 y14 y15 y16 y17 y18 y19
      unfold supercargoref31_Few.l0
      repeat' first
      | (with_reducible exact ih0 _ _ _ _ _ _ _ _ _ _ _ _ _ _ _ _ _ _ _ _)
      | (with_reducible exact ih1 _ _ _ _ _ _ _ _ _ _ _ _ _ _ _ _ _ _ _ _)
      | (with_reducible exact ih2 _ _)
      | (with_reducible exact ih3 _ _ _)
      | (with_reducible exact supercargoref31_Size.mono _ _ _ _ _ _ _ _)
      | (with_reducible exact LeO.refl _)
      | (with_reducible exact LeO.none _)
      | (with_reducible refine LeO.ite ?_ ?_)
      | (with_reducible refine LeO.bind ?_ (fun _ => ?_))
      | exact ih0 _ _ _ _ _ _ _ _ _ _ _ _ _ _ _ _ _ _ _ _
      | exact ih1 _ _ _ _ _ _ _ _ _ _ _ _ _ _ _ _ _ _ _ _
      | exact ih2 _ _
      | exact ih3 _ _ _
      | exact supercargoref31_Size.mono _ _ _ _ _ _ _ _
      | exact LeO.none _
      | refine LeO.ite ?_ ?_
      | refine LeO.bind ?_ (fun _ => ?_)
    · intro y0 y1
      unfold supercargoref31_Few.l1
      repeat' first
      | (with_reducible exact ih0 _ _ _ _ _ _ _ _ _ _ _ _ _ _ _ _ _ _ _ _)
      | (with_reducible exact ih1 _ _ _ _ _ _ _ _ _ _ _ _ _ _ _ _ _ _ _ _)
      | (with_reducible exact ih2 _ _)
      | (with_reducible exact ih3 _ _ _)
      | (with_reducible exact supercargoref31_Size.mono _ _ _ _ _ _ _ _)
      | (with_reducible exact LeO.refl _)
      | (with_reducible exact LeO.none _)
      | (with_reducible refine LeO.ite ?_ ?_)
      | (with_reducible refine LeO.bind ?_ (fun _ => ?_))
      | exact ih0 _ _ _ _ _ _ _ _ _ _ _ _ _ _ _ _ _ _ _ _
      | exact ih1 _ _ _ _ _ _ _ _ _ _ _ _ _ _ _ _ _ _ _ _
      | exact ih2 _ _
      | exact ih3 _ _ _
      | exact supercargoref31_Size.mono _ _ _ _ _ _ _ _
      | exact LeO.none _
      | refine LeO.ite ?_ ?_
      | refine LeO.bind ?_ (fun _ => ?_)
    · intro y0 y1 y2
      unfold supercargoref31_Few.l2
      repeat' first
      | (with_reducible exact ih0 _ _ _ _ _ _ _ _ _ _ _ _ _ _ _ _ _ _ _ _)
      | (with_reducible exact ih1 _ _ _ _ _ _ _ _ _ _ _ _ _ _ _ _ _ _ _ _)
      | (with_reducible exact ih2 _ _)
      | (with_reducible exact ih3 _ _ _)
      | (with_reducible exact supercargoref31_Size.mono _ _ _ _ _ _ _ _)
      | (with_reducible exact LeO.refl _)
      | (with_reducible exact LeO.none _)
      | (with_reducible refine LeO.ite ?_ ?_)
      | (with_reducible refine LeO.bind ?_ (fun _ => ?_))
      | exact ih0 _ _ _ _ _ _ _ _ _ _ _ _ _ _ _ _ _ _ _ _
      | exact ih1 _ _ _ _ _ _ _ _ _ _ _ _ _ _ _ _ _ _ _ _
      | exact ih2 _ _
      | exact ih3 _ _ _
      | exact supercargoref31_Size.mono _ _ _ _ _ _ _ _
      | exact LeO.none _
      | refine LeO.ite ?_ ?_
      | refine LeO.bind ?_ (fun _ => ?_)
theorem supercargoref31_Few.mono : ∀ a0 a1 a2 a3 a4 a5 a6 a7 a8 a9 a10 a11 a12 a13 a14 a15 a16 a17 a18 k, LeO (supercargoref31_Few.f k a0 a1 a2 a3 a4 a5 a6 a7 a8 a9 a10 a11 a12 a13 a14 a15 a16 a17 a18) (supercargoref31_Few.f (k + 1) a0 a1 a2 a3 a4 a5 a6 a7 a8 a9 a10 a11 a12 a13 a14 a15 a16 a17 a18) := by
  intro a0 a1 a2 a3 a4 a5 a6 a7 a8 a9 a10 a11 a12 a13 a14 a15 a16 a17 a18 k
  obtain ⟨ih0, ih1, ih2, ih3⟩ := supercargoref31_Few.mono_l k
  unfold supercargoref31_Few.f
  repeat' first
      | (with_reducible exact ih0 _ _ _ _ _ _ _ _ _ _ _ _ _ _ _ _ _ _ _ _)
      | (with_reducible exact ih1 _ _ _ _ _ _ _ _ _ _ _ _ _ _ _ _ _ _ _ _)
      | (with_reducible exact ih2 _ _)
      | (with_reducible exact ih3 _ _ _)
      | (with_reducible exact supercargoref31_Size.mono _ _ _ _ _ _ _ _)
      | (with_reducible exact LeO.refl _)
      | (with_reducible exact LeO.none _)
      | (with_reducible refine LeO.ite ?_ ?_)
      | (with_reducible refine LeO.bind ?_ (fun _ => ?_))
      | exact ih0 _ _ _ _ _ _ _ _ _ _ _ _ _ _ _ _ _ _ _ _
      | exact ih1 _ _ _ _ _ _ _ _ _ _ _ _ _ _ _ _ _ _ _ _
      | exact ih2 _ _
      | exact ih3 _ _ _
      | exact supercargoref31_Size.mono _ _ _ _ _ _ _ _
      | exact LeO.none _
      | refine LeO.ite ?_ ?_
      | refine LeO.bind ?_ (fun _ => ?_)
set_option maxHeartbeats 8000000 in
set_option maxRecDepth 100000 in
theorem supercargoref31_Few.calls (k : Nat) (a0_0 : ByteArray) (a0_1 : ByteArray) (a0_2 : ByteArray) (a0_3 : ByteArray) (a0_4 : ByteArray) (a0_5 : ByteArray) (a0_6 : ByteArray) (a0_7 : ByteArray) (a0_8 : Int) (a0_9 : Int) (a0_10 : Int) (a0_11 : Int) (a0_12 : Int) (a0_13 : Int) (a0_14 : Int) (a0_15 : Bool) (a0_16 : Bool) (A0_17 : Option Addr) (c0_17 : Nat) (l0_17 : List (S45)) (A1 : Option Addr) (c1 : Nat) (l1 : List (S37)) (r : Bool) (w : World) (hr0_17 : Kd.C k45 w A0_17 l0_17.length l0_17) (hc0_17 : l0_17.length ≤ c0_17) (hr1 : Kd.C k37 w A1 l1.length l1) (hc1 : l1.length ≤ c1) (h : supercargoref31_Few.f k a0_0 a0_1 a0_2 a0_3 a0_4 a0_5 a0_6 a0_7 a0_8 a0_9 a0_10 a0_11 a0_12 a0_13 a0_14 a0_15 a0_16 l0_17 l1 = some r) :
    Calls Tryd.prog 14 #[.agg #[.string a0_0, .string a0_1, .string a0_2, .string a0_3, .string a0_4, .string a0_5, .string a0_6, .string a0_7, .int .i64 a0_8, .int .i64 a0_9, .int .i64 a0_10, .int .i64 a0_11, .int .i64 a0_12, .int .i64 a0_13, .int .i64 a0_14, .bool a0_15, .bool a0_16, .slice A0_17 l0_17.length c0_17], .slice A1 l1.length c1] w fun e w' => e = .returned (.bool r) ∧ Below w.heap.size w w' := by
  have hu33 := Tryd.underlying33
  have hu43 := Tryd.underlying43
  have HR0_17 := Aside0.mk hr0_17
  have HC0_17 := Aside0.mk hc0_17
  clear hr0_17 hc0_17
  have HR1 := Aside0.mk hr1
  have HC1 := Aside0.mk hc1
  clear hr1 hc1
  have HB := Aside0.mk (Below.refl w.heap.size w)
  have H : (if (l0_17.length : Int) > 12 then (supercargoref31_Few.j0 k l1 true a0_0 a0_1 a0_2 a0_3 a0_4 a0_5 a0_6 a0_7 a0_8 a0_9 a0_10 a0_11 a0_12 a0_13 a0_14 a0_15 a0_16 l0_17) else (supercargoref31_Few.j0 k l1 (decide ((l1.length : Int) > 12)) a0_0 a0_1 a0_2 a0_3 a0_4 a0_5 a0_6 a0_7 a0_8 a0_9 a0_10 a0_11 a0_12 a0_13 a0_14 a0_15 a0_16 l0_17)) = some r := h
  clear h
  have HC3 := Aside0.mk H
  clear H
  go_enter Tryd.func14, Tryd.ntmps14
  go_upto_region 1 with (first | ((with_reducible refine gate_dst (N := 2) rfl ?_); (try (refine gate_guard (by rfl) ?_; dsimp only)); refine box_event ?hg (N := 2) ?hd (cs := #[.string a0_0, .string a0_1, .string a0_2, .string a0_3, .string a0_4, .string a0_5, .string a0_6, .string a0_7, .int .i64 a0_8, .int .i64 a0_9, .int .i64 a0_10, .int .i64 a0_11, .int .i64 a0_12, .int .i64 a0_13, .int .i64 a0_14, .bool a0_15, .bool a0_16, .slice A0_17 l0_17.length c0_17]) (t := 33) ?hr ?_; (case hd => rfl); (case hg => rfl); (case hr => first | (go_simp; done) | (go_simp; rfl)); intro gb155 hg w4 hbox hb; have n0_ := Aside0.mk (below_step (by repeat (first | (with_reducible first | exact HB.out | apply below_alloc | apply pw_below_drewN | apply below_drew1) | exact HB.out)) hb); have n1_ := Aside0.mk (hbox); have n2_ := Aside0.mk ((by rw [hg]; exact (below_size (by repeat (first | (with_reducible first | exact HB.out | apply below_alloc | apply pw_below_drewN | apply below_drew1) | exact HB.out))) : w.heap.size ≤ gb155)); have n3_ := Aside0.mk ((by rw [hg]; exact (below_size (by repeat (first | (with_reducible first | exact HB.out | apply below_alloc | apply pw_below_drewN | apply below_drew1) | exact HB.out))) : w.heap.size ≤ gb155)); clear HB; have HB := n0_; have BK155 := n1_; have GW155 := n2_; have GE155 := n3_; clear n0_ n1_ n2_ n3_; clear hb hbox hg))
  repeat (go_quiet (first | ((with_reducible refine gate_dst (N := 2) rfl ?_); (try (refine gate_guard (by rfl) ?_; dsimp only)); refine box_event ?hg (N := 2) ?hd (cs := #[.string a0_0, .string a0_1, .string a0_2, .string a0_3, .string a0_4, .string a0_5, .string a0_6, .string a0_7, .int .i64 a0_8, .int .i64 a0_9, .int .i64 a0_10, .int .i64 a0_11, .int .i64 a0_12, .int .i64 a0_13, .int .i64 a0_14, .bool a0_15, .bool a0_16, .slice A0_17 l0_17.length c0_17]) (t := 33) ?hr ?_; (case hd => rfl); (case hg => rfl); (case hr => first | (go_simp; done) | (go_simp; rfl)); intro gb155 hg w4 hbox hb; have n0_ := Aside0.mk (below_step (by repeat (first | (with_reducible first | exact HB.out | apply below_alloc | apply pw_below_drewN | apply below_drew1) | exact HB.out)) hb); have n1_ := Aside0.mk (hbox); have n2_ := Aside0.mk ((by rw [hg]; exact (below_size (by repeat (first | (with_reducible first | exact HB.out | apply below_alloc | apply pw_below_drewN | apply below_drew1) | exact HB.out))) : w.heap.size ≤ gb155)); have n3_ := Aside0.mk ((by rw [hg]; exact (below_size (by repeat (first | (with_reducible first | exact HB.out | apply below_alloc | apply pw_below_drewN | apply below_drew1) | exact HB.out))) : w.heap.size ≤ gb155)); clear HB; have HB := n0_; have BK155 := n1_; have GW155 := n2_; have GE155 := n3_; clear n0_ n1_ n2_ n3_; clear hb hbox hg)); go_upto_region 1 with (first | ((with_reducible refine gate_dst (N := 2) rfl ?_); (try (refine gate_guard (by rfl) ?_; dsimp only)); refine box_event ?hg (N := 2) ?hd (cs := #[.string a0_0, .string a0_1, .string a0_2, .string a0_3, .string a0_4, .string a0_5, .string a0_6, .string a0_7, .int .i64 a0_8, .int .i64 a0_9, .int .i64 a0_10, .int .i64 a0_11, .int .i64 a0_12, .int .i64 a0_13, .int .i64 a0_14, .bool a0_15, .bool a0_16, .slice A0_17 l0_17.length c0_17]) (t := 33) ?hr ?_; (case hd => rfl); (case hg => rfl); (case hr => first | (go_simp; done) | (go_simp; rfl)); intro gb155 hg w4 hbox hb; have n0_ := Aside0.mk (below_step (by repeat (first | (with_reducible first | exact HB.out | apply below_alloc | apply pw_below_drewN | apply below_drew1) | exact HB.out)) hb); have n1_ := Aside0.mk (hbox); have n2_ := Aside0.mk ((by rw [hg]; exact (below_size (by repeat (first | (with_reducible first | exact HB.out | apply below_alloc | apply pw_below_drewN | apply below_drew1) | exact HB.out))) : w.heap.size ≤ gb155)); have n3_ := Aside0.mk ((by rw [hg]; exact (below_size (by repeat (first | (with_reducible first | exact HB.out | apply below_alloc | apply pw_below_drewN | apply below_drew1) | exact HB.out))) : w.heap.size ≤ gb155)); clear HB; have HB := n0_; have BK155 := n1_; have GW155 := n2_; have GE155 := n3_; clear n0_ n1_ n2_ n3_; clear hb hbox hg)))
  (try simp only [Act.put, List.setIfInBounds_toArray, List.set_cons_zero, List.set_cons_succ])
  go_cut [16] (fun v16 wc => ∃ (kq : Nat) (x16_2 : Bool), v16 = .bool x16_2 ∧ Aside0 (supercargoref31_Few.j0 kq l1 x16_2 a0_0 a0_1 a0_2 a0_3 a0_4 a0_5 a0_6 a0_7 a0_8 a0_9 a0_10 a0_11 a0_12 a0_13 a0_14 a0_15 a0_16 l0_17 = some r) ∧ Aside0 (kq ≤ k) ∧ Aside0 (wc.heap[gb155]? = some (.cells #[.string a0_0, .string a0_1, .string a0_2, .string a0_3, .string a0_4, .string a0_5, .string a0_6, .string a0_7, .int .i64 a0_8, .int .i64 a0_9, .int .i64 a0_10, .int .i64 a0_11, .int .i64 a0_12, .int .i64 a0_13, .int .i64 a0_14, .bool a0_15, .bool a0_16, (.slice A0_17 l0_17.length c0_17)] 33 (0, 0))) ∧ Aside0 (Below w.heap.size w wc))
  case first =>
    have H := HC3.out
    clear HC3
    by_cases c5 : (l0_17.length : Int) > 12
    · rw [if_pos c5] at H
      have c5b0 : decide (12 < (l0_17.length : Int)) = true := decide_eq_true c5
      have c5b1 : decide (12 < l0_17.length) = true := decide_eq_true (by omega)
      clear c5
      (first | rw [c5b0] | (simp only [i64_w, i32_w]; rw [c5b0]) | skip)
      have H' := Aside0.mk H
      clear H
      have hcz6_0 : w4.cell? ⟨gb155, 0, none⟩ = some (.string a0_0) := (blk_cell BK155.out 0).trans rfl
      have hcz6_1 : w4.cell? ⟨gb155, 1, none⟩ = some (.string a0_1) := (blk_cell BK155.out 1).trans rfl
      have hcz6_2 : w4.cell? ⟨gb155, 2, none⟩ = some (.string a0_2) := (blk_cell BK155.out 2).trans rfl
      have hcz6_3 : w4.cell? ⟨gb155, 3, none⟩ = some (.string a0_3) := (blk_cell BK155.out 3).trans rfl
      have hcz6_4 : w4.cell? ⟨gb155, 4, none⟩ = some (.string a0_4) := (blk_cell BK155.out 4).trans rfl
      have hcz6_5 : w4.cell? ⟨gb155, 5, none⟩ = some (.string a0_5) := (blk_cell BK155.out 5).trans rfl
      have hcz6_6 : w4.cell? ⟨gb155, 6, none⟩ = some (.string a0_6) := (blk_cell BK155.out 6).trans rfl
      have hcz6_7 : w4.cell? ⟨gb155, 7, none⟩ = some (.string a0_7) := (blk_cell BK155.out 7).trans rfl
      have hcz6_8 : w4.cell? ⟨gb155, 8, none⟩ = some (.int .i64 a0_8) := (blk_cell BK155.out 8).trans rfl
      have hcz6_9 : w4.cell? ⟨gb155, 9, none⟩ = some (.int .i64 a0_9) := (blk_cell BK155.out 9).trans rfl
      have hcz6_10 : w4.cell? ⟨gb155, 10, none⟩ = some (.int .i64 a0_10) := (blk_cell BK155.out 10).trans rfl
      have hcz6_11 : w4.cell? ⟨gb155, 11, none⟩ = some (.int .i64 a0_11) := (blk_cell BK155.out 11).trans rfl
      have hcz6_12 : w4.cell? ⟨gb155, 12, none⟩ = some (.int .i64 a0_12) := (blk_cell BK155.out 12).trans rfl
      have hcz6_13 : w4.cell? ⟨gb155, 13, none⟩ = some (.int .i64 a0_13) := (blk_cell BK155.out 13).trans rfl
      have hcz6_14 : w4.cell? ⟨gb155, 14, none⟩ = some (.int .i64 a0_14) := (blk_cell BK155.out 14).trans rfl
      have hcz6_15 : w4.cell? ⟨gb155, 15, none⟩ = some (.bool a0_15) := (blk_cell BK155.out 15).trans rfl
      have hcz6_16 : w4.cell? ⟨gb155, 16, none⟩ = some (.bool a0_16) := (blk_cell BK155.out 16).trans rfl
      have hcz6_17 : w4.cell? ⟨gb155, 17, none⟩ = some (.slice A0_17 l0_17.length c0_17) := (blk_cell BK155.out 17).trans rfl
      have hfz6_0 := blk_frozen BK155.out 0
      have hfz6_1 := blk_frozen BK155.out 1
      have hfz6_2 := blk_frozen BK155.out 2
      have hfz6_3 := blk_frozen BK155.out 3
      have hfz6_4 := blk_frozen BK155.out 4
      have hfz6_5 := blk_frozen BK155.out 5
      have hfz6_6 := blk_frozen BK155.out 6
      have hfz6_7 := blk_frozen BK155.out 7
      have hfz6_8 := blk_frozen BK155.out 8
      have hfz6_9 := blk_frozen BK155.out 9
      have hfz6_10 := blk_frozen BK155.out 10
      have hfz6_11 := blk_frozen BK155.out 11
      have hfz6_12 := blk_frozen BK155.out 12
      have hfz6_13 := blk_frozen BK155.out 13
      have hfz6_14 := blk_frozen BK155.out 14
      have hfz6_15 := blk_frozen BK155.out 15
      have hfz6_16 := blk_frozen BK155.out 16
      have hfz6_17 := blk_frozen BK155.out 17
      go_wp2
      repeat (go_quiet (fail); try go_wp2)
      go_meet
      case rel => exact ⟨_, (true), (by first | rfl | (simp; done) | (simp [*]; done)), H', ⟨by first | omega | exact Nat.le_refl _⟩, ⟨by (with_reducible repeat (first | refine blk_drewN ?_ _ | refine blk_drew ?_ | refine blk_alloc ?_ _)); exact BK155.out⟩, ⟨by repeat (first | (with_reducible first | exact HB.out | apply below_alloc | apply pw_below_drewN | apply below_drew1 | refine below_set ?_ GE155.out) | exact HB.out)⟩⟩
    · rw [if_neg c5] at H
      have c5b0 : decide (12 < (l0_17.length : Int)) = false := decide_eq_false c5
      have c5b1 : decide (12 < l0_17.length) = false := decide_eq_false (by omega)
      clear c5
      (first | rw [c5b0] | (simp only [i64_w, i32_w]; rw [c5b0]) | skip)
      have H' := Aside0.mk H
      clear H
      have hcz7_0 : w4.cell? ⟨gb155, 0, none⟩ = some (.string a0_0) := (blk_cell BK155.out 0).trans rfl
      have hcz7_1 : w4.cell? ⟨gb155, 1, none⟩ = some (.string a0_1) := (blk_cell BK155.out 1).trans rfl
      have hcz7_2 : w4.cell? ⟨gb155, 2, none⟩ = some (.string a0_2) := (blk_cell BK155.out 2).trans rfl
      have hcz7_3 : w4.cell? ⟨gb155, 3, none⟩ = some (.string a0_3) := (blk_cell BK155.out 3).trans rfl
      have hcz7_4 : w4.cell? ⟨gb155, 4, none⟩ = some (.string a0_4) := (blk_cell BK155.out 4).trans rfl
      have hcz7_5 : w4.cell? ⟨gb155, 5, none⟩ = some (.string a0_5) := (blk_cell BK155.out 5).trans rfl
      have hcz7_6 : w4.cell? ⟨gb155, 6, none⟩ = some (.string a0_6) := (blk_cell BK155.out 6).trans rfl
      have hcz7_7 : w4.cell? ⟨gb155, 7, none⟩ = some (.string a0_7) := (blk_cell BK155.out 7).trans rfl
      have hcz7_8 : w4.cell? ⟨gb155, 8, none⟩ = some (.int .i64 a0_8) := (blk_cell BK155.out 8).trans rfl
      have hcz7_9 : w4.cell? ⟨gb155, 9, none⟩ = some (.int .i64 a0_9) := (blk_cell BK155.out 9).trans rfl
      have hcz7_10 : w4.cell? ⟨gb155, 10, none⟩ = some (.int .i64 a0_10) := (blk_cell BK155.out 10).trans rfl
      have hcz7_11 : w4.cell? ⟨gb155, 11, none⟩ = some (.int .i64 a0_11) := (blk_cell BK155.out 11).trans rfl
      have hcz7_12 : w4.cell? ⟨gb155, 12, none⟩ = some (.int .i64 a0_12) := (blk_cell BK155.out 12).trans rfl
      have hcz7_13 : w4.cell? ⟨gb155, 13, none⟩ = some (.int .i64 a0_13) := (blk_cell BK155.out 13).trans rfl
      have hcz7_14 : w4.cell? ⟨gb155, 14, none⟩ = some (.int .i64 a0_14) := (blk_cell BK155.out 14).trans rfl
      have hcz7_15 : w4.cell? ⟨gb155, 15, none⟩ = some (.bool a0_15) := (blk_cell BK155.out 15).trans rfl
      have hcz7_16 : w4.cell? ⟨gb155, 16, none⟩ = some (.bool a0_16) := (blk_cell BK155.out 16).trans rfl
      have hcz7_17 : w4.cell? ⟨gb155, 17, none⟩ = some (.slice A0_17 l0_17.length c0_17) := (blk_cell BK155.out 17).trans rfl
      have hfz7_0 := blk_frozen BK155.out 0
      have hfz7_1 := blk_frozen BK155.out 1
      have hfz7_2 := blk_frozen BK155.out 2
      have hfz7_3 := blk_frozen BK155.out 3
      have hfz7_4 := blk_frozen BK155.out 4
      have hfz7_5 := blk_frozen BK155.out 5
      have hfz7_6 := blk_frozen BK155.out 6
      have hfz7_7 := blk_frozen BK155.out 7
      have hfz7_8 := blk_frozen BK155.out 8
      have hfz7_9 := blk_frozen BK155.out 9
      have hfz7_10 := blk_frozen BK155.out 10
      have hfz7_11 := blk_frozen BK155.out 11
      have hfz7_12 := blk_frozen BK155.out 12
      have hfz7_13 := blk_frozen BK155.out 13
      have hfz7_14 := blk_frozen BK155.out 14
      have hfz7_15 := blk_frozen BK155.out 15
      have hfz7_16 := blk_frozen BK155.out 16
      have hfz7_17 := blk_frozen BK155.out 17
      go_wp2
      repeat (go_quiet (fail); try go_wp2)
      go_meet
      case rel => exact ⟨_, (decide ((l1.length : Int) > 12)), (by first | rfl | (simp; done) | (simp [*]; done)), H', ⟨by first | omega | exact Nat.le_refl _⟩, ⟨by (with_reducible repeat (first | refine blk_drewN ?_ _ | refine blk_drew ?_ | refine blk_alloc ?_ _)); exact BK155.out⟩, ⟨by repeat (first | (with_reducible first | exact HB.out | apply below_alloc | apply pw_below_drewN | apply below_drew1 | refine below_set ?_ GE155.out) | exact HB.out)⟩⟩
  case rest =>
    clear HC3
    try clear c1
    try clear p2
    try clear c5
    try clear c5b0
    try clear c5b1
    try clear hcz6_0
    try clear hcz6_1
    try clear hcz6_10
    try clear hcz6_11
    try clear hcz6_12
    try clear hcz6_13
    try clear hcz6_14
    try clear hcz6_15
    try clear hcz6_16
    try clear hcz6_17
    try clear hcz6_2
    try clear hcz6_3
    try clear hcz6_4
    try clear hcz6_5
    try clear hcz6_6
    try clear hcz6_7
    try clear hcz6_8
    try clear hcz6_9
    try clear hcz7_0
    try clear hcz7_1
    try clear hcz7_10
    try clear hcz7_11
    try clear hcz7_12
    try clear hcz7_13
    try clear hcz7_14
    try clear hcz7_15
    try clear hcz7_16
    try clear hcz7_17
    try clear hcz7_2
    try clear hcz7_3
    try clear hcz7_4
    try clear hcz7_5
    try clear hcz7_6
    try clear hcz7_7
    try clear hcz7_8
    try clear hcz7_9
    try clear hfz6_0
    try clear hfz6_1
    try clear hfz6_10
    try clear hfz6_11
    try clear hfz6_12
    try clear hfz6_13
    try clear hfz6_14
    try clear hfz6_15
    try clear hfz6_16
    try clear hfz6_17
    try clear hfz6_2
    try clear hfz6_3
    try clear hfz6_4
    try clear hfz6_5
    try clear hfz6_6
    try clear hfz6_7
    try clear hfz6_8
    try clear hfz6_9
    try clear hfz7_0
    try clear hfz7_1
    try clear hfz7_10
    try clear hfz7_11
    try clear hfz7_12
    try clear hfz7_13
    try clear hfz7_14
    try clear hfz7_15
    try clear hfz7_16
    try clear hfz7_17
    try clear hfz7_2
    try clear hfz7_3
    try clear hfz7_4
    try clear hfz7_5
    try clear hfz7_6
    try clear hfz7_7
    try clear hfz7_8
    try clear hfz7_9
    obtain ⟨kq, x16_2, rfl, HA, HJ2, BK155, HB⟩ := hcut
    cases kq with
    | zero => exact absurd HA.out (by simp [supercargoref31_Few.j0])
    | succ kj2 =>
      have H := HA.out
      clear HA
      simp only [supercargoref31_Few.j0] at H
      by_cases c8 : x16_2 = true
      · subst c8
        have H1 : (some false) = some r := by rw [if_pos rfl] at H; exact H
        clear H
        have H := H1
        clear H1
        obtain rfl := Option.some.inj H
        go_wp2
        repeat (go_quiet (fail); try go_wp2)
        go_ret
        exact ⟨by first | rfl | (simp [errW_none, errW_some] <;> rfl) | (simp [*, errW_none, errW_some] <;> rfl), by repeat (first | (with_reducible first | exact HB.out | apply below_alloc | apply pw_below_drewN | apply below_drew1 | refine below_set ?_ GE155.out) | exact HB.out)⟩
      · replace c8 := Bool.eq_false_iff.mpr c8
        subst c8
        have H1 : (supercargoref31_Few.l0 kj2 l1 0 a0_0 a0_1 a0_2 a0_3 a0_4 a0_5 a0_6 a0_7 a0_8 a0_9 a0_10 a0_11 a0_12 a0_13 a0_14 a0_15 a0_16 l0_17) = some r := by rw [if_neg (show ¬ (false = true) by decide)] at H; exact H
        clear H
        have H := H1
        clear H1
        have H' := Aside0.mk H
        clear H
        go_wp2
        repeat (go_quiet (fail); try go_wp2)
        go_loopg [5] kj2 (fun kq v5 w' => ∃ (x5_2 : Int), v5 = .int .i64 x5_2 ∧ Aside0 (supercargoref31_Few.l0 kq l1 x5_2 a0_0 a0_1 a0_2 a0_3 a0_4 a0_5 a0_6 a0_7 a0_8 a0_9 a0_10 a0_11 a0_12 a0_13 a0_14 a0_15 a0_16 l0_17 = some r) ∧ Aside0 (kq ≤ kj2) ∧ Aside0 (w'.heap[gb155]? = some (.cells #[.string a0_0, .string a0_1, .string a0_2, .string a0_3, .string a0_4, .string a0_5, .string a0_6, .string a0_7, .int .i64 a0_8, .int .i64 a0_9, .int .i64 a0_10, .int .i64 a0_11, .int .i64 a0_12, .int .i64 a0_13, .int .i64 a0_14, .bool a0_15, .bool a0_16, (.slice A0_17 l0_17.length c0_17)] 33 (0, 0))) ∧ Aside0 (Below w.heap.size w w'))
        case atStart => exact ⟨(0), (by first | rfl | (simp; done) | (simp [*]; done)), H', ⟨Nat.le_refl _⟩, ⟨by (with_reducible repeat (first | refine blk_drewN ?_ _ | refine blk_drew ?_ | refine blk_alloc ?_ _)); exact BK155.out⟩, ⟨by repeat (first | (with_reducible first | exact HB.out | apply below_alloc | apply pw_below_drewN | apply below_drew1 | refine below_set ?_ GE155.out) | exact HB.out)⟩⟩
        case round =>
          clear H'
          try clear c1
          try clear p2
          try clear c5
          try clear c5b0
          try clear c5b1
          try clear c8
          try clear hcz6_0
          try clear hcz6_1
          try clear hcz6_10
          try clear hcz6_11
          try clear hcz6_12
          try clear hcz6_13
          try clear hcz6_14
          try clear hcz6_15
          try clear hcz6_16
          try clear hcz6_17
          try clear hcz6_2
          try clear hcz6_3
          try clear hcz6_4
          try clear hcz6_5
          try clear hcz6_6
          try clear hcz6_7
          try clear hcz6_8
          try clear hcz6_9
          try clear hcz7_0
          try clear hcz7_1
          try clear hcz7_10
          try clear hcz7_11
          try clear hcz7_12
          try clear hcz7_13
          try clear hcz7_14
          try clear hcz7_15
          try clear hcz7_16
          try clear hcz7_17
          try clear hcz7_2
          try clear hcz7_3
          try clear hcz7_4
          try clear hcz7_5
          try clear hcz7_6
          try clear hcz7_7
          try clear hcz7_8
          try clear hcz7_9
          try clear hfz6_0
          try clear hfz6_1
          try clear hfz6_10
          try clear hfz6_11
          try clear hfz6_12
          try clear hfz6_13
          try clear hfz6_14
          try clear hfz6_15
          try clear hfz6_16
          try clear hfz6_17
          try clear hfz6_2
          try clear hfz6_3
          try clear hfz6_4
          try clear hfz6_5
          try clear hfz6_6
          try clear hfz6_7
          try clear hfz6_8
          try clear hfz6_9
          try clear hfz7_0
          try clear hfz7_1
          try clear hfz7_10
          try clear hfz7_11
          try clear hfz7_12
          try clear hfz7_13
          try clear hfz7_14
          try clear hfz7_15
          try clear hfz7_16
          try clear hfz7_17
          try clear hfz7_2
          try clear hfz7_3
          try clear hfz7_4
          try clear hfz7_5
          try clear hfz7_6
          try clear hfz7_7
          try clear hfz7_8
          try clear hfz7_9
          try clear p2
          obtain ⟨x5_2, rfl, HA, HK2, BK155, HB⟩ := hrel
          cases gk with
          | zero => exact absurd HA.out (by simp [supercargoref31_Few.l0])
          | succ k2 =>
            have H := HA.out
            clear HA
            simp only [supercargoref31_Few.l0] at H
            by_cases c9 : x5_2 < (l0_17.length : Int)
            · rw [if_pos c9] at H
              have c9b0 : decide (x5_2 < (l0_17.length : Int)) = true := decide_eq_true c9
              clear c9
              by_cases c10 : 0 ≤ x5_2
              · rw [if_pos c10] at H
                have c10b0 : decide (0 ≤ x5_2) = true := decide_eq_true c10
                clear c10
                replace H := Option.bind_eq_some_iff.mp H
                obtain ⟨t157, A110, H⟩ := H
                replace H : (if t157 > 60 then (some false) else (supercargoref31_Few.l0 k2 l1 (wrap64 (x5_2 + 1)) a0_0 a0_1 a0_2 a0_3 a0_4 a0_5 a0_6 a0_7 a0_8 a0_9 a0_10 a0_11 a0_12 a0_13 a0_14 a0_15 a0_16 l0_17)) = some r := H
                have A11 := Aside0.mk A110
                clear A110
                by_cases c12 : t157 > 60
                · rw [if_pos c12] at H
                  have c12b0 : decide (60 < t157) = true := decide_eq_true c12
                  clear c12
                  obtain rfl := Option.some.inj H
                  have hcz13_0 : wr.cell? ⟨gb155, 0, none⟩ = some (.string a0_0) := (blk_cell BK155.out 0).trans rfl
                  have hcz13_1 : wr.cell? ⟨gb155, 1, none⟩ = some (.string a0_1) := (blk_cell BK155.out 1).trans rfl
                  have hcz13_2 : wr.cell? ⟨gb155, 2, none⟩ = some (.string a0_2) := (blk_cell BK155.out 2).trans rfl
                  have hcz13_3 : wr.cell? ⟨gb155, 3, none⟩ = some (.string a0_3) := (blk_cell BK155.out 3).trans rfl
                  have hcz13_4 : wr.cell? ⟨gb155, 4, none⟩ = some (.string a0_4) := (blk_cell BK155.out 4).trans rfl
                  have hcz13_5 : wr.cell? ⟨gb155, 5, none⟩ = some (.string a0_5) := (blk_cell BK155.out 5).trans rfl
                  have hcz13_6 : wr.cell? ⟨gb155, 6, none⟩ = some (.string a0_6) := (blk_cell BK155.out 6).trans rfl
                  have hcz13_7 : wr.cell? ⟨gb155, 7, none⟩ = some (.string a0_7) := (blk_cell BK155.out 7).trans rfl
                  have hcz13_8 : wr.cell? ⟨gb155, 8, none⟩ = some (.int .i64 a0_8) := (blk_cell BK155.out 8).trans rfl
                  have hcz13_9 : wr.cell? ⟨gb155, 9, none⟩ = some (.int .i64 a0_9) := (blk_cell BK155.out 9).trans rfl
                  have hcz13_10 : wr.cell? ⟨gb155, 10, none⟩ = some (.int .i64 a0_10) := (blk_cell BK155.out 10).trans rfl
                  have hcz13_11 : wr.cell? ⟨gb155, 11, none⟩ = some (.int .i64 a0_11) := (blk_cell BK155.out 11).trans rfl
                  have hcz13_12 : wr.cell? ⟨gb155, 12, none⟩ = some (.int .i64 a0_12) := (blk_cell BK155.out 12).trans rfl
                  have hcz13_13 : wr.cell? ⟨gb155, 13, none⟩ = some (.int .i64 a0_13) := (blk_cell BK155.out 13).trans rfl
                  have hcz13_14 : wr.cell? ⟨gb155, 14, none⟩ = some (.int .i64 a0_14) := (blk_cell BK155.out 14).trans rfl
                  have hcz13_15 : wr.cell? ⟨gb155, 15, none⟩ = some (.bool a0_15) := (blk_cell BK155.out 15).trans rfl
                  have hcz13_16 : wr.cell? ⟨gb155, 16, none⟩ = some (.bool a0_16) := (blk_cell BK155.out 16).trans rfl
                  have hcz13_17 : wr.cell? ⟨gb155, 17, none⟩ = some (.slice A0_17 l0_17.length c0_17) := (blk_cell BK155.out 17).trans rfl
                  have hfz13_0 := blk_frozen BK155.out 0
                  have hfz13_1 := blk_frozen BK155.out 1
                  have hfz13_2 := blk_frozen BK155.out 2
                  have hfz13_3 := blk_frozen BK155.out 3
                  have hfz13_4 := blk_frozen BK155.out 4
                  have hfz13_5 := blk_frozen BK155.out 5
                  have hfz13_6 := blk_frozen BK155.out 6
                  have hfz13_7 := blk_frozen BK155.out 7
                  have hfz13_8 := blk_frozen BK155.out 8
                  have hfz13_9 := blk_frozen BK155.out 9
                  have hfz13_10 := blk_frozen BK155.out 10
                  have hfz13_11 := blk_frozen BK155.out 11
                  have hfz13_12 := blk_frozen BK155.out 12
                  have hfz13_13 := blk_frozen BK155.out 13
                  have hfz13_14 := blk_frozen BK155.out 14
                  have hfz13_15 := blk_frozen BK155.out 15
                  have hfz13_16 := blk_frozen BK155.out 16
                  have hfz13_17 := blk_frozen BK155.out 17
                  have p156 : 0 ≤ (x5_2 : Int) := of_decide_eq_true (by first | (with_reducible assumption) | assumption)
                  have q156 : x5_2 < (l0_17.length : Int) := of_decide_eq_true (by first | (with_reducible assumption) | assumption)
                  obtain ⟨ad156, A156_7, c156_7, e156, hx156_0, hx156_1, hx156_2, hx156_3, hx156_4, hx156_5, hx156_6, hx156_7, hl156_7, hi156_7⟩ := at_T45 HR0_17.out x5_2 p156 q156
                  cases e156
                  replace hx156_0 := (HB.out.cell (World.block_lt_of_cell? w _ hx156_0)).trans hx156_0
                  replace hx156_1 := (HB.out.cell (World.block_lt_of_cell? w _ hx156_1)).trans hx156_1
                  replace hx156_2 := (HB.out.cell (World.block_lt_of_cell? w _ hx156_2)).trans hx156_2
                  replace hx156_3 := (HB.out.cell (World.block_lt_of_cell? w _ hx156_3)).trans hx156_3
                  replace hx156_4 := (HB.out.cell (World.block_lt_of_cell? w _ hx156_4)).trans hx156_4
                  replace hx156_5 := (HB.out.cell (World.block_lt_of_cell? w _ hx156_5)).trans hx156_5
                  replace hx156_6 := (HB.out.cell (World.block_lt_of_cell? w _ hx156_6)).trans hx156_6
                  replace hx156_7 := (HB.out.cell (World.block_lt_of_cell? w _ hx156_7)).trans hx156_7
                  have HR156_7 := Aside0.mk hi156_7
                  have HC156_7 := Aside0.mk hl156_7
                  clear hi156_7 hl156_7
                  replace p156 := eq_true p156
                  replace q156 := eq_true q156
                  go_wp2_with (first | (go_at_call 21; (with_reducible refine (supercargoref31_Size.calls k2 ((rd_T45 l0_17 x5_2).f2.f0) ((rd_T45 l0_17 x5_2).f2.f1) ((rd_T45 l0_17 x5_2).f2.f2) ((rd_T45 l0_17 x5_2).f2.f3) ((rd_T45 l0_17 x5_2).f2.f4) _ _ ((rd_T45 l0_17 x5_2).f2.f5) 200 t157 _ ?side1 ?side2 A11.out).mono ?_); (case side1 => repeat (first | exact (Kd.C_below HR156_7.out HB.out) | (with_reducible refine Kd.C_alloc ?_ _) | (with_reducible refine Kd.C_drewN ?_ _) | (with_reducible refine Kd.C_drew ?_))); (case side2 => exact HC156_7.out); rintro e w14 ⟨rfl, hb⟩; have n0_ := Aside0.mk (blk_below (g := gb155) (o := .cells #[.string a0_0, .string a0_1, .string a0_2, .string a0_3, .string a0_4, .string a0_5, .string a0_6, .string a0_7, .int .i64 a0_8, .int .i64 a0_9, .int .i64 a0_10, .int .i64 a0_11, .int .i64 a0_12, .int .i64 a0_13, .int .i64 a0_14, .bool a0_15, .bool a0_16, .slice (some ad156) l0_17.length c0_17] 33 (0, 0)) (by (with_reducible repeat (first | refine blk_drewN ?_ _ | refine blk_drew ?_ | refine blk_alloc ?_ _)); exact BK155.out) hb); have n1_ := Aside0.mk (below_step (by repeat (first | (with_reducible first | exact HB.out | apply below_alloc | apply pw_below_drewN | apply below_drew1 | refine below_set ?_ GE155.out) | exact HB.out)) hb); clear BK155; clear HB; have BK155 := n0_; have HB := n1_; clear n0_ n1_; (try clear hb); (try clear hb2); (try clear hk); (try clear hi)))
                  repeat (go_quiet (first | (go_at_call 21; (with_reducible refine (supercargoref31_Size.calls k2 ((rd_T45 l0_17 x5_2).f2.f0) ((rd_T45 l0_17 x5_2).f2.f1) ((rd_T45 l0_17 x5_2).f2.f2) ((rd_T45 l0_17 x5_2).f2.f3) ((rd_T45 l0_17 x5_2).f2.f4) _ _ ((rd_T45 l0_17 x5_2).f2.f5) 200 t157 _ ?side1 ?side2 A11.out).mono ?_); (case side1 => repeat (first | exact (Kd.C_below HR156_7.out HB.out) | (with_reducible refine Kd.C_alloc ?_ _) | (with_reducible refine Kd.C_drewN ?_ _) | (with_reducible refine Kd.C_drew ?_))); (case side2 => exact HC156_7.out); rintro e w14 ⟨rfl, hb⟩; have n0_ := Aside0.mk (blk_below (g := gb155) (o := .cells #[.string a0_0, .string a0_1, .string a0_2, .string a0_3, .string a0_4, .string a0_5, .string a0_6, .string a0_7, .int .i64 a0_8, .int .i64 a0_9, .int .i64 a0_10, .int .i64 a0_11, .int .i64 a0_12, .int .i64 a0_13, .int .i64 a0_14, .bool a0_15, .bool a0_16, .slice (some ad156) l0_17.length c0_17] 33 (0, 0)) (by (with_reducible repeat (first | refine blk_drewN ?_ _ | refine blk_drew ?_ | refine blk_alloc ?_ _)); exact BK155.out) hb); have n1_ := Aside0.mk (below_step (by repeat (first | (with_reducible first | exact HB.out | apply below_alloc | apply pw_below_drewN | apply below_drew1 | refine below_set ?_ GE155.out) | exact HB.out)) hb); clear BK155; clear HB; have BK155 := n0_; have HB := n1_; clear n0_ n1_; (try clear hb); (try clear hb2); (try clear hk); (try clear hi))); try go_wp2_with (first | (go_at_call 21; (with_reducible refine (supercargoref31_Size.calls k2 ((rd_T45 l0_17 x5_2).f2.f0) ((rd_T45 l0_17 x5_2).f2.f1) ((rd_T45 l0_17 x5_2).f2.f2) ((rd_T45 l0_17 x5_2).f2.f3) ((rd_T45 l0_17 x5_2).f2.f4) _ _ ((rd_T45 l0_17 x5_2).f2.f5) 200 t157 _ ?side1 ?side2 A11.out).mono ?_); (case side1 => repeat (first | exact (Kd.C_below HR156_7.out HB.out) | (with_reducible refine Kd.C_alloc ?_ _) | (with_reducible refine Kd.C_drewN ?_ _) | (with_reducible refine Kd.C_drew ?_))); (case side2 => exact HC156_7.out); rintro e w14 ⟨rfl, hb⟩; have n0_ := Aside0.mk (blk_below (g := gb155) (o := .cells #[.string a0_0, .string a0_1, .string a0_2, .string a0_3, .string a0_4, .string a0_5, .string a0_6, .string a0_7, .int .i64 a0_8, .int .i64 a0_9, .int .i64 a0_10, .int .i64 a0_11, .int .i64 a0_12, .int .i64 a0_13, .int .i64 a0_14, .bool a0_15, .bool a0_16, .slice (some ad156) l0_17.length c0_17] 33 (0, 0)) (by (with_reducible repeat (first | refine blk_drewN ?_ _ | refine blk_drew ?_ | refine blk_alloc ?_ _)); exact BK155.out) hb); have n1_ := Aside0.mk (below_step (by repeat (first | (with_reducible first | exact HB.out | apply below_alloc | apply pw_below_drewN | apply below_drew1 | refine below_set ?_ GE155.out) | exact HB.out)) hb); clear BK155; clear HB; have BK155 := n0_; have HB := n1_; clear n0_ n1_; (try clear hb); (try clear hb2); (try clear hk); (try clear hi))))
                  go_ret
                  exact ⟨by first | rfl | (simp [errW_none, errW_some] <;> rfl) | (simp [*, errW_none, errW_some] <;> rfl), by repeat (first | (with_reducible first | exact HB.out | apply below_alloc | apply pw_below_drewN | apply below_drew1 | refine below_set ?_ GE155.out) | exact HB.out)⟩
                · rw [if_neg c12] at H
                  have c12b0 : decide (60 < t157) = false := decide_eq_false c12
                  clear c12
                  have H' := Aside0.mk H
                  clear H
                  have hcz15_0 : wr.cell? ⟨gb155, 0, none⟩ = some (.string a0_0) := (blk_cell BK155.out 0).trans rfl
                  have hcz15_1 : wr.cell? ⟨gb155, 1, none⟩ = some (.string a0_1) := (blk_cell BK155.out 1).trans rfl
                  have hcz15_2 : wr.cell? ⟨gb155, 2, none⟩ = some (.string a0_2) := (blk_cell BK155.out 2).trans rfl
                  have hcz15_3 : wr.cell? ⟨gb155, 3, none⟩ = some (.string a0_3) := (blk_cell BK155.out 3).trans rfl
                  have hcz15_4 : wr.cell? ⟨gb155, 4, none⟩ = some (.string a0_4) := (blk_cell BK155.out 4).trans rfl
                  have hcz15_5 : wr.cell? ⟨gb155, 5, none⟩ = some (.string a0_5) := (blk_cell BK155.out 5).trans rfl
                  have hcz15_6 : wr.cell? ⟨gb155, 6, none⟩ = some (.string a0_6) := (blk_cell BK155.out 6).trans rfl
                  have hcz15_7 : wr.cell? ⟨gb155, 7, none⟩ = some (.string a0_7) := (blk_cell BK155.out 7).trans rfl
                  have hcz15_8 : wr.cell? ⟨gb155, 8, none⟩ = some (.int .i64 a0_8) := (blk_cell BK155.out 8).trans rfl
                  have hcz15_9 : wr.cell? ⟨gb155, 9, none⟩ = some (.int .i64 a0_9) := (blk_cell BK155.out 9).trans rfl
                  have hcz15_10 : wr.cell? ⟨gb155, 10, none⟩ = some (.int .i64 a0_10) := (blk_cell BK155.out 10).trans rfl
                  have hcz15_11 : wr.cell? ⟨gb155, 11, none⟩ = some (.int .i64 a0_11) := (blk_cell BK155.out 11).trans rfl
                  have hcz15_12 : wr.cell? ⟨gb155, 12, none⟩ = some (.int .i64 a0_12) := (blk_cell BK155.out 12).trans rfl
                  have hcz15_13 : wr.cell? ⟨gb155, 13, none⟩ = some (.int .i64 a0_13) := (blk_cell BK155.out 13).trans rfl
                  have hcz15_14 : wr.cell? ⟨gb155, 14, none⟩ = some (.int .i64 a0_14) := (blk_cell BK155.out 14).trans rfl
                  have hcz15_15 : wr.cell? ⟨gb155, 15, none⟩ = some (.bool a0_15) := (blk_cell BK155.out 15).trans rfl
                  have hcz15_16 : wr.cell? ⟨gb155, 16, none⟩ = some (.bool a0_16) := (blk_cell BK155.out 16).trans rfl
                  have hcz15_17 : wr.cell? ⟨gb155, 17, none⟩ = some (.slice A0_17 l0_17.length c0_17) := (blk_cell BK155.out 17).trans rfl
                  have hfz15_0 := blk_frozen BK155.out 0
                  have hfz15_1 := blk_frozen BK155.out 1
                  have hfz15_2 := blk_frozen BK155.out 2
                  have hfz15_3 := blk_frozen BK155.out 3
                  have hfz15_4 := blk_frozen BK155.out 4
                  have hfz15_5 := blk_frozen BK155.out 5
                  have hfz15_6 := blk_frozen BK155.out 6
                  have hfz15_7 := blk_frozen BK155.out 7
                  have hfz15_8 := blk_frozen BK155.out 8
                  have hfz15_9 := blk_frozen BK155.out 9
                  have hfz15_10 := blk_frozen BK155.out 10
                  have hfz15_11 := blk_frozen BK155.out 11
                  have hfz15_12 := blk_frozen BK155.out 12
                  have hfz15_13 := blk_frozen BK155.out 13
                  have hfz15_14 := blk_frozen BK155.out 14
                  have hfz15_15 := blk_frozen BK155.out 15
                  have hfz15_16 := blk_frozen BK155.out 16
                  have hfz15_17 := blk_frozen BK155.out 17
                  have p156 : 0 ≤ (x5_2 : Int) := of_decide_eq_true (by first | (with_reducible assumption) | assumption)
                  have q156 : x5_2 < (l0_17.length : Int) := of_decide_eq_true (by first | (with_reducible assumption) | assumption)
                  obtain ⟨ad156, A156_7, c156_7, e156, hx156_0, hx156_1, hx156_2, hx156_3, hx156_4, hx156_5, hx156_6, hx156_7, hl156_7, hi156_7⟩ := at_T45 HR0_17.out x5_2 p156 q156
                  cases e156
                  replace hx156_0 := (HB.out.cell (World.block_lt_of_cell? w _ hx156_0)).trans hx156_0
                  replace hx156_1 := (HB.out.cell (World.block_lt_of_cell? w _ hx156_1)).trans hx156_1
                  replace hx156_2 := (HB.out.cell (World.block_lt_of_cell? w _ hx156_2)).trans hx156_2
                  replace hx156_3 := (HB.out.cell (World.block_lt_of_cell? w _ hx156_3)).trans hx156_3
                  replace hx156_4 := (HB.out.cell (World.block_lt_of_cell? w _ hx156_4)).trans hx156_4
                  replace hx156_5 := (HB.out.cell (World.block_lt_of_cell? w _ hx156_5)).trans hx156_5
                  replace hx156_6 := (HB.out.cell (World.block_lt_of_cell? w _ hx156_6)).trans hx156_6
                  replace hx156_7 := (HB.out.cell (World.block_lt_of_cell? w _ hx156_7)).trans hx156_7
                  have HR156_7 := Aside0.mk hi156_7
                  have HC156_7 := Aside0.mk hl156_7
                  clear hi156_7 hl156_7
                  replace p156 := eq_true p156
                  replace q156 := eq_true q156
                  go_wp2_with (first | (go_at_call 21; (with_reducible refine (supercargoref31_Size.calls k2 ((rd_T45 l0_17 x5_2).f2.f0) ((rd_T45 l0_17 x5_2).f2.f1) ((rd_T45 l0_17 x5_2).f2.f2) ((rd_T45 l0_17 x5_2).f2.f3) ((rd_T45 l0_17 x5_2).f2.f4) _ _ ((rd_T45 l0_17 x5_2).f2.f5) 200 t157 _ ?side1 ?side2 A11.out).mono ?_); (case side1 => repeat (first | exact (Kd.C_below HR156_7.out HB.out) | (with_reducible refine Kd.C_alloc ?_ _) | (with_reducible refine Kd.C_drewN ?_ _) | (with_reducible refine Kd.C_drew ?_))); (case side2 => exact HC156_7.out); rintro e w16 ⟨rfl, hb⟩; have n0_ := Aside0.mk (blk_below (g := gb155) (o := .cells #[.string a0_0, .string a0_1, .string a0_2, .string a0_3, .string a0_4, .string a0_5, .string a0_6, .string a0_7, .int .i64 a0_8, .int .i64 a0_9, .int .i64 a0_10, .int .i64 a0_11, .int .i64 a0_12, .int .i64 a0_13, .int .i64 a0_14, .bool a0_15, .bool a0_16, .slice (some ad156) l0_17.length c0_17] 33 (0, 0)) (by (with_reducible repeat (first | refine blk_drewN ?_ _ | refine blk_drew ?_ | refine blk_alloc ?_ _)); exact BK155.out) hb); have n1_ := Aside0.mk (below_step (by repeat (first | (with_reducible first | exact HB.out | apply below_alloc | apply pw_below_drewN | apply below_drew1 | refine below_set ?_ GE155.out) | exact HB.out)) hb); clear BK155; clear HB; have BK155 := n0_; have HB := n1_; clear n0_ n1_; (try clear hb); (try clear hb2); (try clear hk); (try clear hi)))
                  repeat (go_quiet (first | (go_at_call 21; (with_reducible refine (supercargoref31_Size.calls k2 ((rd_T45 l0_17 x5_2).f2.f0) ((rd_T45 l0_17 x5_2).f2.f1) ((rd_T45 l0_17 x5_2).f2.f2) ((rd_T45 l0_17 x5_2).f2.f3) ((rd_T45 l0_17 x5_2).f2.f4) _ _ ((rd_T45 l0_17 x5_2).f2.f5) 200 t157 _ ?side1 ?side2 A11.out).mono ?_); (case side1 => repeat (first | exact (Kd.C_below HR156_7.out HB.out) | (with_reducible refine Kd.C_alloc ?_ _) | (with_reducible refine Kd.C_drewN ?_ _) | (with_reducible refine Kd.C_drew ?_))); (case side2 => exact HC156_7.out); rintro e w16 ⟨rfl, hb⟩; have n0_ := Aside0.mk (blk_below (g := gb155) (o := .cells #[.string a0_0, .string a0_1, .string a0_2, .string a0_3, .string a0_4, .string a0_5, .string a0_6, .string a0_7, .int .i64 a0_8, .int .i64 a0_9, .int .i64 a0_10, .int .i64 a0_11, .int .i64 a0_12, .int .i64 a0_13, .int .i64 a0_14, .bool a0_15, .bool a0_16, .slice (some ad156) l0_17.length c0_17] 33 (0, 0)) (by (with_reducible repeat (first | refine blk_drewN ?_ _ | refine blk_drew ?_ | refine blk_alloc ?_ _)); exact BK155.out) hb); have n1_ := Aside0.mk (below_step (by repeat (first | (with_reducible first | exact HB.out | apply below_alloc | apply pw_below_drewN | apply below_drew1 | refine below_set ?_ GE155.out) | exact HB.out)) hb); clear BK155; clear HB; have BK155 := n0_; have HB := n1_; clear n0_ n1_; (try clear hb); (try clear hb2); (try clear hk); (try clear hi))); try go_wp2_with (first | (go_at_call 21; (with_reducible refine (supercargoref31_Size.calls k2 ((rd_T45 l0_17 x5_2).f2.f0) ((rd_T45 l0_17 x5_2).f2.f1) ((rd_T45 l0_17 x5_2).f2.f2) ((rd_T45 l0_17 x5_2).f2.f3) ((rd_T45 l0_17 x5_2).f2.f4) _ _ ((rd_T45 l0_17 x5_2).f2.f5) 200 t157 _ ?side1 ?side2 A11.out).mono ?_); (case side1 => repeat (first | exact (Kd.C_below HR156_7.out HB.out) | (with_reducible refine Kd.C_alloc ?_ _) | (with_reducible refine Kd.C_drewN ?_ _) | (with_reducible refine Kd.C_drew ?_))); (case side2 => exact HC156_7.out); rintro e w16 ⟨rfl, hb⟩; have n0_ := Aside0.mk (blk_below (g := gb155) (o := .cells #[.string a0_0, .string a0_1, .string a0_2, .string a0_3, .string a0_4, .string a0_5, .string a0_6, .string a0_7, .int .i64 a0_8, .int .i64 a0_9, .int .i64 a0_10, .int .i64 a0_11, .int .i64 a0_12, .int .i64 a0_13, .int .i64 a0_14, .bool a0_15, .bool a0_16, .slice (some ad156) l0_17.length c0_17] 33 (0, 0)) (by (with_reducible repeat (first | refine blk_drewN ?_ _ | refine blk_drew ?_ | refine blk_alloc ?_ _)); exact BK155.out) hb); have n1_ := Aside0.mk (below_step (by repeat (first | (with_reducible first | exact HB.out | apply below_alloc | apply pw_below_drewN | apply below_drew1 | refine below_set ?_ GE155.out) | exact HB.out)) hb); clear BK155; clear HB; have BK155 := n0_; have HB := n1_; clear n0_ n1_; (try clear hb); (try clear hb2); (try clear hk); (try clear hi))))
                  go_roundg k2
                  case measure => have := HJ2.out; have := HK2.out; omega
                  case rel => exact ⟨(wrap64 (x5_2 + 1)), (by first | rfl | (simp; done) | (simp [*]; done)), H', ⟨by have := HJ2.out; have := HK2.out; omega⟩, ⟨by (with_reducible repeat (first | refine blk_drewN ?_ _ | refine blk_drew ?_ | refine blk_alloc ?_ _)); exact BK155.out⟩, ⟨by repeat (first | (with_reducible first | exact HB.out | apply below_alloc | apply pw_below_drewN | apply below_drew1 | refine below_set ?_ GE155.out) | exact HB.out)⟩⟩
              · rw [if_neg c10] at H
                exact absurd H (by simp)
            · rw [if_neg c9] at H
              have c9b0 : decide (x5_2 < (l0_17.length : Int)) = false := decide_eq_false c9
              clear c9
              have H' := Aside0.mk H
              clear H
              have hcz17_0 : wr.cell? ⟨gb155, 0, none⟩ = some (.string a0_0) := (blk_cell BK155.out 0).trans rfl
              have hcz17_1 : wr.cell? ⟨gb155, 1, none⟩ = some (.string a0_1) := (blk_cell BK155.out 1).trans rfl
              have hcz17_2 : wr.cell? ⟨gb155, 2, none⟩ = some (.string a0_2) := (blk_cell BK155.out 2).trans rfl
              have hcz17_3 : wr.cell? ⟨gb155, 3, none⟩ = some (.string a0_3) := (blk_cell BK155.out 3).trans rfl
              have hcz17_4 : wr.cell? ⟨gb155, 4, none⟩ = some (.string a0_4) := (blk_cell BK155.out 4).trans rfl
              have hcz17_5 : wr.cell? ⟨gb155, 5, none⟩ = some (.string a0_5) := (blk_cell BK155.out 5).trans rfl
              have hcz17_6 : wr.cell? ⟨gb155, 6, none⟩ = some (.string a0_6) := (blk_cell BK155.out 6).trans rfl
              have hcz17_7 : wr.cell? ⟨gb155, 7, none⟩ = some (.string a0_7) := (blk_cell BK155.out 7).trans rfl
              have hcz17_8 : wr.cell? ⟨gb155, 8, none⟩ = some (.int .i64 a0_8) := (blk_cell BK155.out 8).trans rfl
              have hcz17_9 : wr.cell? ⟨gb155, 9, none⟩ = some (.int .i64 a0_9) := (blk_cell BK155.out 9).trans rfl
              have hcz17_10 : wr.cell? ⟨gb155, 10, none⟩ = some (.int .i64 a0_10) := (blk_cell BK155.out 10).trans rfl
              have hcz17_11 : wr.cell? ⟨gb155, 11, none⟩ = some (.int .i64 a0_11) := (blk_cell BK155.out 11).trans rfl
              have hcz17_12 : wr.cell? ⟨gb155, 12, none⟩ = some (.int .i64 a0_12) := (blk_cell BK155.out 12).trans rfl
              have hcz17_13 : wr.cell? ⟨gb155, 13, none⟩ = some (.int .i64 a0_13) := (blk_cell BK155.out 13).trans rfl
              have hcz17_14 : wr.cell? ⟨gb155, 14, none⟩ = some (.int .i64 a0_14) := (blk_cell BK155.out 14).trans rfl
              have hcz17_15 : wr.cell? ⟨gb155, 15, none⟩ = some (.bool a0_15) := (blk_cell BK155.out 15).trans rfl
              have hcz17_16 : wr.cell? ⟨gb155, 16, none⟩ = some (.bool a0_16) := (blk_cell BK155.out 16).trans rfl
              have hcz17_17 : wr.cell? ⟨gb155, 17, none⟩ = some (.slice A0_17 l0_17.length c0_17) := (blk_cell BK155.out 17).trans rfl
              have hfz17_0 := blk_frozen BK155.out 0
              have hfz17_1 := blk_frozen BK155.out 1
              have hfz17_2 := blk_frozen BK155.out 2
              have hfz17_3 := blk_frozen BK155.out 3
              have hfz17_4 := blk_frozen BK155.out 4
              have hfz17_5 := blk_frozen BK155.out 5
              have hfz17_6 := blk_frozen BK155.out 6
              have hfz17_7 := blk_frozen BK155.out 7
              have hfz17_8 := blk_frozen BK155.out 8
              have hfz17_9 := blk_frozen BK155.out 9
              have hfz17_10 := blk_frozen BK155.out 10
              have hfz17_11 := blk_frozen BK155.out 11
              have hfz17_12 := blk_frozen BK155.out 12
              have hfz17_13 := blk_frozen BK155.out 13
              have hfz17_14 := blk_frozen BK155.out 14
              have hfz17_15 := blk_frozen BK155.out 15
              have hfz17_16 := blk_frozen BK155.out 16
              have hfz17_17 := blk_frozen BK155.out 17
              go_wp2
              repeat (go_quiet (fail); try go_wp2)
              go_loopg [6] k2 (fun kq v6 w' => ∃ (x6_3 : Int), v6 = .int .i64 x6_3 ∧ Aside0 (supercargoref31_Few.l1 kq l1 x6_3 = some r) ∧ Aside0 (kq ≤ k2) ∧ Aside0 (w'.heap[gb155]? = some (.cells #[.string a0_0, .string a0_1, .string a0_2, .string a0_3, .string a0_4, .string a0_5, .string a0_6, .string a0_7, .int .i64 a0_8, .int .i64 a0_9, .int .i64 a0_10, .int .i64 a0_11, .int .i64 a0_12, .int .i64 a0_13, .int .i64 a0_14, .bool a0_15, .bool a0_16, (.slice A0_17 l0_17.length c0_17)] 33 (0, 0))) ∧ Aside0 (Below w.heap.size w w'))
              case atStart => exact ⟨(0), (by first | rfl | (simp; done) | (simp [*]; done)), H', ⟨Nat.le_refl _⟩, ⟨by (with_reducible repeat (first | refine blk_drewN ?_ _ | refine blk_drew ?_ | refine blk_alloc ?_ _)); exact BK155.out⟩, ⟨by repeat (first | (with_reducible first | exact HB.out | apply below_alloc | apply pw_below_drewN | apply below_drew1 | refine below_set ?_ GE155.out) | exact HB.out)⟩⟩
              case round =>
                clear H'
                try clear c1
                try clear p1
                try clear q1
                try clear hx1
                try clear p2
                try clear c5
                try clear c5b0
                try clear c5b1
                try clear p6
                try clear c8
                try clear c9
                try clear c9b0
                try clear c10
                try clear c10b0
                try clear c12
                try clear c12b0
                try clear c14
                try clear c15
                try clear p15
                try clear q15
                try clear hx15
                try clear hcz13_0
                try clear hcz13_1
                try clear hcz13_10
                try clear hcz13_11
                try clear hcz13_12
                try clear hcz13_13
                try clear hcz13_14
                try clear hcz13_15
                try clear hcz13_16
                try clear hcz13_17
                try clear hcz13_2
                try clear hcz13_3
                try clear hcz13_4
                try clear hcz13_5
                try clear hcz13_6
                try clear hcz13_7
                try clear hcz13_8
                try clear hcz13_9
                try clear hcz15_0
                try clear hcz15_1
                try clear hcz15_10
                try clear hcz15_11
                try clear hcz15_12
                try clear hcz15_13
                try clear hcz15_14
                try clear hcz15_15
                try clear hcz15_16
                try clear hcz15_17
                try clear hcz15_2
                try clear hcz15_3
                try clear hcz15_4
                try clear hcz15_5
                try clear hcz15_6
                try clear hcz15_7
                try clear hcz15_8
                try clear hcz15_9
                try clear hcz17_0
                try clear hcz17_1
                try clear hcz17_10
                try clear hcz17_11
                try clear hcz17_12
                try clear hcz17_13
                try clear hcz17_14
                try clear hcz17_15
                try clear hcz17_16
                try clear hcz17_17
                try clear hcz17_2
                try clear hcz17_3
                try clear hcz17_4
                try clear hcz17_5
                try clear hcz17_6
                try clear hcz17_7
                try clear hcz17_8
                try clear hcz17_9
                try clear hcz6_0
                try clear hcz6_1
                try clear hcz6_10
                try clear hcz6_11
                try clear hcz6_12
                try clear hcz6_13
                try clear hcz6_14
                try clear hcz6_15
                try clear hcz6_16
                try clear hcz6_17
                try clear hcz6_2
                try clear hcz6_3
                try clear hcz6_4
                try clear hcz6_5
                try clear hcz6_6
                try clear hcz6_7
                try clear hcz6_8
                try clear hcz6_9
                try clear hcz7_0
                try clear hcz7_1
                try clear hcz7_10
                try clear hcz7_11
                try clear hcz7_12
                try clear hcz7_13
                try clear hcz7_14
                try clear hcz7_15
                try clear hcz7_16
                try clear hcz7_17
                try clear hcz7_2
                try clear hcz7_3
                try clear hcz7_4
                try clear hcz7_5
                try clear hcz7_6
                try clear hcz7_7
                try clear hcz7_8
                try clear hcz7_9
                try clear hfz13_0
                try clear hfz13_1
                try clear hfz13_10
                try clear hfz13_11
                try clear hfz13_12
                try clear hfz13_13
                try clear hfz13_14
                try clear hfz13_15
                try clear hfz13_16
                try clear hfz13_17
                try clear hfz13_2
                try clear hfz13_3
                try clear hfz13_4
                try clear hfz13_5
                try clear hfz13_6
                try clear hfz13_7
                try clear hfz13_8
                try clear hfz13_9
                try clear hfz15_0
                try clear hfz15_1
                try clear hfz15_10
                try clear hfz15_11
                try clear hfz15_12
                try clear hfz15_13
                try clear hfz15_14
                try clear hfz15_15
                try clear hfz15_16
                try clear hfz15_17
                try clear hfz15_2
                try clear hfz15_3
                try clear hfz15_4
                try clear hfz15_5
                try clear hfz15_6
                try clear hfz15_7
                try clear hfz15_8
                try clear hfz15_9
                try clear hfz17_0
                try clear hfz17_1
                try clear hfz17_10
                try clear hfz17_11
                try clear hfz17_12
                try clear hfz17_13
                try clear hfz17_14
                try clear hfz17_15
                try clear hfz17_16
                try clear hfz17_17
                try clear hfz17_2
                try clear hfz17_3
                try clear hfz17_4
                try clear hfz17_5
                try clear hfz17_6
                try clear hfz17_7
                try clear hfz17_8
                try clear hfz17_9
                try clear hfz6_0
                try clear hfz6_1
                try clear hfz6_10
                try clear hfz6_11
                try clear hfz6_12
                try clear hfz6_13
                try clear hfz6_14
                try clear hfz6_15
                try clear hfz6_16
                try clear hfz6_17
                try clear hfz6_2
                try clear hfz6_3
                try clear hfz6_4
                try clear hfz6_5
                try clear hfz6_6
                try clear hfz6_7
                try clear hfz6_8
                try clear hfz6_9
                try clear hfz7_0
                try clear hfz7_1
                try clear hfz7_10
                try clear hfz7_11
                try clear hfz7_12
                try clear hfz7_13
                try clear hfz7_14
                try clear hfz7_15
                try clear hfz7_16
                try clear hfz7_17
                try clear hfz7_2
                try clear hfz7_3
                try clear hfz7_4
                try clear hfz7_5
                try clear hfz7_6
                try clear hfz7_7
                try clear hfz7_8
                try clear hfz7_9
                try clear hx156_0
                try clear hx156_1
                try clear hx156_2
                try clear hx156_3
                try clear hx156_4
                try clear hx156_5
                try clear hx156_6
                try clear hx156_7
                try clear p156
                try clear p2
                try clear q156
                obtain ⟨x6_3, rfl, HA, HK3, BK155, HB⟩ := hrel
                cases gk with
                | zero => exact absurd HA.out (by simp [supercargoref31_Few.l1])
                | succ k3 =>
                  have H := HA.out
                  clear HA
                  simp only [supercargoref31_Few.l1] at H
                  by_cases c18 : x6_3 < (l1.length : Int)
                  · rw [if_pos c18] at H
                    have c18b0 : decide (x6_3 < (l1.length : Int)) = true := decide_eq_true c18
                    clear c18
                    by_cases c19 : 0 ≤ x6_3
                    · rw [if_pos c19] at H
                      have c19b0 : decide (0 ≤ x6_3) = true := decide_eq_true c19
                      clear c19
                      by_cases c20 : (((rd_T37 l1 x6_3).f3).length : Int) > 30
                      · rw [if_pos c20] at H
                        have c20b0 : decide (30 < (((rd_T37 l1 x6_3).f3).length : Int)) = true := decide_eq_true c20
                        have c20b1 : decide (30 < ((rd_T37 l1 x6_3).f3).length) = true := decide_eq_true (by omega)
                        clear c20
                        obtain rfl := Option.some.inj H
                        have p158 : 0 ≤ (x6_3 : Int) := of_decide_eq_true (by first | (with_reducible assumption) | assumption)
                        have q158 : x6_3 < (l1.length : Int) := of_decide_eq_true (by first | (with_reducible assumption) | assumption)
                        obtain ⟨ad158, A158_3, c158_3, e158, hx158_0, hx158_1, hx158_2, hx158_3, hl158_3, hi158_3⟩ := at_T37 HR1.out x6_3 p158 q158
                        cases e158
                        replace hx158_0 := (HB.out.cell (World.block_lt_of_cell? w _ hx158_0)).trans hx158_0
                        replace hx158_1 := (HB.out.cell (World.block_lt_of_cell? w _ hx158_1)).trans hx158_1
                        replace hx158_2 := (HB.out.cell (World.block_lt_of_cell? w _ hx158_2)).trans hx158_2
                        replace hx158_3 := (HB.out.cell (World.block_lt_of_cell? w _ hx158_3)).trans hx158_3
                        have HR158_3 := Aside0.mk hi158_3
                        have HC158_3 := Aside0.mk hl158_3
                        clear hi158_3 hl158_3
                        replace p158 := eq_true p158
                        replace q158 := eq_true q158
                        go_wp2
                        repeat (go_quiet (fail); try go_wp2)
                        go_ret
                        exact ⟨by first | rfl | (simp [errW_none, errW_some] <;> rfl) | (simp [*, errW_none, errW_some] <;> rfl), by repeat (first | (with_reducible first | exact HB.out | apply below_alloc | apply pw_below_drewN | apply below_drew1 | refine below_set ?_ GE155.out) | exact HB.out)⟩
                      · rw [if_neg c20] at H
                        have c20b0 : decide (30 < (((rd_T37 l1 x6_3).f3).length : Int)) = false := decide_eq_false c20
                        have c20b1 : decide (30 < ((rd_T37 l1 x6_3).f3).length) = false := decide_eq_false (by omega)
                        clear c20
                        have H' := Aside0.mk H
                        clear H
                        have p158 : 0 ≤ (x6_3 : Int) := of_decide_eq_true (by first | (with_reducible assumption) | assumption)
                        have q158 : x6_3 < (l1.length : Int) := of_decide_eq_true (by first | (with_reducible assumption) | assumption)
                        obtain ⟨ad158, A158_3, c158_3, e158, hx158_0, hx158_1, hx158_2, hx158_3, hl158_3, hi158_3⟩ := at_T37 HR1.out x6_3 p158 q158
                        cases e158
                        replace hx158_0 := (HB.out.cell (World.block_lt_of_cell? w _ hx158_0)).trans hx158_0
                        replace hx158_1 := (HB.out.cell (World.block_lt_of_cell? w _ hx158_1)).trans hx158_1
                        replace hx158_2 := (HB.out.cell (World.block_lt_of_cell? w _ hx158_2)).trans hx158_2
                        replace hx158_3 := (HB.out.cell (World.block_lt_of_cell? w _ hx158_3)).trans hx158_3
                        have HR158_3 := Aside0.mk hi158_3
                        have HC158_3 := Aside0.mk hl158_3
                        clear hi158_3 hl158_3
                        replace p158 := eq_true p158
                        replace q158 := eq_true q158
                        go_wp2
                        repeat (go_quiet (fail); try go_wp2)
                        go_loopg [7] k3 (fun kq v7 w' => ∃ (x7_4 : Int), v7 = .int .i64 x7_4 ∧ Aside0 (supercargoref31_Few.l2 kq l1 x6_3 x7_4 = some r) ∧ Aside0 (kq ≤ k3) ∧ Aside0 (w'.heap[gb155]? = some (.cells #[.string a0_0, .string a0_1, .string a0_2, .string a0_3, .string a0_4, .string a0_5, .string a0_6, .string a0_7, .int .i64 a0_8, .int .i64 a0_9, .int .i64 a0_10, .int .i64 a0_11, .int .i64 a0_12, .int .i64 a0_13, .int .i64 a0_14, .bool a0_15, .bool a0_16, (.slice A0_17 l0_17.length c0_17)] 33 (0, 0))) ∧ Aside0 (Below w.heap.size w w'))
                        case atStart => exact ⟨(0), (by first | rfl | (simp; done) | (simp [*]; done)), H', ⟨Nat.le_refl _⟩, ⟨by (with_reducible repeat (first | refine blk_drewN ?_ _ | refine blk_drew ?_ | refine blk_alloc ?_ _)); exact BK155.out⟩, ⟨by repeat (first | (with_reducible first | exact HB.out | apply below_alloc | apply pw_below_drewN | apply below_drew1 | refine below_set ?_ GE155.out) | exact HB.out)⟩⟩
                        case round =>
                          clear H'
                          try clear c1
                          try clear p1
                          try clear q1
                          try clear hx1
                          try clear c2
                          try clear p2
                          try clear c5
                          try clear c5b0
                          try clear c5b1
                          try clear p6
                          try clear c8
                          try clear c9
                          try clear c9b0
                          try clear c10
                          try clear c10b0
                          try clear c12
                          try clear c12b0
                          try clear c14
                          try clear c15
                          try clear p15
                          try clear q15
                          try clear hx15
                          try clear c18
                          try clear c18b0
                          try clear c19
                          try clear c19b0
                          try clear c20
                          try clear c20b0
                          try clear c20b1
                          try clear hcz13_0
                          try clear hcz13_1
                          try clear hcz13_10
                          try clear hcz13_11
                          try clear hcz13_12
                          try clear hcz13_13
                          try clear hcz13_14
                          try clear hcz13_15
                          try clear hcz13_16
                          try clear hcz13_17
                          try clear hcz13_2
                          try clear hcz13_3
                          try clear hcz13_4
                          try clear hcz13_5
                          try clear hcz13_6
                          try clear hcz13_7
                          try clear hcz13_8
                          try clear hcz13_9
                          try clear hcz15_0
                          try clear hcz15_1
                          try clear hcz15_10
                          try clear hcz15_11
                          try clear hcz15_12
                          try clear hcz15_13
                          try clear hcz15_14
                          try clear hcz15_15
                          try clear hcz15_16
                          try clear hcz15_17
                          try clear hcz15_2
                          try clear hcz15_3
                          try clear hcz15_4
                          try clear hcz15_5
                          try clear hcz15_6
                          try clear hcz15_7
                          try clear hcz15_8
                          try clear hcz15_9
                          try clear hcz17_0
                          try clear hcz17_1
                          try clear hcz17_10
                          try clear hcz17_11
                          try clear hcz17_12
                          try clear hcz17_13
                          try clear hcz17_14
                          try clear hcz17_15
                          try clear hcz17_16
                          try clear hcz17_17
                          try clear hcz17_2
                          try clear hcz17_3
                          try clear hcz17_4
                          try clear hcz17_5
                          try clear hcz17_6
                          try clear hcz17_7
                          try clear hcz17_8
                          try clear hcz17_9
                          try clear hcz6_0
                          try clear hcz6_1
                          try clear hcz6_10
                          try clear hcz6_11
                          try clear hcz6_12
                          try clear hcz6_13
                          try clear hcz6_14
                          try clear hcz6_15
                          try clear hcz6_16
                          try clear hcz6_17
                          try clear hcz6_2
                          try clear hcz6_3
                          try clear hcz6_4
                          try clear hcz6_5
                          try clear hcz6_6
                          try clear hcz6_7
                          try clear hcz6_8
                          try clear hcz6_9
                          try clear hcz7_0
                          try clear hcz7_1
                          try clear hcz7_10
                          try clear hcz7_11
                          try clear hcz7_12
                          try clear hcz7_13
                          try clear hcz7_14
                          try clear hcz7_15
                          try clear hcz7_16
                          try clear hcz7_17
                          try clear hcz7_2
                          try clear hcz7_3
                          try clear hcz7_4
                          try clear hcz7_5
                          try clear hcz7_6
                          try clear hcz7_7
                          try clear hcz7_8
                          try clear hcz7_9
                          try clear hfz13_0
                          try clear hfz13_1
                          try clear hfz13_10
                          try clear hfz13_11
                          try clear hfz13_12
                          try clear hfz13_13
                          try clear hfz13_14
                          try clear hfz13_15
                          try clear hfz13_16
                          try clear hfz13_17
                          try clear hfz13_2
                          try clear hfz13_3
                          try clear hfz13_4
                          try clear hfz13_5
                          try clear hfz13_6
                          try clear hfz13_7
                          try clear hfz13_8
                          try clear hfz13_9
                          try clear hfz15_0
                          try clear hfz15_1
                          try clear hfz15_10
                          try clear hfz15_11
                          try clear hfz15_12
                          try clear hfz15_13
                          try clear hfz15_14
                          try clear hfz15_15
                          try clear hfz15_16
                          try clear hfz15_17
                          try clear hfz15_2
                          try clear hfz15_3
                          try clear hfz15_4
                          try clear hfz15_5
                          try clear hfz15_6
                          try clear hfz15_7
                          try clear hfz15_8
                          try clear hfz15_9
                          try clear hfz17_0
                          try clear hfz17_1
                          try clear hfz17_10
                          try clear hfz17_11
                          try clear hfz17_12
                          try clear hfz17_13
                          try clear hfz17_14
                          try clear hfz17_15
                          try clear hfz17_16
                          try clear hfz17_17
                          try clear hfz17_2
                          try clear hfz17_3
                          try clear hfz17_4
                          try clear hfz17_5
                          try clear hfz17_6
                          try clear hfz17_7
                          try clear hfz17_8
                          try clear hfz17_9
                          try clear hfz6_0
                          try clear hfz6_1
                          try clear hfz6_10
                          try clear hfz6_11
                          try clear hfz6_12
                          try clear hfz6_13
                          try clear hfz6_14
                          try clear hfz6_15
                          try clear hfz6_16
                          try clear hfz6_17
                          try clear hfz6_2
                          try clear hfz6_3
                          try clear hfz6_4
                          try clear hfz6_5
                          try clear hfz6_6
                          try clear hfz6_7
                          try clear hfz6_8
                          try clear hfz6_9
                          try clear hfz7_0
                          try clear hfz7_1
                          try clear hfz7_10
                          try clear hfz7_11
                          try clear hfz7_12
                          try clear hfz7_13
                          try clear hfz7_14
                          try clear hfz7_15
                          try clear hfz7_16
                          try clear hfz7_17
                          try clear hfz7_2
                          try clear hfz7_3
                          try clear hfz7_4
                          try clear hfz7_5
                          try clear hfz7_6
                          try clear hfz7_7
                          try clear hfz7_8
                          try clear hfz7_9
                          try clear hx156_0
                          try clear hx156_1
                          try clear hx156_2
                          try clear hx156_3
                          try clear hx156_4
                          try clear hx156_5
                          try clear hx156_6
                          try clear hx156_7
                          try clear hx158_0
                          try clear hx158_1
                          try clear hx158_2
                          try clear hx158_3
                          try clear p1
                          try clear p15
                          try clear p156
                          try clear p158
                          try clear p2
                          try clear p6
                          try clear q1
                          try clear q15
                          try clear q156
                          try clear q158
                          obtain ⟨x7_4, rfl, HA, HK4, BK155, HB⟩ := hrel
                          cases gk with
                          | zero => exact absurd HA.out (by simp [supercargoref31_Few.l2])
                          | succ k4 =>
                            have H := HA.out
                            clear HA
                            simp only [supercargoref31_Few.l2] at H
                            by_cases c21 : 0 ≤ x6_3
                            · rw [if_pos c21] at H
                              have c21b0 : decide (0 ≤ x6_3) = true := decide_eq_true c21
                              clear c21
                              by_cases c22 : x6_3 < (l1.length : Int)
                              · rw [if_pos c22] at H
                                have c22b0 : decide (x6_3 < (l1.length : Int)) = true := decide_eq_true c22
                                clear c22
                                by_cases c23 : x7_4 < (((rd_T37 l1 x6_3).f3).length : Int)
                                · rw [if_pos c23] at H
                                  have c23b0 : decide (x7_4 < (((rd_T37 l1 x6_3).f3).length : Int)) = true := decide_eq_true c23
                                  clear c23
                                  by_cases c24 : 0 ≤ x7_4
                                  · rw [if_pos c24] at H
                                    have c24b0 : decide (0 ≤ x7_4) = true := decide_eq_true c24
                                    clear c24
                                    by_cases c25 : (wrap64 ((((rd_T66 ((rd_T37 l1 x6_3).f3) x7_4).f0).size : Int) + (((rd_T66 ((rd_T37 l1 x6_3).f3) x7_4).f1).size : Int))) > 300
                                    · rw [if_pos c25] at H
                                      have c25b0 : decide (300 < (wrap64 ((((rd_T66 ((rd_T37 l1 x6_3).f3) x7_4).f0).size : Int) + (((rd_T66 ((rd_T37 l1 x6_3).f3) x7_4).f1).size : Int)))) = true := decide_eq_true c25
                                      clear c25
                                      obtain rfl := Option.some.inj H
                                      have p159 : 0 ≤ (x6_3 : Int) := of_decide_eq_true (by first | (with_reducible assumption) | assumption)
                                      have q159 : x6_3 < (l1.length : Int) := of_decide_eq_true (by first | (with_reducible assumption) | assumption)
                                      obtain ⟨ad159, A159_3, c159_3, e159, hx159_0, hx159_1, hx159_2, hx159_3, hl159_3, hi159_3⟩ := at_T37 HR1.out x6_3 p159 q159
                                      obtain rfl : ad158 = ad159 := (by injection e159)
                                      replace hx159_0 := (HB.out.cell (World.block_lt_of_cell? w _ hx159_0)).trans hx159_0
                                      replace hx159_1 := (HB.out.cell (World.block_lt_of_cell? w _ hx159_1)).trans hx159_1
                                      replace hx159_2 := (HB.out.cell (World.block_lt_of_cell? w _ hx159_2)).trans hx159_2
                                      replace hx159_3 := (HB.out.cell (World.block_lt_of_cell? w _ hx159_3)).trans hx159_3
                                      have HR159_3 := Aside0.mk hi159_3
                                      have HC159_3 := Aside0.mk hl159_3
                                      clear hi159_3 hl159_3
                                      replace p159 := eq_true p159
                                      replace q159 := eq_true q159
                                      have p160 : 0 ≤ (x6_3 : Int) := of_decide_eq_true (by first | (with_reducible assumption) | assumption)
                                      have q160 : x6_3 < (l1.length : Int) := of_decide_eq_true (by first | (with_reducible assumption) | assumption)
                                      obtain ⟨ad160, A160_3, c160_3, e160, hx160_0, hx160_1, hx160_2, hx160_3, hl160_3, hi160_3⟩ := at_T37 HR1.out x6_3 p160 q160
                                      obtain rfl : ad158 = ad160 := (by injection e160)
                                      replace hx160_0 := (HB.out.cell (World.block_lt_of_cell? w _ hx160_0)).trans hx160_0
                                      replace hx160_1 := (HB.out.cell (World.block_lt_of_cell? w _ hx160_1)).trans hx160_1
                                      replace hx160_2 := (HB.out.cell (World.block_lt_of_cell? w _ hx160_2)).trans hx160_2
                                      replace hx160_3 := (HB.out.cell (World.block_lt_of_cell? w _ hx160_3)).trans hx160_3
                                      have HR160_3 := Aside0.mk hi160_3
                                      have HC160_3 := Aside0.mk hl160_3
                                      clear hi160_3 hl160_3
                                      replace p160 := eq_true p160
                                      replace q160 := eq_true q160
                                      have ea_ := Option.some.inj (hx159_3.symm.trans hx160_3)
                                      injection ea_ with ea_ en_ ec_
                                      subst ea_
                                      subst ec_
                                      clear en_
                                      have p161 : 0 ≤ (x7_4 : Int) := of_decide_eq_true (by first | (with_reducible assumption) | assumption)
                                      have q161 : x7_4 < (((rd_T37 l1 x6_3).f3).length : Int) := of_decide_eq_true (by first | (with_reducible assumption) | assumption)
                                      obtain ⟨ad161, e161, hx161_0, hx161_1⟩ := at_T66 HR160_3.out x7_4 p161 q161
                                      cases e161
                                      replace hx161_0 := (HB.out.cell (World.block_lt_of_cell? w _ hx161_0)).trans hx161_0
                                      replace hx161_1 := (HB.out.cell (World.block_lt_of_cell? w _ hx161_1)).trans hx161_1
                                      replace p161 := eq_true p161
                                      replace q161 := eq_true q161
                                      have p162 : 0 ≤ (x6_3 : Int) := of_decide_eq_true (by first | (with_reducible assumption) | assumption)
                                      have q162 : x6_3 < (l1.length : Int) := of_decide_eq_true (by first | (with_reducible assumption) | assumption)
                                      obtain ⟨ad162, A162_3, c162_3, e162, hx162_0, hx162_1, hx162_2, hx162_3, hl162_3, hi162_3⟩ := at_T37 HR1.out x6_3 p162 q162
                                      obtain rfl : ad158 = ad162 := (by injection e162)
                                      replace hx162_0 := (HB.out.cell (World.block_lt_of_cell? w _ hx162_0)).trans hx162_0
                                      replace hx162_1 := (HB.out.cell (World.block_lt_of_cell? w _ hx162_1)).trans hx162_1
                                      replace hx162_2 := (HB.out.cell (World.block_lt_of_cell? w _ hx162_2)).trans hx162_2
                                      replace hx162_3 := (HB.out.cell (World.block_lt_of_cell? w _ hx162_3)).trans hx162_3
                                      have HR162_3 := Aside0.mk hi162_3
                                      have HC162_3 := Aside0.mk hl162_3
                                      clear hi162_3 hl162_3
                                      replace p162 := eq_true p162
                                      replace q162 := eq_true q162
                                      have ea_ := Option.some.inj (hx159_3.symm.trans hx162_3)
                                      injection ea_ with ea_ en_ ec_
                                      subst ea_
                                      subst ec_
                                      clear en_
                                      have p163 : 0 ≤ (x7_4 : Int) := of_decide_eq_true (by first | (with_reducible assumption) | assumption)
                                      have q163 : x7_4 < (((rd_T37 l1 x6_3).f3).length : Int) := of_decide_eq_true (by first | (with_reducible assumption) | assumption)
                                      obtain ⟨ad163, e163, hx163_0, hx163_1⟩ := at_T66 HR162_3.out x7_4 p163 q163
                                      cases e163
                                      replace hx163_0 := (HB.out.cell (World.block_lt_of_cell? w _ hx163_0)).trans hx163_0
                                      replace hx163_1 := (HB.out.cell (World.block_lt_of_cell? w _ hx163_1)).trans hx163_1
                                      replace p163 := eq_true p163
                                      replace q163 := eq_true q163
                                      go_wp2
                                      repeat (go_quiet (fail); try go_wp2)
                                      go_ret
                                      exact ⟨by first | rfl | (simp [errW_none, errW_some] <;> rfl) | (simp [*, errW_none, errW_some] <;> rfl), by repeat (first | (with_reducible first | exact HB.out | apply below_alloc | apply pw_below_drewN | apply below_drew1 | refine below_set ?_ GE155.out) | exact HB.out)⟩
                                    · rw [if_neg c25] at H
                                      have c25b0 : decide (300 < (wrap64 ((((rd_T66 ((rd_T37 l1 x6_3).f3) x7_4).f0).size : Int) + (((rd_T66 ((rd_T37 l1 x6_3).f3) x7_4).f1).size : Int)))) = false := decide_eq_false c25
                                      clear c25
                                      have H' := Aside0.mk H
                                      clear H
                                      have p159 : 0 ≤ (x6_3 : Int) := of_decide_eq_true (by first | (with_reducible assumption) | assumption)
                                      have q159 : x6_3 < (l1.length : Int) := of_decide_eq_true (by first | (with_reducible assumption) | assumption)
                                      obtain ⟨ad159, A159_3, c159_3, e159, hx159_0, hx159_1, hx159_2, hx159_3, hl159_3, hi159_3⟩ := at_T37 HR1.out x6_3 p159 q159
                                      obtain rfl : ad158 = ad159 := (by injection e159)
                                      replace hx159_0 := (HB.out.cell (World.block_lt_of_cell? w _ hx159_0)).trans hx159_0
                                      replace hx159_1 := (HB.out.cell (World.block_lt_of_cell? w _ hx159_1)).trans hx159_1
                                      replace hx159_2 := (HB.out.cell (World.block_lt_of_cell? w _ hx159_2)).trans hx159_2
                                      replace hx159_3 := (HB.out.cell (World.block_lt_of_cell? w _ hx159_3)).trans hx159_3
                                      have HR159_3 := Aside0.mk hi159_3
                                      have HC159_3 := Aside0.mk hl159_3
                                      clear hi159_3 hl159_3
                                      replace p159 := eq_true p159
                                      replace q159 := eq_true q159
                                      have p160 : 0 ≤ (x6_3 : Int) := of_decide_eq_true (by first | (with_reducible assumption) | assumption)
                                      have q160 : x6_3 < (l1.length : Int) := of_decide_eq_true (by first | (with_reducible assumption) | assumption)
                                      obtain ⟨ad160, A160_3, c160_3, e160, hx160_0, hx160_1, hx160_2, hx160_3, hl160_3, hi160_3⟩ := at_T37 HR1.out x6_3 p160 q160
                                      obtain rfl : ad158 = ad160 := (by injection e160)
                                      replace hx160_0 := (HB.out.cell (World.block_lt_of_cell? w _ hx160_0)).trans hx160_0
                                      replace hx160_1 := (HB.out.cell (World.block_lt_of_cell? w _ hx160_1)).trans hx160_1
                                      replace hx160_2 := (HB.out.cell (World.block_lt_of_cell? w _ hx160_2)).trans hx160_2
                                      replace hx160_3 := (HB.out.cell (World.block_lt_of_cell? w _ hx160_3)).trans hx160_3
                                      have HR160_3 := Aside0.mk hi160_3
                                      have HC160_3 := Aside0.mk hl160_3
                                      clear hi160_3 hl160_3
                                      replace p160 := eq_true p160
                                      replace q160 := eq_true q160
                                      have ea_ := Option.some.inj (hx159_3.symm.trans hx160_3)
                                      injection ea_ with ea_ en_ ec_
                                      subst ea_
                                      subst ec_
                                      clear en_
                                      have p161 : 0 ≤ (x7_4 : Int) := of_decide_eq_true (by first | (with_reducible assumption) | assumption)
                                      have q161 : x7_4 < (((rd_T37 l1 x6_3).f3).length : Int) := of_decide_eq_true (by first | (with_reducible assumption) | assumption)
                                      obtain ⟨ad161, e161, hx161_0, hx161_1⟩ := at_T66 HR160_3.out x7_4 p161 q161
                                      cases e161
                                      replace hx161_0 := (HB.out.cell (World.block_lt_of_cell? w _ hx161_0)).trans hx161_0
                                      replace hx161_1 := (HB.out.cell (World.block_lt_of_cell? w _ hx161_1)).trans hx161_1
                                      replace p161 := eq_true p161
                                      replace q161 := eq_true q161
                                      have p162 : 0 ≤ (x6_3 : Int) := of_decide_eq_true (by first | (with_reducible assumption) | assumption)
                                      have q162 : x6_3 < (l1.length : Int) := of_decide_eq_true (by first | (with_reducible assumption) | assumption)
                                      obtain ⟨ad162, A162_3, c162_3, e162, hx162_0, hx162_1, hx162_2, hx162_3, hl162_3, hi162_3⟩ := at_T37 HR1.out x6_3 p162 q162
                                      obtain rfl : ad158 = ad162 := (by injection e162)
                                      replace hx162_0 := (HB.out.cell (World.block_lt_of_cell? w _ hx162_0)).trans hx162_0
                                      replace hx162_1 := (HB.out.cell (World.block_lt_of_cell? w _ hx162_1)).trans hx162_1
                                      replace hx162_2 := (HB.out.cell (World.block_lt_of_cell? w _ hx162_2)).trans hx162_2
                                      replace hx162_3 := (HB.out.cell (World.block_lt_of_cell? w _ hx162_3)).trans hx162_3
                                      have HR162_3 := Aside0.mk hi162_3
                                      have HC162_3 := Aside0.mk hl162_3
                                      clear hi162_3 hl162_3
                                      replace p162 := eq_true p162
                                      replace q162 := eq_true q162
                                      have ea_ := Option.some.inj (hx159_3.symm.trans hx162_3)
                                      injection ea_ with ea_ en_ ec_
                                      subst ea_
                                      subst ec_
                                      clear en_
                                      have p163 : 0 ≤ (x7_4 : Int) := of_decide_eq_true (by first | (with_reducible assumption) | assumption)
                                      have q163 : x7_4 < (((rd_T37 l1 x6_3).f3).length : Int) := of_decide_eq_true (by first | (with_reducible assumption) | assumption)
                                      obtain ⟨ad163, e163, hx163_0, hx163_1⟩ := at_T66 HR162_3.out x7_4 p163 q163
                                      cases e163
                                      replace hx163_0 := (HB.out.cell (World.block_lt_of_cell? w _ hx163_0)).trans hx163_0
                                      replace hx163_1 := (HB.out.cell (World.block_lt_of_cell? w _ hx163_1)).trans hx163_1
                                      replace p163 := eq_true p163
                                      replace q163 := eq_true q163
                                      go_wp2
                                      repeat (go_quiet (fail); try go_wp2)
                                      go_roundg k4
                                      case measure => have := HJ2.out; have := HK2.out; have := HK3.out; have := HK4.out; omega
                                      case rel => exact ⟨(wrap64 (x7_4 + 1)), (by first | rfl | (simp; done) | (simp [*]; done)), H', ⟨by have := HJ2.out; have := HK2.out; have := HK3.out; have := HK4.out; omega⟩, ⟨by (with_reducible repeat (first | refine blk_drewN ?_ _ | refine blk_drew ?_ | refine blk_alloc ?_ _)); exact BK155.out⟩, ⟨by repeat (first | (with_reducible first | exact HB.out | apply below_alloc | apply pw_below_drewN | apply below_drew1 | refine below_set ?_ GE155.out) | exact HB.out)⟩⟩
                                  · rw [if_neg c24] at H
                                    exact absurd H (by simp)
                                · rw [if_neg c23] at H
                                  have c23b0 : decide (x7_4 < (((rd_T37 l1 x6_3).f3).length : Int)) = false := decide_eq_false c23
                                  clear c23
                                  have H' := Aside0.mk H
                                  clear H
                                  have p159 : 0 ≤ (x6_3 : Int) := of_decide_eq_true (by first | (with_reducible assumption) | assumption)
                                  have q159 : x6_3 < (l1.length : Int) := of_decide_eq_true (by first | (with_reducible assumption) | assumption)
                                  obtain ⟨ad159, A159_3, c159_3, e159, hx159_0, hx159_1, hx159_2, hx159_3, hl159_3, hi159_3⟩ := at_T37 HR1.out x6_3 p159 q159
                                  obtain rfl : ad158 = ad159 := (by injection e159)
                                  replace hx159_0 := (HB.out.cell (World.block_lt_of_cell? w _ hx159_0)).trans hx159_0
                                  replace hx159_1 := (HB.out.cell (World.block_lt_of_cell? w _ hx159_1)).trans hx159_1
                                  replace hx159_2 := (HB.out.cell (World.block_lt_of_cell? w _ hx159_2)).trans hx159_2
                                  replace hx159_3 := (HB.out.cell (World.block_lt_of_cell? w _ hx159_3)).trans hx159_3
                                  have HR159_3 := Aside0.mk hi159_3
                                  have HC159_3 := Aside0.mk hl159_3
                                  clear hi159_3 hl159_3
                                  replace p159 := eq_true p159
                                  replace q159 := eq_true q159
                                  go_wp2
                                  repeat (go_quiet (fail); try go_wp2)
                                  go_roundg k4
                                  case measure => have := HJ2.out; have := HK2.out; have := HK3.out; have := HK4.out; omega
                                  case rel => exact ⟨(wrap64 (x6_3 + 1)), (by first | rfl | (simp; done) | (simp [*]; done)), H', ⟨by have := HJ2.out; have := HK2.out; have := HK3.out; have := HK4.out; omega⟩, ⟨by (with_reducible repeat (first | refine blk_drewN ?_ _ | refine blk_drew ?_ | refine blk_alloc ?_ _)); exact BK155.out⟩, ⟨by repeat (first | (with_reducible first | exact HB.out | apply below_alloc | apply pw_below_drewN | apply below_drew1 | refine below_set ?_ GE155.out) | exact HB.out)⟩⟩
                              · rw [if_neg c22] at H
                                exact absurd H (by simp)
                            · rw [if_neg c21] at H
                              exact absurd H (by simp)
                    · rw [if_neg c19] at H
                      exact absurd H (by simp)
                  · rw [if_neg c18] at H
                    have c18b0 : decide (x6_3 < (l1.length : Int)) = false := decide_eq_false c18
                    clear c18
                    obtain rfl := Option.some.inj H
                    go_wp2
                    repeat (go_quiet (fail); try go_wp2)
                    go_ret
                    exact ⟨by first | rfl | (simp [errW_none, errW_some] <;> rfl) | (simp [*, errW_none, errW_some] <;> rfl), by repeat (first | (with_reducible first | exact HB.out | apply below_alloc | apply pw_below_drewN | apply below_drew1 | refine below_set ?_ GE155.out) | exact HB.out)⟩

end Go.Proofs.YtcibglpbfaffgaaDoor.X
