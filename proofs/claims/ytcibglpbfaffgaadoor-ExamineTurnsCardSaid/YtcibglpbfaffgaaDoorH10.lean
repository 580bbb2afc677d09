/- The walk of ExamineTurns. -/
import Derived.Test.YtcibglpbfaffgaaDoorHV
import Derived.Deep.RegionHeld3
import Derived.Outline
namespace Go.Proofs.YtcibglpbfaffgaaDoor.X
open Go Go.RowKit Go.Proofs.YtcibglpbfaffgaaDoorW.PrintWords Go.Proofs.YtcibglpbfaffgaaDoorW.PrintLast Go.Proofs.YtcibglpbfaffgaaDoorW.PrintMore
attribute [local go_sem] max2_int min2_int max_two min_two
set_option linter.unusedVariables false
set_option linter.unusedSimpArgs false
theorem sizeC (p : S43) (A : Option Addr) (n : Nat) (w : World) (r : Int) (hC : Kd.C k43 w A p.f5.length p.f5) (hn : p.f5.length ≤ n) (h : Ev (sizeK p 200) r) :
    Calls Tryd.prog 21 #[.agg (pc p A n), .int .i64 200] w fun e w' => e = .returned (.int .i64 r) ∧ Below w.heap.size w w' := by
  obtain ⟨k, hk⟩ := h.get
  exact supercargoref31_Size.calls k p.f0 p.f1 p.f2 p.f3 p.f4 A n p.f5 200 r w hC hn hk
theorem pc_one (p : S43) (A : Option Addr) (n : Nat) : (pc p A n).all (·.oneCell') = true := by simp [pc, Value.oneCell']
def tuOut (bf : Bool) (ra rb at_ : Int) (len : Nat) : Bool := !bf || (decide (40 < ra) || (decide (40 < rb) || (decide (at_ < 0) || decide ((len : Int) ≤ at_))))
set_option maxHeartbeats 16000000 in
set_option maxRecDepth 100000 in
theorem turns10 (a : S43) (A : Option Addr) (n : Nat) (b : S43) (A' : Option Addr) (n' : Nat) (docs : List S37) (A1 : Option Addr) (n1 : Nat) (at_ : Int) (bf : Bool) (ra rb : Int) (w : World)
    (hA : Kd.C k43 w A a.f5.length a.f5) (hAn : a.f5.length ≤ n) (hB : Kd.C k43 w A' b.f5.length b.f5) (hBn : b.f5.length ≤ n') (hD : Kd.C k37 w A1 docs.length docs) (hDn : docs.length ≤ n1) (hG : Glob w)
    (hf : Ev (fewK z33 docs) bf) (hra : Ev (sizeK a 200) ra) (hrb : Ev (sizeK b 200) rb)
    (hl : tuOut bf ra rb at_ docs.length = false → szP a ≤ 1000 ∧ szP b ≤ 1000 ∧ docs.length ≤ 1000000 ∧ ∀ d ∈ docs, shortV d.f3) :
    Calls Tryd.prog 10 #[.agg (pc a A n), .agg (pc b A' n'), .slice A1 docs.length n1, .int .i64 at_] w fun e w' => e = .returned (.bool true) ∧ Below w.heap.size w w' := by
  have hu43 := Tryd.underlying43
  have hmd : docs.length ≤ 9223372036854775807 := hD.2.1
  have HA := Aside0.mk hA
  have HAN := Aside0.mk hAn
  have HB := Aside0.mk hB
  have HBN := Aside0.mk hBn
  have HD := Aside0.mk hD
  have HDN := Aside0.mk hDn
  have HG := Aside0.mk hG
  have HF := Aside0.mk hf
  have HRA := Aside0.mk hra
  have HRB := Aside0.mk hrb
  have HL := Aside0.mk hl
  clear hA hAn hB hBn hD hDn hG hf hra hrb hl
  obtain ⟨g, hgd⟩ : ∃ g, g = tuOut bf ra rb at_ docs.length := ⟨_, rfl⟩
  have HGD := Aside0.mk hgd
  clear hgd
  unfold pc
  go_enter Tryd.func10, Tryd.ntmps10
  go_upto_region 3 with (go_at_call 11; refine (awakeC _ (Glob_alloc (Glob_alloc HG.out))).mono ?_; rintro e w1 ⟨rfl, hb1⟩)
  have HB1 := Aside0.mk ((below_alloc (below_alloc (Below.refl w.heap.size w) _) _).trans (hb1.mono (by simp; omega)))
  have AB1 := Aside0.mk (blk_below (heap1 w (.cells (pc a A n) 43) (.cells (pc b A' n') 43)) hb1)
  have BB1 := Aside0.mk (blk_below (heap2 w (.cells (pc a A n) 43) (.cells (pc b A' n') 43)) hb1)
  clear hb1
  go_cut [39] (fun v wx => v = .bool g ∧ Aside0 (Below w.heap.size w wx) ∧ Aside0 (wx.heap[w.heap.size]? = some (.cells (pc a A n) 43 (0, 0))) ∧ Aside0 (wx.heap[w.heap.size + 1]? = some (.cells (pc b A' n') 43 (0, 0))))
  case first =>
    have RF := Aside0.mk (fewC z33 none 0 docs A1 n1 w1 bf (C_nil k45 w1) (Nat.le_refl _) (Kd.C_below HD.out HB1.out) HDN.out HF.out)
    have RA := Aside0.mk (fun w' (h : Below w1.heap.size w1 w') => sizeC a A n w' ra (Kd.C_below HA.out (HB1.out.trans (h.mono HB1.out.size))) HAN.out HRA.out)
    have RB := Aside0.mk (fun w' (h : Below w1.heap.size w1 w') => sizeC b A' n' w' rb (Kd.C_below HB.out (HB1.out.trans (h.mono HB1.out.size))) HBN.out HRB.out)
    simp only [cc, z33, z30, List.length_nil] at RF
    unfold pc at RA RB
    have AB1' := Aside0.mk AB1.out
    have BB1' := Aside0.mk BB1.out
    unfold pc at AB1' BB1'
    cases bf with
    | false =>
      have FX := Aside0.mk (show tuOut false ra rb at_ docs.length = true from rfl)
      go_wp2_with (first | (go_at_call 14; refine RF.out.mono ?_; rintro e w2 ⟨rfl, hb2⟩; have HQ2 := Aside0.mk hb2; have AQ2 := Aside0.mk (blk_below AB1'.out hb2); have BQ2 := Aside0.mk (blk_below BB1'.out hb2); clear hb2))
      go_meet
      exact ⟨by rw [HGD.out, FX.out], ⟨HB1.out.trans (HQ2.out.mono HB1.out.size)⟩, ⟨(HQ2.out.block _ (blk_lt AB1.out)).trans AB1.out⟩, ⟨(HQ2.out.block _ (blk_lt BB1.out)).trans BB1.out⟩⟩
    | true =>
      by_cases k0 : 40 < ra
      · have k0b : decide (40 < ra) = true := decide_eq_true k0
        have FX := Aside0.mk (show tuOut true ra rb at_ docs.length = true by unfold tuOut; rw [decide_eq_true k0]; simp)
        clear k0
        go_wp2_with (first | (go_at_call 14; refine RF.out.mono ?_; rintro e w2 ⟨rfl, hb2⟩; have HQ2 := Aside0.mk hb2; have AQ2 := Aside0.mk (blk_below AB1'.out hb2); have BQ2 := Aside0.mk (blk_below BB1'.out hb2); clear hb2) | (refine wpList_load_rowG (by rfl) 43 _ rfl w.heap.size rfl 43 _ (0, 0) _ AQ2.out hu43 rfl (by kernel_rfl) ?_) | (go_at_call 21; (with_reducible refine (RA.out _ HQ2.out).mono ?_); rintro e w3 ⟨rfl, hb3⟩; have HQ3 := Aside0.mk (HQ2.out.trans (hb3.mono HQ2.out.size)); have BQ3 := Aside0.mk (blk_below BQ2.out hb3); have HQ3' := Aside0.mk hb3; clear hb3 AQ2))
        go_meet
        exact ⟨by rw [HGD.out, FX.out], ⟨HB1.out.trans (HQ3.out.mono HB1.out.size)⟩, ⟨(HQ3.out.block _ (blk_lt AB1.out)).trans AB1.out⟩, ⟨(HQ3.out.block _ (blk_lt BB1.out)).trans BB1.out⟩⟩
      · have k0b : decide (40 < ra) = false := decide_eq_false k0
        by_cases k1 : 40 < rb
        · have k1b : decide (40 < rb) = true := decide_eq_true k1
          have FX := Aside0.mk (show tuOut true ra rb at_ docs.length = true by unfold tuOut; rw [decide_eq_true k1]; simp)
          clear k0 k1
          go_wp2_with (first | (go_at_call 14; refine RF.out.mono ?_; rintro e w2 ⟨rfl, hb2⟩; have HQ2 := Aside0.mk hb2; have AQ2 := Aside0.mk (blk_below AB1'.out hb2); have BQ2 := Aside0.mk (blk_below BB1'.out hb2); clear hb2) | (refine wpList_load_rowG (by rfl) 43 _ rfl w.heap.size rfl 43 _ (0, 0) _ AQ2.out hu43 rfl (by kernel_rfl) ?_) | (go_at_call 21; (with_reducible refine (RA.out _ HQ2.out).mono ?_); rintro e w3 ⟨rfl, hb3⟩; have HQ3 := Aside0.mk (HQ2.out.trans (hb3.mono HQ2.out.size)); have BQ3 := Aside0.mk (blk_below BQ2.out hb3); have HQ3' := Aside0.mk hb3; clear hb3 AQ2) | (refine wpList_load_rowG (by rfl) 43 _ rfl (w.heap.size + 1) rfl 43 _ (0, 0) _ BQ3.out hu43 rfl (by kernel_rfl) ?_) | (go_at_call 21; (with_reducible refine (RB.out _ HQ3.out).mono ?_); rintro e w4 ⟨rfl, hb4⟩; have HQ4 := Aside0.mk (HQ3.out.trans (hb4.mono HQ3.out.size)); clear hb4 BQ3))
          go_meet
          exact ⟨by rw [HGD.out, FX.out], ⟨HB1.out.trans (HQ4.out.mono HB1.out.size)⟩, ⟨(HQ4.out.block _ (blk_lt AB1.out)).trans AB1.out⟩, ⟨(HQ4.out.block _ (blk_lt BB1.out)).trans BB1.out⟩⟩
        · have k1b : decide (40 < rb) = false := decide_eq_false k1
          by_cases k2 : at_ < 0
          · have k2b : decide (at_ < 0) = true := decide_eq_true k2
            have FX := Aside0.mk (show tuOut true ra rb at_ docs.length = true by unfold tuOut; rw [decide_eq_true k2]; simp)
            clear k0 k1 k2
            go_wp2_with (first | (go_at_call 14; refine RF.out.mono ?_; rintro e w2 ⟨rfl, hb2⟩; have HQ2 := Aside0.mk hb2; have AQ2 := Aside0.mk (blk_below AB1'.out hb2); have BQ2 := Aside0.mk (blk_below BB1'.out hb2); clear hb2) | (refine wpList_load_rowG (by rfl) 43 _ rfl w.heap.size rfl 43 _ (0, 0) _ AQ2.out hu43 rfl (by kernel_rfl) ?_) | (go_at_call 21; (with_reducible refine (RA.out _ HQ2.out).mono ?_); rintro e w3 ⟨rfl, hb3⟩; have HQ3 := Aside0.mk (HQ2.out.trans (hb3.mono HQ2.out.size)); have BQ3 := Aside0.mk (blk_below BQ2.out hb3); have HQ3' := Aside0.mk hb3; clear hb3 AQ2) | (refine wpList_load_rowG (by rfl) 43 _ rfl (w.heap.size + 1) rfl 43 _ (0, 0) _ BQ3.out hu43 rfl (by kernel_rfl) ?_) | (go_at_call 21; (with_reducible refine (RB.out _ HQ3.out).mono ?_); rintro e w4 ⟨rfl, hb4⟩; have HQ4 := Aside0.mk (HQ3.out.trans (hb4.mono HQ3.out.size)); clear hb4 BQ3))
            go_meet
            exact ⟨by rw [HGD.out, FX.out], ⟨HB1.out.trans (HQ4.out.mono HB1.out.size)⟩, ⟨(HQ4.out.block _ (blk_lt AB1.out)).trans AB1.out⟩, ⟨(HQ4.out.block _ (blk_lt BB1.out)).trans BB1.out⟩⟩
          · have k2b : decide (at_ < 0) = false := decide_eq_false k2
            by_cases k3 : (docs.length : Int) ≤ at_
            · have k3b : decide ((docs.length : Int) ≤ at_) = true := decide_eq_true k3
              have FX := Aside0.mk (show tuOut true ra rb at_ docs.length = true by unfold tuOut; rw [decide_eq_true k3]; simp)
              clear k0 k1 k2 k3
              go_wp2_with (first | (go_at_call 14; refine RF.out.mono ?_; rintro e w2 ⟨rfl, hb2⟩; have HQ2 := Aside0.mk hb2; have AQ2 := Aside0.mk (blk_below AB1'.out hb2); have BQ2 := Aside0.mk (blk_below BB1'.out hb2); clear hb2) | (refine wpList_load_rowG (by rfl) 43 _ rfl w.heap.size rfl 43 _ (0, 0) _ AQ2.out hu43 rfl (by kernel_rfl) ?_) | (go_at_call 21; (with_reducible refine (RA.out _ HQ2.out).mono ?_); rintro e w3 ⟨rfl, hb3⟩; have HQ3 := Aside0.mk (HQ2.out.trans (hb3.mono HQ2.out.size)); have BQ3 := Aside0.mk (blk_below BQ2.out hb3); have HQ3' := Aside0.mk hb3; clear hb3 AQ2) | (refine wpList_load_rowG (by rfl) 43 _ rfl (w.heap.size + 1) rfl 43 _ (0, 0) _ BQ3.out hu43 rfl (by kernel_rfl) ?_) | (go_at_call 21; (with_reducible refine (RB.out _ HQ3.out).mono ?_); rintro e w4 ⟨rfl, hb4⟩; have HQ4 := Aside0.mk (HQ3.out.trans (hb4.mono HQ3.out.size)); clear hb4 BQ3))
              go_meet
              exact ⟨by rw [HGD.out, FX.out], ⟨HB1.out.trans (HQ4.out.mono HB1.out.size)⟩, ⟨(HQ4.out.block _ (blk_lt AB1.out)).trans AB1.out⟩, ⟨(HQ4.out.block _ (blk_lt BB1.out)).trans BB1.out⟩⟩
            · have k3b : decide ((docs.length : Int) ≤ at_) = false := decide_eq_false k3
              have FX := Aside0.mk (show tuOut true ra rb at_ docs.length = false by unfold tuOut; rw [decide_eq_false k0, decide_eq_false k1, decide_eq_false k2, decide_eq_false k3]; rfl)
              clear k0 k1 k2 k3
              go_wp2_with (first | (go_at_call 14; refine RF.out.mono ?_; rintro e w2 ⟨rfl, hb2⟩; have HQ2 := Aside0.mk hb2; have AQ2 := Aside0.mk (blk_below AB1'.out hb2); have BQ2 := Aside0.mk (blk_below BB1'.out hb2); clear hb2) | (refine wpList_load_rowG (by rfl) 43 _ rfl w.heap.size rfl 43 _ (0, 0) _ AQ2.out hu43 rfl (by kernel_rfl) ?_) | (go_at_call 21; (with_reducible refine (RA.out _ HQ2.out).mono ?_); rintro e w3 ⟨rfl, hb3⟩; have HQ3 := Aside0.mk (HQ2.out.trans (hb3.mono HQ2.out.size)); have BQ3 := Aside0.mk (blk_below BQ2.out hb3); have HQ3' := Aside0.mk hb3; clear hb3 AQ2) | (refine wpList_load_rowG (by rfl) 43 _ rfl (w.heap.size + 1) rfl 43 _ (0, 0) _ BQ3.out hu43 rfl (by kernel_rfl) ?_) | (go_at_call 21; (with_reducible refine (RB.out _ HQ3.out).mono ?_); rintro e w4 ⟨rfl, hb4⟩; have HQ4 := Aside0.mk (HQ3.out.trans (hb4.mono HQ3.out.size)); clear hb4 BQ3))
              go_meet
              exact ⟨by rw [HGD.out, FX.out], ⟨HB1.out.trans (HQ4.out.mono HB1.out.size)⟩, ⟨(HQ4.out.block _ (blk_lt AB1.out)).trans AB1.out⟩, ⟨(HQ4.out.block _ (blk_lt BB1.out)).trans BB1.out⟩⟩
  case rest =>
    obtain ⟨rfl, HW, AB, BB⟩ := hcut
    clear HB1 AB1 BB1
    cases g with
    | true =>
      go_wp2
      go_ret
      exact ⟨rfl, HW.out⟩
    | false =>
      obtain ⟨hsa, hsb, hdl, hsv⟩ := HL.out HGD.out.symm
      have hat : 0 ≤ at_ ∧ at_ < (docs.length : Int) := by
        have := HGD.out.symm
        simp [tuOut] at this
        omega
      obtain ⟨i, rfl⟩ : ∃ i : Nat, at_ = i := ⟨at_.toNat, by omega⟩
      have hi : i < docs.length := by omega
      have HSA := Aside0.mk hsa
      have HSB := Aside0.mk hsb
      have HDL := Aside0.mk hdl
      have hsv' := hsv _ (List.getElem_mem hi)
      have hh := fun (p : S43) (Ap : Option Addr) (np : Nat) (w' : World) (h : Below w.heap.size w w') (hC : Kd.C k43 w' Ap p.f5.length p.f5) (hn : p.f5.length ≤ np) (hs : szP p ≤ 1000000) => holdsC p Ap np docs A1 n1 i w' hi hC hn (Kd.C_below HD.out h) HDN.out (Glob_below HG.out h) hdl hs hsv'
      obtain ⟨d, hd⟩ : ∃ d, d = docs[i] := ⟨_, rfl⟩
      rw [← hd] at hh
      have HH := Aside0.mk hh
      clear hh hsv' hd hsa hsb hdl hsv hat hi HL HGD
      obtain ⟨wz, rfl⟩ : ∃ wz : World, wz = wc := ⟨_, rfl⟩
      have AB' := Aside0.mk AB.out
      have BB' := Aside0.mk BB.out
      unfold pc at AB' BB'
      go_upto_region 7 with (first | (refine wpList_load_row rfl 43 _ rfl w.heap.size rfl 43 _ (0, 0) _ AB'.out hu43 rfl (by kernel_rfl) ?_) | (refine wpList_load_row rfl 43 _ rfl (w.heap.size + 1) rfl 43 _ (0, 0) _ BB'.out hu43 rfl (by kernel_rfl) ?_) | (refine wpList_store_event rfl rfl 43 _ _ rfl (wz.heap.size + 1) (pc (nodeP 0 [a, b]) (some ⟨wz.heap.size, 0, none⟩) 2) rfl rfl 43 _ (heap2 wz _ _) (by kernel_rfl) rfl (pc_one _ _ _) ?_; intro w4 c4 o4 b4))
      have HBZ := Aside0.mk ((below_alloc (below_alloc (Below.refl wz.heap.size wz) _) _).trans (b4.mono (Nat.le_succ _)))
      have N4 : Aside0 (w4.heap[wz.heap.size]? = some (.cells (pc2 a b A n A' n') 43 (0, 0))) := ⟨(o4 wz.heap.size (Nat.ne_of_lt (Nat.lt_succ_self _))).trans (heap1 wz _ _)⟩
      have ALL4 := Aside0.mk c4
      have HW4 := Aside0.mk (HW.out.trans (HBZ.out.mono HW.out.size))
      have AB4 := Aside0.mk (blk_below AB.out HBZ.out)
      have BB4 := Aside0.mk (blk_below BB.out HBZ.out)
      clear c4 o4 b4
      obtain ⟨Bl, hBl⟩ : ∃ Bl, Bl = wz.heap.size := ⟨_, rfl⟩
      rw [← hBl] at N4 ALL4 ⊢
      clear hBl AB' BB' AB BB HW HBZ
      have AB4' := Aside0.mk AB4.out
      have BB4' := Aside0.mk BB4.out
      unfold pc at AB4' BB4'
      go_upto_region 8 with (first | (refine wpList_load_row rfl 43 _ rfl w.heap.size rfl 43 _ (0, 0) _ AB4'.out hu43 rfl (by kernel_rfl) ?_) | (refine wpList_load_row rfl 43 _ rfl (w.heap.size + 1) rfl 43 _ (0, 0) _ BB4'.out hu43 rfl (by kernel_rfl) ?_) | (refine wpList_store_event rfl rfl 43 _ _ rfl (w4.heap.size + 1) (pc (nodeP 1 [a, b]) (some ⟨w4.heap.size, 0, none⟩) 2) rfl rfl 43 _ (heap2 w4 _ _) (by kernel_rfl) rfl (pc_one _ _ _) ?_; intro w5 c5 o5 b5))
      have HBZ := Aside0.mk ((below_alloc (below_alloc (Below.refl w4.heap.size w4) _) _).trans (b5.mono (Nat.le_succ _)))
      have M5 : Aside0 (w5.heap[w4.heap.size]? = some (.cells (pc2 a b A n A' n') 43 (0, 0))) := ⟨(o5 w4.heap.size (Nat.ne_of_lt (Nat.lt_succ_self _))).trans (heap1 w4 _ _)⟩
      have ANY5 := Aside0.mk c5
      have HW5 := Aside0.mk (HW4.out.trans (HBZ.out.mono HW4.out.size))
      have AB5 := Aside0.mk (blk_below AB4.out HBZ.out)
      have BB5 := Aside0.mk (blk_below BB4.out HBZ.out)
      have N5 := Aside0.mk (blk_below N4.out HBZ.out)
      have ALL5 := Aside0.mk (blk_below ALL4.out HBZ.out)
      clear c5 o5 b5
      obtain ⟨Bk, hBk⟩ : ∃ Bk, Bk = w4.heap.size := ⟨_, rfl⟩
      rw [← hBk] at M5 ANY5 ⊢
      clear hBk AB4' BB4' AB4 BB4 HW4 HBZ N4 ALL4
      have HR2 := Aside0.mk (show ∀ p, 0 ≤ ruleP docs d p ∧ ruleP docs d p ≤ 2 from ruleP_02 docs d)
      refine start_ (n := 10) (S := fun w' => Below w5.heap.size w5 w') (ds := []) #[false, false, false, false, false, false, false, false, false, false] (by kernel_rfl) rfl rfl (below_drew1 (Below.refl _ _)) (fun hHeld => ?_)
      have HS6 := Aside0.mk (below_drew1 (Below.refl w5.heap.size w5))
      generalize w5.drew = w6 at HS6 hHeld ⊢
      refine pure_ (i := 1) (N := some 49) (v := ?_) (a' := ?_) #[false, true, false, false, false, false, false, false, false, false] rfl rfl (by kernel_rfl) (fun _ _ _ h => h) (Or.inl ⟨by rfl, ?_⟩) ?_ ?_
      rotate_left
      · intro w'
        go_simp
        with_reducible rfl
      rotate_left
      · simp only [Act.put, List.setIfInBounds_toArray, List.set_cons_zero, List.set_cons_succ, i64_w, i32_w]
        rfl
      refine pure_ (i := 2) (N := some 50) (v := ?_) (a' := ?_) #[false, true, true, false, false, false, false, false, false, false] rfl rfl (by kernel_rfl) (fun _ _ _ h => h) (Or.inl ⟨by rfl, ?_⟩) ?_ ?_
      rotate_left
      · intro w'
        go_simp
        with_reducible rfl
      rotate_left
      · simp only [Act.put, List.setIfInBounds_toArray, List.set_cons_zero, List.set_cons_succ, i64_w, i32_w]
        rfl
      refine pure_ (i := 5) (N := some 53) (v := ?_) (a' := ?_) #[false, true, true, false, false, true, false, false, false, false] rfl rfl (by kernel_rfl) (fun _ _ _ h => h) (Or.inl ⟨by rfl, ?_⟩) ?_ ?_
      rotate_left
      · intro w'
        go_simp
        with_reducible rfl
      rotate_left
      · simp only [Act.put, List.setIfInBounds_toArray, List.set_cons_zero, List.set_cons_succ, i64_w, i32_w]
        rfl
      refine pure_ (i := 6) (N := some 54) (v := ?_) (a' := ?_) #[false, true, true, false, false, true, true, false, false, false] rfl rfl (by kernel_rfl) (fun _ _ _ h => h) (Or.inl ⟨by rfl, ?_⟩) ?_ ?_
      rotate_left
      · intro w'
        go_simp
        with_reducible rfl
      rotate_left
      · simp only [Act.put, List.setIfInBounds_toArray, List.set_cons_zero, List.set_cons_succ, i64_w, i32_w]
        rfl
      refine take_ (i := 0) (N := some 48) (v := .agg (pc a A n)) (a' := ?_) #[true, true, true, false, false, true, true, false, false, false] rfl rfl (by kernel_rfl) (fun _ _ _ h => h) (Or.inl ⟨by rfl, fun w' hs => ldRow 43 _ rfl w.heap.size rfl 43 _ (0, 0) _ (blk_below AB5.out hs) hu43 rfl (by kernel_rfl)⟩) hHeld ?_ ?_
      rotate_left
      · simp only [Act.put, List.setIfInBounds_toArray, List.set_cons_zero, List.set_cons_succ, i64_w, i32_w]
        rfl
      refine take_ (i := 4) (N := some 52) (v := .agg (pc b A' n')) (a' := ?_) #[true, true, true, false, true, true, true, false, false, false] rfl rfl (by kernel_rfl) (fun _ _ _ h => h) (Or.inl ⟨by rfl, fun w' hs => ldRow 43 _ rfl (w.heap.size + 1) rfl 43 _ (0, 0) _ (blk_below BB5.out hs) hu43 rfl (by kernel_rfl)⟩) hHeld ?_ ?_
      rotate_left
      · simp only [Act.put, List.setIfInBounds_toArray, List.set_cons_zero, List.set_cons_succ, i64_w, i32_w]
        rfl
      refine one_ (i := 3) (N := some 51) #[true, true, true, true, true, true, true, false, false, false] rfl rfl (by kernel_rfl) (by decide) (fun K hK => ?_)
      refine goes_ Tryd.func23 (by kernel_rfl) rfl #[.agg (pc a A n), .slice A1 docs.length n1, .int .i64 i] (by rfl) rfl rfl (by simp only [List.map_toArray, List.map_cons, List.map_nil]; rfl) ?_
      refine (HH.out a A n w6 (HW5.out.trans (HS6.out.mono HW5.out.size)) (Kd.C_below HA.out (HW5.out.trans (HS6.out.mono HW5.out.size))) HAN.out (by have := HSA.out; omega)).mono ?_
      rintro e w7 ⟨rfl, hb7⟩
      refine ⟨_, rfl, ?_⟩
      have HS7 := Aside0.mk (HS6.out.trans (hb7.mono HS6.out.size))
      clear hb7
      refine hK.out _ _ HS7.out (fun hHeld => ?_)
      clear hK K
      refine norm_ (a' := ?_) ?_ ?_
      rotate_left
      · show Act.put _ (some 51) _ = _
        simp only [Act.put, List.setIfInBounds_toArray, List.set_cons_zero, List.set_cons_succ, i64_w, i32_w]
        rfl
      refine one_ (i := 7) (N := some 55) #[true, true, true, true, true, true, true, true, false, false] rfl rfl (by kernel_rfl) (by decide) (fun K hK => ?_)
      refine goes_ Tryd.func23 (by kernel_rfl) rfl #[.agg (pc b A' n'), .slice A1 docs.length n1, .int .i64 i] (by rfl) rfl rfl (by simp only [List.map_toArray, List.map_cons, List.map_nil]; rfl) ?_
      refine (HH.out b A' n' w7 (HW5.out.trans (HS7.out.mono HW5.out.size)) (Kd.C_below HB.out (HW5.out.trans (HS7.out.mono HW5.out.size))) HBN.out (by have := HSB.out; omega)).mono ?_
      rintro e w8 ⟨rfl, hb8⟩
      refine ⟨_, rfl, ?_⟩
      have HS8 := Aside0.mk (HS7.out.trans (hb8.mono HS7.out.size))
      clear hb8
      refine hK.out _ _ HS8.out (fun hHeld => ?_)
      clear hK K
      refine norm_ (a' := ?_) ?_ ?_
      rotate_left
      · show Act.put _ (some 55) _ = _
        simp only [Act.put, List.setIfInBounds_toArray, List.set_cons_zero, List.set_cons_succ, i64_w, i32_w]
        rfl
      refine pure_ (i := 8) (N := some 12) (v := ?_) (a' := ?_) #[true, true, true, true, true, true, true, true, true, false] rfl rfl (by kernel_rfl) (fun _ _ _ h => h) (Or.inl ⟨by rfl, ?_⟩) ?_ ?_
      rotate_left
      · intro w'
        go_simp
        with_reducible rfl
      rotate_left
      · simp only [Act.put, List.setIfInBounds_toArray, List.set_cons_zero, List.set_cons_succ, i64_w, i32_w]
        rfl
      refine pure_ (i := 9) (N := some 13) (v := ?_) (a' := ?_) #[true, true, true, true, true, true, true, true, true, true] rfl rfl (by kernel_rfl) (fun _ _ _ h => h) (Or.inl ⟨by rfl, ?_⟩) ?_ ?_
      rotate_left
      · intro w'
        go_simp
        with_reducible rfl
      rotate_left
      · simp only [Act.put, List.setIfInBounds_toArray, List.set_cons_zero, List.set_cons_succ, i64_w, i32_w]
        rfl
      refine done_ (by kernel_rfl) ?_
      have HW8 := Aside0.mk (HW5.out.trans (HS8.out.mono HW5.out.size))
      have AB8 := Aside0.mk (blk_below AB5.out HS8.out)
      have BB8 := Aside0.mk (blk_below BB5.out HS8.out)
      have N8 := Aside0.mk (blk_below N5.out HS8.out)
      have ALL8 := Aside0.mk (blk_below ALL5.out HS8.out)
      have M8 := Aside0.mk (blk_below M5.out HS8.out)
      have ANY8 := Aside0.mk (blk_below ANY5.out HS8.out)
      clear AB5 BB5 N5 ALL5 M5 ANY5 HS6 HS7 HS8 HW5
      go_upto_region 9 with (fail)
      have hr02 := HR2.out a
      have hs02 := HR2.out b
      generalize hx : ruleP docs d a = x at hr02 ⊢
      generalize hy : ruleP docs d b = y at hs02 ⊢
      have HX := Aside0.mk hx
      have HY := Aside0.mk hy
      obtain ⟨x0, x2⟩ := hr02
      obtain ⟨y0, y2⟩ := hs02
      have kx0 : decide (x < 0) = false := decide_eq_false (by omega)
      have kx2 : decide (2 < x) = false := decide_eq_false (by omega)
      clear hx hy
      have AB8' := Aside0.mk AB8.out
      unfold pc at AB8'
      go_wp2_with (refine wpList_load_rowG (by rfl) 43 _ rfl w.heap.size rfl 43 _ (0, 0) _ AB8'.out hu43 rfl (by kernel_rfl) ?_)
      refine (not22 _ _ _ _).mono ?_
      rintro e w9 ⟨rfl, hb9⟩
      have HS9 := Aside0.mk ((below_alloc (Below.refl w8.heap.size w8) (.cells (pc a A n) 43)).trans (hb9.mono (by simp)))
      have P9 : Aside0 (w9.heap[w8.heap.size]? = some (.cells (pc a A n) 43 (0, 0))) := ⟨blk_below (heap_alloc_new w8 (.cells (pc a A n) 43)) hb9⟩
      clear hb9
      go_wp2_with fail
      refine (not22 _ _ _ _).mono ?_
      rintro e wa ⟨rfl, hba⟩
      have HSa := Aside0.mk ((below_alloc (Below.refl w9.heap.size w9) (.cells (pc (nodeP 2 [a]) (some ⟨w8.heap.size, 0, none⟩) 1) 43)).trans (hba.mono (by simp)))
      have Pa : Aside0 (wa.heap[w9.heap.size]? = some (.cells (pc (nodeP 2 [a]) (some ⟨w8.heap.size, 0, none⟩) 1) 43 (0, 0))) := ⟨blk_below (heap_alloc_new w9 (.cells (pc (nodeP 2 [a]) (some ⟨w8.heap.size, 0, none⟩) 1) 43)) hba⟩
      clear hba
      have HWa := Aside0.mk ((HW8.out.trans (HS9.out.mono HW8.out.size)).trans (HSa.out.mono (Nat.le_trans HW8.out.size HS9.out.size)))
      have CA1 := Aside0.mk (C43_one (p := nodeP 2 [a]) Pa.out (Nat.le_refl _) (C43_one (blk_below P9.out HSa.out) HAN.out (Kd.C_below HA.out HWa.out)))
      have H1 := HH.out (nodeP 2 [nodeP 2 [a]]) (some ⟨w9.heap.size, 0, none⟩) 1 wa HWa.out CA1.out (Nat.le_refl _) (by rw [sz_node1, sz_node1]; have := HSA.out; omega)
      rw [turn_not, turn_not, HX.out, show 2 - (2 - x) = x by omega] at H1
      have H1' := Aside0.mk H1
      clear H1
      go_wp2_with fail
      refine H1'.out.mono ?_
      rintro e wb ⟨rfl, hbb⟩
      have HSb := Aside0.mk ((HS9.out.trans (HSa.out.mono HS9.out.size)).trans (hbb.mono (Nat.le_trans HS9.out.size HSa.out.size)))
      have HWb := Aside0.mk (HW8.out.trans (HSb.out.mono HW8.out.size))
      have ABb := Aside0.mk (blk_below AB8.out HSb.out)
      have BBb := Aside0.mk (blk_below BB8.out HSb.out)
      have Nb := Aside0.mk (blk_below N8.out HSb.out)
      have ALLb := Aside0.mk (blk_below ALL8.out HSb.out)
      have Mb := Aside0.mk (blk_below M8.out HSb.out)
      have ANYb := Aside0.mk (blk_below ANY8.out HSb.out)
      have ABb' := Aside0.mk ABb.out
      unfold pc at ABb'
      clear AB8 AB8' BB8 N8 ALL8 M8 ANY8 H1' CA1 P9 Pa HS9 HSa HWa hbb HSb HW8
      go_wp2_with (refine wpList_load_rowG (by rfl) 43 _ rfl w.heap.size rfl 43 _ (0, 0) _ ABb'.out hu43 rfl (by kernel_rfl) ?_)
      refine (not22 _ _ _ _).mono ?_
      rintro e wc ⟨rfl, hbc⟩
      have HSc := Aside0.mk ((below_alloc (Below.refl wb.heap.size wb) (.cells (pc a A n) 43)).trans (hbc.mono (by simp)))
      have Pc : Aside0 (wc.heap[wb.heap.size]? = some (.cells (pc a A n) 43 (0, 0))) := ⟨blk_below (heap_alloc_new wb (.cells (pc a A n) 43)) hbc⟩
      clear hbc
      have HWc := Aside0.mk (HWb.out.trans (HSc.out.mono HWb.out.size))
      have H2 := HH.out (nodeP 2 [a]) (some ⟨wb.heap.size, 0, none⟩) 1 wc HWc.out (C43_one Pc.out HAN.out (Kd.C_below HA.out HWc.out)) (Nat.le_refl _) (by rw [sz_node1]; have := HSA.out; omega)
      rw [turn_not, HX.out] at H2
      have H2' := Aside0.mk H2
      clear H2
      go_wp2_with fail
      refine H2'.out.mono ?_
      rintro e wd ⟨rfl, hbd⟩
      have HSd := Aside0.mk (HSc.out.trans (hbd.mono HSc.out.size))
      have HWd := Aside0.mk (HWb.out.trans (HSd.out.mono HWb.out.size))
      have ABd := Aside0.mk (blk_below ABb.out HSd.out)
      have BBd := Aside0.mk (blk_below BBb.out HSd.out)
      have Nd := Aside0.mk (blk_below Nb.out HSd.out)
      have ALLd := Aside0.mk (blk_below ALLb.out HSd.out)
      have Md := Aside0.mk (blk_below Mb.out HSd.out)
      have ANYd := Aside0.mk (blk_below ANYb.out HSd.out)
      clear ABb ABb' BBb Nb ALLb Mb ANYb H2' Pc HSc HWc hbd HSd HWb
      go_upto_region 11 with (fail)
      go_cut [105] (fun v wx => v = .bool false ∧ Aside0 (Below w.heap.size w wx) ∧ Aside0 (wx.heap[w.heap.size]? = some (.cells (pc a A n) 43 (0, 0))) ∧ Aside0 (wx.heap[w.heap.size + 1]? = some (.cells (pc b A' n') 43 (0, 0))) ∧ Aside0 (wx.heap[Bl]? = some (.cells (pc2 a b A n A' n') 43 (0, 0))) ∧ Aside0 (wx.heap[Bl + 1]? = some (.cells (pc (nodeP 0 [a, b]) (some ⟨Bl, 0, none⟩) 2) 43 (0, 0))))
      case first =>
        have ALLd' := Aside0.mk ALLd.out
        unfold pc nodeP at ALLd'
        simp only at ALLd'
        have H3 := Aside0.mk (HH.out (nodeP 0 [a, b]) (some ⟨Bl, 0, none⟩) 2 wd HWd.out (C43_two Nd.out HAN.out (Kd.C_below HA.out HWd.out) HBN.out (Kd.C_below HB.out HWd.out)) (Nat.le_refl _) (by rw [sz_node2]; have := HSA.out; have := HSB.out; omega))
        have H4 := Aside0.mk (fun we (hbe : Below wd.heap.size wd we) => HH.out (nodeP 1 [a, b]) (some ⟨Bk, 0, none⟩) 2 we (HWd.out.trans (hbe.mono HWd.out.size)) (C43_two (blk_below Md.out hbe) HAN.out (Kd.C_below HA.out (HWd.out.trans (hbe.mono HWd.out.size))) HBN.out (Kd.C_below HB.out (HWd.out.trans (hbe.mono HWd.out.size)))) (Nat.le_refl _) (by rw [sz_node2]; have := HSA.out; have := HSB.out; omega))
        rw [turn_all, HX.out, HY.out] at H3
        rw [turn_any, HX.out, HY.out] at H4
        by_cases hxy : x < y
        · have hyx : ¬ y < x := by omega
          rw [show max x y = y by omega] at H3
          rw [show min x y = x by omega] at H4
          go_wp2_with (first | (refine wpList_load_row rfl 43 _ rfl (Bl + 1) rfl 43 _ (0, 0) _ ALLd'.out hu43 rfl (by kernel_rfl) ?_))
          refine H3.out.mono ?_
          rintro e we ⟨rfl, hbe⟩
          have HBE := Aside0.mk hbe
          have v0 : we.cell? ⟨Bk + 1, 0, none⟩ = some (.int .i64 1) := cell_of_blk (blk_below ANYd.out hbe) rfl
          have v1 : we.cell? ⟨Bk + 1, 1, none⟩ = some (.int .i64 0) := cell_of_blk (blk_below ANYd.out hbe) rfl
          have v2 : we.cell? ⟨Bk + 1, 2, none⟩ = some (.string ⟨#[]⟩) := cell_of_blk (blk_below ANYd.out hbe) rfl
          have v3 : we.cell? ⟨Bk + 1, 3, none⟩ = some (.string ⟨#[]⟩) := cell_of_blk (blk_below ANYd.out hbe) rfl
          have v4 : we.cell? ⟨Bk + 1, 4, none⟩ = some (.int .i64 0) := cell_of_blk (blk_below ANYd.out hbe) rfl
          have v5 : we.cell? ⟨Bk + 1, 5, none⟩ = some (.slice (some ⟨Bk, 0, none⟩) 2 2) := cell_of_blk (blk_below ANYd.out hbe) rfl
          clear hbe
          go_wp2_with fail
          clear v0 v1 v2 v3 v4 v5
          refine (H4.out we HBE.out).mono ?_
          rintro e wf ⟨rfl, hbf⟩
          have HBF := Aside0.mk (HBE.out.trans (hbf.mono HBE.out.size))
          clear hbf
          go_wp2
          go_meet
          exact ⟨rfl, ⟨HWd.out.trans (HBF.out.mono HWd.out.size)⟩, ⟨blk_below ABd.out HBF.out⟩, ⟨blk_below BBd.out HBF.out⟩, ⟨blk_below Nd.out HBF.out⟩, ⟨blk_below ALLd.out HBF.out⟩⟩
        · by_cases hyx : y < x
          · skip
            rw [show max x y = x by omega] at H3
            rw [show min x y = y by omega] at H4
            go_wp2_with (first | (refine wpList_load_row rfl 43 _ rfl (Bl + 1) rfl 43 _ (0, 0) _ ALLd'.out hu43 rfl (by kernel_rfl) ?_))
            refine H3.out.mono ?_
            rintro e we ⟨rfl, hbe⟩
            have HBE := Aside0.mk hbe
            have v0 : we.cell? ⟨Bk + 1, 0, none⟩ = some (.int .i64 1) := cell_of_blk (blk_below ANYd.out hbe) rfl
            have v1 : we.cell? ⟨Bk + 1, 1, none⟩ = some (.int .i64 0) := cell_of_blk (blk_below ANYd.out hbe) rfl
            have v2 : we.cell? ⟨Bk + 1, 2, none⟩ = some (.string ⟨#[]⟩) := cell_of_blk (blk_below ANYd.out hbe) rfl
            have v3 : we.cell? ⟨Bk + 1, 3, none⟩ = some (.string ⟨#[]⟩) := cell_of_blk (blk_below ANYd.out hbe) rfl
            have v4 : we.cell? ⟨Bk + 1, 4, none⟩ = some (.int .i64 0) := cell_of_blk (blk_below ANYd.out hbe) rfl
            have v5 : we.cell? ⟨Bk + 1, 5, none⟩ = some (.slice (some ⟨Bk, 0, none⟩) 2 2) := cell_of_blk (blk_below ANYd.out hbe) rfl
            clear hbe
            go_wp2_with fail
            clear v0 v1 v2 v3 v4 v5
            refine (H4.out we HBE.out).mono ?_
            rintro e wf ⟨rfl, hbf⟩
            have HBF := Aside0.mk (HBE.out.trans (hbf.mono HBE.out.size))
            clear hbf
            go_wp2
            go_meet
            exact ⟨rfl, ⟨HWd.out.trans (HBF.out.mono HWd.out.size)⟩, ⟨blk_below ABd.out HBF.out⟩, ⟨blk_below BBd.out HBF.out⟩, ⟨blk_below Nd.out HBF.out⟩, ⟨blk_below ALLd.out HBF.out⟩⟩
          · obtain rfl : x = y := by omega
            rw [show max x x = x by omega] at H3
            rw [show min x x = x by omega] at H4
            go_wp2_with (first | (refine wpList_load_row rfl 43 _ rfl (Bl + 1) rfl 43 _ (0, 0) _ ALLd'.out hu43 rfl (by kernel_rfl) ?_))
            refine H3.out.mono ?_
            rintro e we ⟨rfl, hbe⟩
            have HBE := Aside0.mk hbe
            have v0 : we.cell? ⟨Bk + 1, 0, none⟩ = some (.int .i64 1) := cell_of_blk (blk_below ANYd.out hbe) rfl
            have v1 : we.cell? ⟨Bk + 1, 1, none⟩ = some (.int .i64 0) := cell_of_blk (blk_below ANYd.out hbe) rfl
            have v2 : we.cell? ⟨Bk + 1, 2, none⟩ = some (.string ⟨#[]⟩) := cell_of_blk (blk_below ANYd.out hbe) rfl
            have v3 : we.cell? ⟨Bk + 1, 3, none⟩ = some (.string ⟨#[]⟩) := cell_of_blk (blk_below ANYd.out hbe) rfl
            have v4 : we.cell? ⟨Bk + 1, 4, none⟩ = some (.int .i64 0) := cell_of_blk (blk_below ANYd.out hbe) rfl
            have v5 : we.cell? ⟨Bk + 1, 5, none⟩ = some (.slice (some ⟨Bk, 0, none⟩) 2 2) := cell_of_blk (blk_below ANYd.out hbe) rfl
            clear hbe
            go_wp2_with fail
            clear v0 v1 v2 v3 v4 v5
            refine (H4.out we HBE.out).mono ?_
            rintro e wf ⟨rfl, hbf⟩
            have HBF := Aside0.mk (HBE.out.trans (hbf.mono HBE.out.size))
            clear hbf
            go_wp2
            go_meet
            exact ⟨rfl, ⟨HWd.out.trans (HBF.out.mono HWd.out.size)⟩, ⟨blk_below ABd.out HBF.out⟩, ⟨blk_below BBd.out HBF.out⟩, ⟨blk_below Nd.out HBF.out⟩, ⟨blk_below ALLd.out HBF.out⟩⟩
      case rest =>
        obtain ⟨rfl, HWf, ABf, BBf, Nf, ALLf⟩ := hcut
        clear HWd ABd BBd Nd ALLd Md ANYd
        go_upto_region 13 with (fail)
        have RW := Aside0.mk (Below.refl wc.heap.size wc)
        refine start_ (n := 40) (S := fun w' => Below wc.heap.size wc w') (ds := []) #[false, false, false, false, false, false, false, false, false, false, false, false, false, false, false, false, false, false, false, false, false, false, false, false, false, false, false, false, false, false, false, false, false, false, false, false, false, false, false, false] (by kernel_rfl) rfl rfl (below_drew1 (Below.refl _ _)) (fun hHeld => ?_)
        have HSTART := Aside0.mk (below_drew1 (Below.refl wc.heap.size wc))
        generalize wc.drew = WS at HSTART hHeld ⊢
        refine pure_ (i := 0) (N := some 106) (v := ?_) (a' := ?_) #[true, false, false, false, false, false, false, false, false, false, false, false, false, false, false, false, false, false, false, false, false, false, false, false, false, false, false, false, false, false, false, false, false, false, false, false, false, false, false, false] rfl rfl (by kernel_rfl) (fun _ _ _ h => h) (Or.inl ⟨by rfl, ?_⟩) ?_ ?_
        rotate_left
        · intro w'
          go_simp
          with_reducible rfl
        rotate_left
        · simp only [Act.put, List.setIfInBounds_toArray, List.set_cons_zero, List.set_cons_succ, i64_w, i32_w]
          rfl
        refine pure_ (i := 4) (N := some 110) (v := ?_) (a' := ?_) #[true, false, false, false, true, false, false, false, false, false, false, false, false, false, false, false, false, false, false, false, false, false, false, false, false, false, false, false, false, false, false, false, false, false, false, false, false, false, false, false] rfl rfl (by kernel_rfl) (fun _ _ _ h => h) (Or.inl ⟨by rfl, ?_⟩) ?_ ?_
        rotate_left
        · intro w'
          go_simp
          with_reducible rfl
        rotate_left
        · simp only [Act.put, List.setIfInBounds_toArray, List.set_cons_zero, List.set_cons_succ, i64_w, i32_w]
          rfl
        refine pure_ (i := 5) (N := some 111) (v := ?_) (a' := ?_) #[true, false, false, false, true, true, false, false, false, false, false, false, false, false, false, false, false, false, false, false, false, false, false, false, false, false, false, false, false, false, false, false, false, false, false, false, false, false, false, false] rfl rfl (by kernel_rfl) (fun _ _ _ h => h) (Or.inl ⟨by rfl, ?_⟩) ?_ ?_
        rotate_left
        · intro w'
          go_simp
          with_reducible rfl
        rotate_left
        · simp only [Act.put, List.setIfInBounds_toArray, List.set_cons_zero, List.set_cons_succ, i64_w, i32_w]
          rfl
        refine pure_ (i := 7) (N := some 113) (v := ?_) (a' := ?_) #[true, false, false, false, true, true, false, true, false, false, false, false, false, false, false, false, false, false, false, false, false, false, false, false, false, false, false, false, false, false, false, false, false, false, false, false, false, false, false, false] rfl rfl (by kernel_rfl) (fun _ _ _ h => h) (Or.inl ⟨by rfl, ?_⟩) ?_ ?_
        rotate_left
        · intro w'
          go_simp
          with_reducible rfl
        rotate_left
        · simp only [Act.put, List.setIfInBounds_toArray, List.set_cons_zero, List.set_cons_succ, i64_w, i32_w]
          rfl
        refine pure_ (i := 11) (N := some 117) (v := ?_) (a' := ?_) #[true, false, false, false, true, true, false, true, false, false, false, true, false, false, false, false, false, false, false, false, false, false, false, false, false, false, false, false, false, false, false, false, false, false, false, false, false, false, false, false] rfl rfl (by kernel_rfl) (fun _ _ _ h => h) (Or.inl ⟨by rfl, ?_⟩) ?_ ?_
        rotate_left
        · intro w'
          go_simp
          with_reducible rfl
        rotate_left
        · simp only [Act.put, List.setIfInBounds_toArray, List.set_cons_zero, List.set_cons_succ, i64_w, i32_w]
          rfl
        refine pure_ (i := 17) (N := some 123) (v := ?_) (a' := ?_) #[true, false, false, false, true, true, false, true, false, false, false, true, false, false, false, false, false, true, false, false, false, false, false, false, false, false, false, false, false, false, false, false, false, false, false, false, false, false, false, false] rfl rfl (by kernel_rfl) (fun _ _ _ h => h) (Or.inl ⟨by rfl, ?_⟩) ?_ ?_
        rotate_left
        · intro w'
          go_simp
          with_reducible rfl
        rotate_left
        · simp only [Act.put, List.setIfInBounds_toArray, List.set_cons_zero, List.set_cons_succ, i64_w, i32_w]
          rfl
        refine pure_ (i := 18) (N := some 124) (v := ?_) (a' := ?_) #[true, false, false, false, true, true, false, true, false, false, false, true, false, false, false, false, false, true, true, false, false, false, false, false, false, false, false, false, false, false, false, false, false, false, false, false, false, false, false, false] rfl rfl (by kernel_rfl) (fun _ _ _ h => h) (Or.inl ⟨by rfl, ?_⟩) ?_ ?_
        rotate_left
        · intro w'
          go_simp
          with_reducible rfl
        rotate_left
        · simp only [Act.put, List.setIfInBounds_toArray, List.set_cons_zero, List.set_cons_succ, i64_w, i32_w]
          rfl
        refine take_ (i := 1) (N := some 107) (v := .agg #[.int .i64 0, .int .i64 0, .string ⟨#[]⟩, .string ⟨#[]⟩, .int .i64 0, .slice (some ⟨Bl, 0, none⟩) 2 2]) (a' := ?_) #[true, true, false, false, true, true, false, true, false, false, false, true, false, false, false, false, false, true, true, false, false, false, false, false, false, false, false, false, false, false, false, false, false, false, false, false, false, false, false, false] rfl rfl (by kernel_rfl) (fun _ _ _ h => h) (Or.inl ⟨by rfl, fun w' hs => ldRow 43 _ rfl (Bl + 1) rfl 43 _ (0, 0) _ (blk_below ALLf.out hs) hu43 rfl (by kernel_rfl)⟩) hHeld ?_ ?_
        rotate_left
        · simp only [Act.put, List.setIfInBounds_toArray, List.set_cons_zero, List.set_cons_succ, i64_w, i32_w]
          rfl
        refine take_ (i := 8) (N := some 114) (v := .agg #[.int .i64 a.f0, .int .i64 a.f1, .string a.f2, .string a.f3, .int .i64 a.f4, .slice A a.f5.length n]) (a' := ?_) #[true, true, false, false, true, true, false, true, true, false, false, true, false, false, false, false, false, true, true, false, false, false, false, false, false, false, false, false, false, false, false, false, false, false, false, false, false, false, false, false] rfl rfl (by kernel_rfl) (fun _ _ _ h => h) (Or.inl ⟨by rfl, fun w' hs => ldRow 43 _ rfl w.heap.size rfl 43 _ (0, 0) _ (blk_below ABf.out hs) hu43 rfl (by kernel_rfl)⟩) hHeld ?_ ?_
        rotate_left
        · simp only [Act.put, List.setIfInBounds_toArray, List.set_cons_zero, List.set_cons_succ, i64_w, i32_w]
          rfl
        refine take_ (i := 12) (N := some 118) (v := .agg #[.int .i64 b.f0, .int .i64 b.f1, .string b.f2, .string b.f3, .int .i64 b.f4, .slice A' b.f5.length n']) (a' := ?_) #[true, true, false, false, true, true, false, true, true, false, false, true, true, false, false, false, false, true, true, false, false, false, false, false, false, false, false, false, false, false, false, false, false, false, false, false, false, false, false, false] rfl rfl (by kernel_rfl) (fun _ _ _ h => h) (Or.inl ⟨by rfl, fun w' hs => ldRow 43 _ rfl (w.heap.size + 1) rfl 43 _ (0, 0) _ (blk_below BBf.out hs) hu43 rfl (by kernel_rfl)⟩) hHeld ?_ ?_
        rotate_left
        · simp only [Act.put, List.setIfInBounds_toArray, List.set_cons_zero, List.set_cons_succ, i64_w, i32_w]
          rfl
        have HB_ := HB
        clear RW
        refine join_ 23 #[true, true, true, true, true, true, true, true, true, true, true, true, true, true, true, false, false, true, true, false, false, false, false, false, false, false, false, false, false, false, false, false, false, false, false, false, false, false, false, false] (fun s : Nat × Nat × Nat => [(108, .slice (some ⟨s.1, 0, none⟩) 1 1), (115, .slice (some ⟨s.2.1, 0, none⟩) 1 1), (119, .slice (some ⟨s.2.2, 0, none⟩) 1 1), (109, .agg #[.int .i64 2, .int .i64 0, .string ⟨#[]⟩, .string ⟨#[]⟩, .int .i64 0, .slice (some ⟨s.1, 0, none⟩) 1 1]), (112, .int .i64 (2 - max x y)), (116, .agg #[.int .i64 2, .int .i64 0, .string ⟨#[]⟩, .string ⟨#[]⟩, .int .i64 0, .slice (some ⟨s.2.1, 0, none⟩) 1 1]), (120, .agg #[.int .i64 2, .int .i64 0, .string ⟨#[]⟩, .string ⟨#[]⟩, .int .i64 0, .slice (some ⟨s.2.2, 0, none⟩) 1 1])]) (fun s w' => Below wc.heap.size wc w' ∧ w'.heap[s.1]? = some (.cells (#[.int .i64 0, .int .i64 0, .string ⟨#[]⟩, .string ⟨#[]⟩, .int .i64 0, .slice (some ⟨Bl, 0, none⟩) 2 2]) 43 (0, 0)) ∧ w'.heap[s.2.1]? = some (.cells (#[.int .i64 a.f0, .int .i64 a.f1, .string a.f2, .string a.f3, .int .i64 a.f4, .slice A a.f5.length n]) 43 (0, 0)) ∧ w'.heap[s.2.2]? = some (.cells (#[.int .i64 b.f0, .int .i64 b.f1, .string b.f2, .string b.f3, .int .i64 b.f4, .slice A' b.f5.length n']) 43 (0, 0))) ?_ (fun hJ012_4 => ?_)
        · rintro ⟨b2, b9, b13⟩ wj ⟨hB, h2, h9, h13⟩
          simp only at h2 h9 h13
          have HB := Aside0.mk hB
          clear hB
          have Hb2 := Aside0.mk h2
          clear h2
          have Hb9 := Aside0.mk h9
          clear h9
          have Hb13 := Aside0.mk h13
          clear h13
          refine norm_ (a' := ?_) ?_ ?_
          rotate_left
          · simp only [putAll, Act.put, List.setIfInBounds_toArray, List.set_cons_zero, List.set_cons_succ]
            rfl
          refine one_ (i := 15) (N := some 121) #[true, true, true, true, true, true, true, true, true, true, true, true, true, true, true, true, false, true, true, false, false, false, false, false, false, false, false, false, false, false, false, false, false, false, false, false, false, false, false, false] rfl rfl (by kernel_rfl) (by decide) (fun K hK => ?_)
          refine lit_step (by rfl) (m := 2) (cs := #[.int .i64 2, .int .i64 0, .string ⟨#[]⟩, .string ⟨#[]⟩, .int .i64 0, .slice (some ⟨b9, 0, none⟩) 1 1, .int .i64 2, .int .i64 0, .string ⟨#[]⟩, .string ⟨#[]⟩, .int .i64 0, .slice (some ⟨b13, 0, none⟩) 1 1]) (e := 43) ?_ ?_
          · first | (go_simp; done) | (go_simp; rfl)
          intro bp _ wp hbp hBp
          have HBp := Aside0.mk (HB.out.trans (hBp.mono HB.out.size))
          have G9 := Aside0.mk (blk_below Hb9.out hBp)
          have G13 := Aside0.mk (blk_below Hb13.out hBp)
          have Gp := Aside0.mk hbp
          clear hbp hBp Hb2 Hb9 Hb13
          refine hK.out _ _ HBp.out (fun _ => ?_)
          clear hK K
          refine norm_ (a' := ?_) ?_ ?_
          rotate_left
          · show Act.put _ (some 121) _ = _
            simp only [Act.put, List.setIfInBounds_toArray, List.set_cons_zero, List.set_cons_succ]
            rfl
          refine pure_ (i := 16) (N := some 122) (v := .agg #[.int .i64 1, .int .i64 0, .string ⟨#[]⟩, .string ⟨#[]⟩, .int .i64 0, .slice (some ⟨bp, 0, none⟩) 2 2]) (a' := ?_) #[true, true, true, true, true, true, true, true, true, true, true, true, true, true, true, true, true, true, true, false, false, false, false, false, false, false, false, false, false, false, false, false, false, false, false, false, false, false, false, false] rfl rfl (by kernel_rfl) (fun _ _ _ h => h) (Or.inl ⟨by rfl, fun w' => by first | (go_simp; done) | (go_simp; rfl)⟩) ?_ ?_
          rotate_left
          · simp only [Act.put, List.setIfInBounds_toArray, List.set_cons_zero, List.set_cons_succ, i64_w, i32_w]
            rfl
          refine one_ (i := 19) (N := some 125) #[true, true, true, true, true, true, true, true, true, true, true, true, true, true, true, true, true, true, true, true, false, false, false, false, false, false, false, false, false, false, false, false, false, false, false, false, false, false, false, false] rfl rfl (by kernel_rfl) (by decide) (fun K hK => ?_)
          refine goes_ Tryd.func23 (by kernel_rfl) rfl #[.agg (pc (nodeP 1 [nodeP 2 [a], nodeP 2 [b]]) (some ⟨bp, 0, none⟩) 2), .slice A1 docs.length n1, .int .i64 i] (by rfl) rfl rfl (by simp only [List.map_toArray, List.map_cons, List.map_nil]; rfl) ?_
          have hwj := HWf.out.trans (HBp.out.mono HWf.out.size)
          have hH := HH.out (nodeP 1 [nodeP 2 [a], nodeP 2 [b]]) (some ⟨bp, 0, none⟩) 2 wp hwj (C43_two (p := nodeP 2 [a]) (q := nodeP 2 [b]) Gp.out (Nat.le_refl _) (C43_one G9.out HAN.out (Kd.C_below HA.out hwj)) (Nat.le_refl _) (C43_one G13.out HBN.out (Kd.C_below HB_.out hwj))) (Nat.le_refl _) (by rw [sz_node2, sz_node1, sz_node1]; have := HSA.out; have := HSB.out; omega)
          rw [turn_any, turn_not, turn_not, HX.out, HY.out, show min (2 - x) (2 - y) = 2 - max x y by omega] at hH
          refine hH.mono ?_
          rintro e wq ⟨rfl, hBq⟩
          clear hH hwj
          refine ⟨_, rfl, ?_⟩
          have HBq := Aside0.mk (HBp.out.trans (hBq.mono HBp.out.size))
          clear hBq Gp G9 G13
          refine hK.out _ _ HBq.out (fun hHeld => ?_)
          clear hK K
          refine norm_ (a' := ?_) ?_ ?_
          rotate_left
          · show Act.put _ (some 125) _ = _
            simp only [Act.put, List.setIfInBounds_toArray, List.set_cons_zero, List.set_cons_succ, i64_w, i32_w]
            rfl
          refine pure_ (i := 20) (N := some 126) (v := ?_) (a' := ?_) #[true, true, true, true, true, true, true, true, true, true, true, true, true, true, true, true, true, true, true, true, true, false, false, false, false, false, false, false, false, false, false, false, false, false, false, false, false, false, false, false] rfl rfl (by kernel_rfl) (fun _ _ _ h => h) (Or.inl ⟨by rfl, ?_⟩) ?_ ?_
          rotate_left
          · intro w'
            go_simp
            with_reducible rfl
          rotate_left
          · simp only [Act.put, List.setIfInBounds_toArray, List.set_cons_zero, List.set_cons_succ, i64_w, i32_w]
            rfl
          refine pure_ (i := 21) (N := some 127) (v := ?_) (a' := ?_) #[true, true, true, true, true, true, true, true, true, true, true, true, true, true, true, true, true, true, true, true, true, true, false, false, false, false, false, false, false, false, false, false, false, false, false, false, false, false, false, false] rfl rfl (by kernel_rfl) (fun _ _ _ h => h) (Or.inl ⟨by rfl, ?_⟩) ?_ ?_
          rotate_left
          · intro w'
            go_simp
            with_reducible rfl
          rotate_left
          · simp only [Act.put, List.setIfInBounds_toArray, List.set_cons_zero, List.set_cons_succ, i64_w, i32_w]
            rfl
          refine pure_ (i := 22) (N := some 128) (v := ?_) (a' := ?_) #[true, true, true, true, true, true, true, true, true, true, true, true, true, true, true, true, true, true, true, true, true, true, true, false, false, false, false, false, false, false, false, false, false, false, false, false, false, false, false, false] rfl rfl (by kernel_rfl) (fun _ _ _ h => h) (Or.inl ⟨by rfl, ?_⟩) ?_ ?_
          rotate_left
          · intro w'
            go_simp
            with_reducible rfl
          rotate_left
          · simp only [Act.put, List.setIfInBounds_toArray, List.set_cons_zero, List.set_cons_succ, i64_w, i32_w]
            rfl
          refine pure_ (i := 27) (N := some 133) (v := ?_) (a' := ?_) #[true, true, true, true, true, true, true, true, true, true, true, true, true, true, true, true, true, true, true, true, true, true, true, false, false, false, false, true, false, false, false, false, false, false, false, false, false, false, false, false] rfl rfl (by kernel_rfl) (fun _ _ _ h => h) (Or.inl ⟨by rfl, ?_⟩) ?_ ?_
          rotate_left
          · intro w'
            go_simp
            with_reducible rfl
          rotate_left
          · simp only [Act.put, List.setIfInBounds_toArray, List.set_cons_zero, List.set_cons_succ, i64_w, i32_w]
            rfl
          refine pure_ (i := 28) (N := some 134) (v := ?_) (a' := ?_) #[true, true, true, true, true, true, true, true, true, true, true, true, true, true, true, true, true, true, true, true, true, true, true, false, false, false, false, true, true, false, false, false, false, false, false, false, false, false, false, false] rfl rfl (by kernel_rfl) (fun _ _ _ h => h) (Or.inl ⟨by rfl, ?_⟩) ?_ ?_
          rotate_left
          · intro w'
            go_simp
            with_reducible rfl
          rotate_left
          · simp only [Act.put, List.setIfInBounds_toArray, List.set_cons_zero, List.set_cons_succ, i64_w, i32_w]
            rfl
          refine pure_ (i := 30) (N := some 136) (v := ?_) (a' := ?_) #[true, true, true, true, true, true, true, true, true, true, true, true, true, true, true, true, true, true, true, true, true, true, true, false, false, false, false, true, true, false, true, false, false, false, false, false, false, false, false, false] rfl rfl (by kernel_rfl) (fun _ _ _ h => h) (Or.inl ⟨by rfl, ?_⟩) ?_ ?_
          rotate_left
          · intro w'
            go_simp
            with_reducible rfl
          rotate_left
          · simp only [Act.put, List.setIfInBounds_toArray, List.set_cons_zero, List.set_cons_succ, i64_w, i32_w]
            rfl
          refine pure_ (i := 34) (N := some 140) (v := ?_) (a' := ?_) #[true, true, true, true, true, true, true, true, true, true, true, true, true, true, true, true, true, true, true, true, true, true, true, false, false, false, false, true, true, false, true, false, false, false, true, false, false, false, false, false] rfl rfl (by kernel_rfl) (fun _ _ _ h => h) (Or.inl ⟨by rfl, ?_⟩) ?_ ?_
          rotate_left
          · intro w'
            go_simp
            with_reducible rfl
          rotate_left
          · simp only [Act.put, List.setIfInBounds_toArray, List.set_cons_zero, List.set_cons_succ, i64_w, i32_w]
            rfl
          refine pure_ (i := 35) (N := some 141) (v := ?_) (a' := ?_) #[true, true, true, true, true, true, true, true, true, true, true, true, true, true, true, true, true, true, true, true, true, true, true, false, false, false, false, true, true, false, true, false, false, false, true, true, false, false, false, false] rfl rfl (by kernel_rfl) (fun _ _ _ h => h) (Or.inl ⟨by rfl, ?_⟩) ?_ ?_
          rotate_left
          · intro w'
            go_simp
            with_reducible rfl
          rotate_left
          · simp only [Act.put, List.setIfInBounds_toArray, List.set_cons_zero, List.set_cons_succ, i64_w, i32_w]
            rfl
          refine take_ (i := 23) (N := some 129) (v := .agg #[.int .i64 a.f0, .int .i64 a.f1, .string a.f2, .string a.f3, .int .i64 a.f4, .slice A a.f5.length n]) (a' := ?_) #[true, true, true, true, true, true, true, true, true, true, true, true, true, true, true, true, true, true, true, true, true, true, true, true, false, false, false, true, true, false, true, false, false, false, true, true, false, false, false, false] rfl rfl (by kernel_rfl) (fun _ _ _ h => h) (Or.inl ⟨by rfl, fun w' hs => ldRow 43 _ rfl w.heap.size rfl 43 _ (0, 0) _ (blk_below ABf.out hs) hu43 rfl (by kernel_rfl)⟩) hHeld ?_ ?_
          rotate_left
          · simp only [Act.put, List.setIfInBounds_toArray, List.set_cons_zero, List.set_cons_succ, i64_w, i32_w]
            rfl
          refine take_ (i := 24) (N := some 130) (v := .agg #[.int .i64 b.f0, .int .i64 b.f1, .string b.f2, .string b.f3, .int .i64 b.f4, .slice A' b.f5.length n']) (a' := ?_) #[true, true, true, true, true, true, true, true, true, true, true, true, true, true, true, true, true, true, true, true, true, true, true, true, true, false, false, true, true, false, true, false, false, false, true, true, false, false, false, false] rfl rfl (by kernel_rfl) (fun _ _ _ h => h) (Or.inl ⟨by rfl, fun w' hs => ldRow 43 _ rfl (w.heap.size + 1) rfl 43 _ (0, 0) _ (blk_below BBf.out hs) hu43 rfl (by kernel_rfl)⟩) hHeld ?_ ?_
          rotate_left
          · simp only [Act.put, List.setIfInBounds_toArray, List.set_cons_zero, List.set_cons_succ, i64_w, i32_w]
            rfl
          refine take_ (i := 31) (N := some 137) (v := .agg #[.int .i64 0, .int .i64 0, .string ⟨#[]⟩, .string ⟨#[]⟩, .int .i64 0, .slice (some ⟨Bl, 0, none⟩) 2 2]) (a' := ?_) #[true, true, true, true, true, true, true, true, true, true, true, true, true, true, true, true, true, true, true, true, true, true, true, true, true, false, false, true, true, false, true, true, false, false, true, true, false, false, false, false] rfl rfl (by kernel_rfl) (fun _ _ _ h => h) (Or.inl ⟨by rfl, fun w' hs => ldRow 43 _ rfl (Bl + 1) rfl 43 _ (0, 0) _ (blk_below ALLf.out hs) hu43 rfl (by kernel_rfl)⟩) hHeld ?_ ?_
          rotate_left
          · simp only [Act.put, List.setIfInBounds_toArray, List.set_cons_zero, List.set_cons_succ, i64_w, i32_w]
            rfl
          have HSTART := HBq
          clear HBp HB HBq
          refine join_ 3 #[true, true, true, true, true, true, true, true, true, true, true, true, true, true, true, true, true, true, true, true, true, true, true, true, true, true, true, true, true, true, true, true, true, true, true, true, true, false, false, false] (fun s : Nat × Nat => [(131, .slice (some ⟨s.1, 0, none⟩) 2 2), (138, .slice (some ⟨s.2, 0, none⟩) 1 1), (132, .agg #[.int .i64 2, .int .i64 0, .string ⟨#[]⟩, .string ⟨#[]⟩, .int .i64 0, .slice (some ⟨s.1, 0, none⟩) 2 2]), (135, .int .i64 (2 - max x y)), (139, .agg #[.int .i64 2, .int .i64 0, .string ⟨#[]⟩, .string ⟨#[]⟩, .int .i64 0, .slice (some ⟨s.2, 0, none⟩) 1 1]), (142, .int .i64 (2 - max x y))]) (fun s w' => Below wc.heap.size wc w' ∧ w'.heap[s.1]? = some (.cells (#[.int .i64 a.f0, .int .i64 a.f1, .string a.f2, .string a.f3, .int .i64 a.f4, .slice A a.f5.length n, .int .i64 b.f0, .int .i64 b.f1, .string b.f2, .string b.f3, .int .i64 b.f4, .slice A' b.f5.length n']) 43 (0, 0)) ∧ w'.heap[s.2]? = some (.cells (#[.int .i64 0, .int .i64 0, .string ⟨#[]⟩, .string ⟨#[]⟩, .int .i64 0, .slice (some ⟨Bl, 0, none⟩) 2 2]) 43 (0, 0))) ?_ (fun hJ01_4 => ?_)
          · rintro ⟨b25, b32⟩ wj ⟨hB, h25, h32⟩
            simp only at h25 h32
            have HB := Aside0.mk hB
            clear hB
            have Hb25 := Aside0.mk h25
            clear h25
            have Hb32 := Aside0.mk h32
            clear h32
            refine norm_ (a' := ?_) ?_ ?_
            rotate_left
            · simp only [putAll, Act.put, List.setIfInBounds_toArray, List.set_cons_zero, List.set_cons_succ]
              rfl
            refine pure_ (i := 37) (N := some 143) (v := ?_) (a' := ?_) #[true, true, true, true, true, true, true, true, true, true, true, true, true, true, true, true, true, true, true, true, true, true, true, true, true, true, true, true, true, true, true, true, true, true, true, true, true, true, false, false] rfl rfl (by kernel_rfl) (fun _ _ _ h => h) (Or.inl ⟨by rfl, ?_⟩) ?_ ?_
            rotate_left
            · intro w'
              go_simp
              with_reducible rfl
            rotate_left
            · simp only [Act.put, List.setIfInBounds_toArray, List.set_cons_zero, List.set_cons_succ, i64_w, i32_w]
              rfl
            refine pure_ (i := 38) (N := some 144) (v := ?_) (a' := ?_) #[true, true, true, true, true, true, true, true, true, true, true, true, true, true, true, true, true, true, true, true, true, true, true, true, true, true, true, true, true, true, true, true, true, true, true, true, true, true, true, false] rfl rfl (by kernel_rfl) (fun _ _ _ h => h) (Or.inl ⟨by rfl, ?_⟩) ?_ ?_
            rotate_left
            · intro w'
              go_simp
              with_reducible rfl
            rotate_left
            · simp only [Act.put, List.setIfInBounds_toArray, List.set_cons_zero, List.set_cons_succ, i64_w, i32_w]
              rfl
            refine pure_ (i := 39) (N := some 8) (v := ?_) (a' := ?_) #[true, true, true, true, true, true, true, true, true, true, true, true, true, true, true, true, true, true, true, true, true, true, true, true, true, true, true, true, true, true, true, true, true, true, true, true, true, true, true, true] rfl rfl (by kernel_rfl) (fun _ _ _ h => h) (Or.inl ⟨by rfl, ?_⟩) ?_ ?_
            rotate_left
            · intro w'
              go_simp
              with_reducible rfl
            rotate_left
            · simp only [Act.put, List.setIfInBounds_toArray, List.set_cons_zero, List.set_cons_succ, i64_w, i32_w]
              rfl
            refine done_ (by kernel_rfl) ?_
            go_wp2
            go_ret
            exact ⟨rfl, HWf.out.trans (HB.out.mono HWf.out.size)⟩
          refine join_ 4 #[true, true, true, true, true, true, true, true, true, true, true, true, true, true, true, true, true, true, true, true, true, true, true, true, true, true, true, true, true, true, true, true, true, true, true, true, false, false, false, false] (fun s : Nat × Nat => [(131, .slice (some ⟨s.1, 0, none⟩) 2 2), (138, .slice (some ⟨s.2, 0, none⟩) 1 1), (132, .agg #[.int .i64 2, .int .i64 0, .string ⟨#[]⟩, .string ⟨#[]⟩, .int .i64 0, .slice (some ⟨s.1, 0, none⟩) 2 2]), (135, .int .i64 (2 - max x y)), (139, .agg #[.int .i64 2, .int .i64 0, .string ⟨#[]⟩, .string ⟨#[]⟩, .int .i64 0, .slice (some ⟨s.2, 0, none⟩) 1 1])]) (fun s w' => Below wc.heap.size wc w' ∧ w'.heap[s.1]? = some (.cells (#[.int .i64 a.f0, .int .i64 a.f1, .string a.f2, .string a.f3, .int .i64 a.f4, .slice A a.f5.length n, .int .i64 b.f0, .int .i64 b.f1, .string b.f2, .string b.f3, .int .i64 b.f4, .slice A' b.f5.length n']) 43 (0, 0)) ∧ w'.heap[s.2]? = some (.cells (#[.int .i64 0, .int .i64 0, .string ⟨#[]⟩, .string ⟨#[]⟩, .int .i64 0, .slice (some ⟨Bl, 0, none⟩) 2 2]) 43 (0, 0))) ?_ (fun hJ01_3 => ?_)
          · rintro ⟨b25, b32⟩ wj ⟨hB, h25, h32⟩
            simp only at h25 h32
            have HB := Aside0.mk hB
            clear hB
            have Hb25 := Aside0.mk h25
            clear h25
            have Hb32 := Aside0.mk h32
            clear h32
            refine norm_ (a' := ?_) ?_ ?_
            rotate_left
            · simp only [putAll, Act.put, List.setIfInBounds_toArray, List.set_cons_zero, List.set_cons_succ]
              rfl
            refine one_ (i := 36) (N := some 142) #[true, true, true, true, true, true, true, true, true, true, true, true, true, true, true, true, true, true, true, true, true, true, true, true, true, true, true, true, true, true, true, true, true, true, true, true, true, false, false, false] rfl rfl (by kernel_rfl) (by decide) (fun K hK => ?_)
            refine goes_ Tryd.func23 (by kernel_rfl) rfl #[.agg (pc (nodeP 2 [nodeP 0 [a, b]]) (some ⟨b32, 0, none⟩) 1), .slice A1 docs.length n1, .int .i64 i] (by rfl) rfl rfl (by simp only [List.map_toArray, List.map_cons, List.map_nil]; rfl) ?_
            have hwj := HWf.out.trans (HB.out.mono HWf.out.size)
            have hH := HH.out (nodeP 2 [nodeP 0 [a, b]]) (some ⟨b32, 0, none⟩) 1 wj hwj (C43_one (p := nodeP 0 [a, b]) Hb32.out (Nat.le_refl _) (C43_two (blk_below Nf.out HB.out) HAN.out (Kd.C_below HA.out hwj) HBN.out (Kd.C_below HB_.out hwj))) (Nat.le_refl _) (by rw [sz_node1, sz_node2]; have := HSA.out; have := HSB.out; omega)
            rw [turn_not, turn_all, HX.out, HY.out] at hH
            refine hH.mono ?_
            rintro e wn ⟨rfl, hBn⟩
            clear hH hwj
            refine ⟨_, rfl, ?_⟩
            have HBn := Aside0.mk (HB.out.trans (hBn.mono HB.out.size))
            have Hn25 := Aside0.mk (blk_below Hb25.out hBn)
            have Hn32 := Aside0.mk (blk_below Hb32.out hBn)
            clear hBn
            refine hK.out _ _ HBn.out (fun _ => ?_)
            clear hK K
            refine norm_ (a' := ?_) ?_ ?_
            rotate_left
            · show Act.put _ (some 142) _ = _
              simp only [Act.put, List.setIfInBounds_toArray, List.set_cons_zero, List.set_cons_succ]
              rfl
            refine norm_ ?_ (hJ01_4 (b25, b32) wn ⟨HBn.out, Hn25.out, Hn32.out⟩)
            first | rfl | (simp only [putAll, Act.put, List.setIfInBounds_toArray, List.set_cons_zero, List.set_cons_succ]; done) | (simp only [putAll, Act.put, List.setIfInBounds_toArray, List.set_cons_zero, List.set_cons_succ]; rfl)
          refine join_ 5 #[true, true, true, true, true, true, true, true, true, true, true, true, true, true, true, true, true, true, true, true, true, true, true, true, true, true, true, true, true, true, true, true, true, false, true, true, false, false, false, false] (fun s : Nat × Nat => [(131, .slice (some ⟨s.1, 0, none⟩) 2 2), (138, .slice (some ⟨s.2, 0, none⟩) 1 1), (132, .agg #[.int .i64 2, .int .i64 0, .string ⟨#[]⟩, .string ⟨#[]⟩, .int .i64 0, .slice (some ⟨s.1, 0, none⟩) 2 2]), (135, .int .i64 (2 - max x y))]) (fun s w' => Below wc.heap.size wc w' ∧ w'.heap[s.1]? = some (.cells (#[.int .i64 a.f0, .int .i64 a.f1, .string a.f2, .string a.f3, .int .i64 a.f4, .slice A a.f5.length n, .int .i64 b.f0, .int .i64 b.f1, .string b.f2, .string b.f3, .int .i64 b.f4, .slice A' b.f5.length n']) 43 (0, 0)) ∧ w'.heap[s.2]? = some (.cells (#[.int .i64 0, .int .i64 0, .string ⟨#[]⟩, .string ⟨#[]⟩, .int .i64 0, .slice (some ⟨Bl, 0, none⟩) 2 2]) 43 (0, 0))) ?_ (fun hJ01_2 => ?_)
          · rintro ⟨b25, b32⟩ wj ⟨hB, h25, h32⟩
            simp only at h25 h32
            have HB := Aside0.mk hB
            clear hB
            have Hb25 := Aside0.mk h25
            clear h25
            have Hb32 := Aside0.mk h32
            clear h32
            refine norm_ (a' := ?_) ?_ ?_
            rotate_left
            · simp only [putAll, Act.put, List.setIfInBounds_toArray, List.set_cons_zero, List.set_cons_succ]
              rfl
            refine one_ (i := 33) (N := some 139) #[true, true, true, true, true, true, true, true, true, true, true, true, true, true, true, true, true, true, true, true, true, true, true, true, true, true, true, true, true, true, true, true, true, true, true, true, false, false, false, false] rfl rfl (by kernel_rfl) (by decide) (fun K hK => ?_)
            refine goesV_ Tryd.func22 (by kernel_rfl) rfl #[.slice (some ⟨b32, 0, none⟩) 1 1] (by rfl) rfl rfl rfl (by simp only [List.map_toArray, List.map_cons, List.map_nil]; rfl) ?_
            refine (not22 _ _ _ wj).mono ?_
            rintro e wn ⟨rfl, hBn⟩
            refine ⟨_, rfl, ?_⟩
            have HBn := Aside0.mk (HB.out.trans (hBn.mono HB.out.size))
            have Hn25 := Aside0.mk (blk_below Hb25.out hBn)
            have Hn32 := Aside0.mk (blk_below Hb32.out hBn)
            clear hBn
            refine hK.out _ _ HBn.out (fun _ => ?_)
            clear hK K
            refine norm_ (a' := ?_) ?_ ?_
            rotate_left
            · show Act.put _ (some 139) _ = _
              simp only [Act.put, List.setIfInBounds_toArray, List.set_cons_zero, List.set_cons_succ]
              rfl
            refine norm_ ?_ (hJ01_3 (b25, b32) wn ⟨HBn.out, Hn25.out, Hn32.out⟩)
            first | rfl | (simp only [putAll, Act.put, List.setIfInBounds_toArray, List.set_cons_zero, List.set_cons_succ]; done) | (simp only [putAll, Act.put, List.setIfInBounds_toArray, List.set_cons_zero, List.set_cons_succ]; rfl)
          refine join_ 6 #[true, true, true, true, true, true, true, true, true, true, true, true, true, true, true, true, true, true, true, true, true, true, true, true, true, true, true, true, true, true, true, true, false, false, true, true, false, false, false, false] (fun s : Nat × Nat => [(131, .slice (some ⟨s.1, 0, none⟩) 2 2), (132, .agg #[.int .i64 2, .int .i64 0, .string ⟨#[]⟩, .string ⟨#[]⟩, .int .i64 0, .slice (some ⟨s.1, 0, none⟩) 2 2]), (135, .int .i64 (2 - max x y))]) (fun s w' => Below wc.heap.size wc w' ∧ w'.heap[s.1]? = some (.cells (#[.int .i64 a.f0, .int .i64 a.f1, .string a.f2, .string a.f3, .int .i64 a.f4, .slice A a.f5.length n, .int .i64 b.f0, .int .i64 b.f1, .string b.f2, .string b.f3, .int .i64 b.f4, .slice A' b.f5.length n']) 43 (0, 0))) ?_ (fun hJ0_2 => ?_)
          · rintro ⟨b25, b32⟩ wj ⟨hB, h25⟩
            simp only at h25
            have HB := Aside0.mk hB
            clear hB
            have Hb25 := Aside0.mk h25
            clear h25
            refine norm_ (a' := ?_) ?_ ?_
            rotate_left
            · simp only [putAll, Act.put, List.setIfInBounds_toArray, List.set_cons_zero, List.set_cons_succ]
              rfl
            refine one_ (i := 32) (N := some 138) #[true, true, true, true, true, true, true, true, true, true, true, true, true, true, true, true, true, true, true, true, true, true, true, true, true, true, true, true, true, true, true, true, true, false, true, true, false, false, false, false] rfl rfl (by kernel_rfl) (by decide) (fun K hK => ?_)
            refine lit_step (by rfl) (m := 1) (cs := #[.int .i64 0, .int .i64 0, .string ⟨#[]⟩, .string ⟨#[]⟩, .int .i64 0, .slice (some ⟨Bl, 0, none⟩) 2 2]) (e := 43) ?_ ?_
            · first | (go_simp; done) | (go_simp; rfl)
            intro bn _ wn hbn hBn
            have HBn := Aside0.mk (HB.out.trans (hBn.mono HB.out.size))
            have Hn25 := Aside0.mk (blk_below Hb25.out hBn)
            have Hn32 := Aside0.mk hbn
            clear hbn hBn
            refine hK.out _ _ HBn.out (fun _ => ?_)
            clear hK K
            refine norm_ (a' := ?_) ?_ ?_
            rotate_left
            · show Act.put _ (some 138) _ = _
              simp only [Act.put, List.setIfInBounds_toArray, List.set_cons_zero, List.set_cons_succ]
              rfl
            refine norm_ ?_ (hJ01_2 (b25, bn) wn ⟨HBn.out, Hn25.out, Hn32.out⟩)
            first | rfl | (simp only [putAll, Act.put, List.setIfInBounds_toArray, List.set_cons_zero, List.set_cons_succ]; done) | (simp only [putAll, Act.put, List.setIfInBounds_toArray, List.set_cons_zero, List.set_cons_succ]; rfl)
          refine join_ 6 #[true, true, true, true, true, true, true, true, true, true, true, true, true, true, true, true, true, true, true, true, true, true, true, true, true, true, true, true, true, false, true, true, true, false, true, true, false, false, false, false] (fun s : Nat × Nat => [(131, .slice (some ⟨s.1, 0, none⟩) 2 2), (138, .slice (some ⟨s.2, 0, none⟩) 1 1), (132, .agg #[.int .i64 2, .int .i64 0, .string ⟨#[]⟩, .string ⟨#[]⟩, .int .i64 0, .slice (some ⟨s.1, 0, none⟩) 2 2])]) (fun s w' => Below wc.heap.size wc w' ∧ w'.heap[s.1]? = some (.cells (#[.int .i64 a.f0, .int .i64 a.f1, .string a.f2, .string a.f3, .int .i64 a.f4, .slice A a.f5.length n, .int .i64 b.f0, .int .i64 b.f1, .string b.f2, .string b.f3, .int .i64 b.f4, .slice A' b.f5.length n']) 43 (0, 0)) ∧ w'.heap[s.2]? = some (.cells (#[.int .i64 0, .int .i64 0, .string ⟨#[]⟩, .string ⟨#[]⟩, .int .i64 0, .slice (some ⟨Bl, 0, none⟩) 2 2]) 43 (0, 0))) ?_ (fun hJ01_1 => ?_)
          · rintro ⟨b25, b32⟩ wj ⟨hB, h25, h32⟩
            simp only at h25 h32
            have HB := Aside0.mk hB
            clear hB
            have Hb25 := Aside0.mk h25
            clear h25
            have Hb32 := Aside0.mk h32
            clear h32
            refine norm_ (a' := ?_) ?_ ?_
            rotate_left
            · simp only [putAll, Act.put, List.setIfInBounds_toArray, List.set_cons_zero, List.set_cons_succ]
              rfl
            refine one_ (i := 29) (N := some 135) #[true, true, true, true, true, true, true, true, true, true, true, true, true, true, true, true, true, true, true, true, true, true, true, true, true, true, true, true, true, true, true, true, true, false, true, true, false, false, false, false] rfl rfl (by kernel_rfl) (by decide) (fun K hK => ?_)
            refine goes_ Tryd.func23 (by kernel_rfl) rfl #[.agg (pc (nodeP 2 [a, b]) (some ⟨b25, 0, none⟩) 2), .slice A1 docs.length n1, .int .i64 i] (by rfl) rfl rfl (by simp only [List.map_toArray, List.map_cons, List.map_nil]; rfl) ?_
            have hwj := HWf.out.trans (HB.out.mono HWf.out.size)
            have hH := HH.out (nodeP 2 [a, b]) (some ⟨b25, 0, none⟩) 2 wj hwj (C43_two (p := a) (q := b) Hb25.out HAN.out (Kd.C_below HA.out hwj) HBN.out (Kd.C_below HB_.out hwj)) (Nat.le_refl _) (by rw [sz_node2]; have := HSA.out; have := HSB.out; omega)
            rw [turn_not2, HX.out, HY.out] at hH
            refine hH.mono ?_
            rintro e wn ⟨rfl, hBn⟩
            clear hH hwj
            refine ⟨_, rfl, ?_⟩
            have HBn := Aside0.mk (HB.out.trans (hBn.mono HB.out.size))
            have Hn25 := Aside0.mk (blk_below Hb25.out hBn)
            have Hn32 := Aside0.mk (blk_below Hb32.out hBn)
            clear hBn
            refine hK.out _ _ HBn.out (fun _ => ?_)
            clear hK K
            refine norm_ (a' := ?_) ?_ ?_
            rotate_left
            · show Act.put _ (some 135) _ = _
              simp only [Act.put, List.setIfInBounds_toArray, List.set_cons_zero, List.set_cons_succ]
              rfl
            refine norm_ ?_ (hJ01_2 (b25, b32) wn ⟨HBn.out, Hn25.out, Hn32.out⟩)
            first | rfl | (simp only [putAll, Act.put, List.setIfInBounds_toArray, List.set_cons_zero, List.set_cons_succ]; done) | (simp only [putAll, Act.put, List.setIfInBounds_toArray, List.set_cons_zero, List.set_cons_succ]; rfl)
          refine join_ 7 #[true, true, true, true, true, true, true, true, true, true, true, true, true, true, true, true, true, true, true, true, true, true, true, true, true, true, true, true, true, false, true, true, false, false, true, true, false, false, false, false] (fun s : Nat × Nat => [(131, .slice (some ⟨s.1, 0, none⟩) 2 2), (132, .agg #[.int .i64 2, .int .i64 0, .string ⟨#[]⟩, .string ⟨#[]⟩, .int .i64 0, .slice (some ⟨s.1, 0, none⟩) 2 2])]) (fun s w' => Below wc.heap.size wc w' ∧ w'.heap[s.1]? = some (.cells (#[.int .i64 a.f0, .int .i64 a.f1, .string a.f2, .string a.f3, .int .i64 a.f4, .slice A a.f5.length n, .int .i64 b.f0, .int .i64 b.f1, .string b.f2, .string b.f3, .int .i64 b.f4, .slice A' b.f5.length n']) 43 (0, 0))) ?_ (fun hJ0_1 => ?_)
          · rintro ⟨b25, b32⟩ wj ⟨hB, h25⟩
            simp only at h25
            have HB := Aside0.mk hB
            clear hB
            have Hb25 := Aside0.mk h25
            clear h25
            refine norm_ (a' := ?_) ?_ ?_
            rotate_left
            · simp only [putAll, Act.put, List.setIfInBounds_toArray, List.set_cons_zero, List.set_cons_succ]
              rfl
            refine two_ (i := 29) (j := 32) (Ni := some 135) (Nj := some 138) #[true, true, true, true, true, true, true, true, true, true, true, true, true, true, true, true, true, true, true, true, true, true, true, true, true, true, true, true, true, true, true, true, false, false, true, true, false, false, false, false] #[true, true, true, true, true, true, true, true, true, true, true, true, true, true, true, true, true, true, true, true, true, true, true, true, true, true, true, true, true, false, true, true, true, false, true, true, false, false, false, false] rfl rfl rfl rfl (by kernel_rfl) (by decide) (by decide) (fun K hK => ?_) (fun K hK => ?_)
            · skip
              refine goes_ Tryd.func23 (by kernel_rfl) rfl #[.agg (pc (nodeP 2 [a, b]) (some ⟨b25, 0, none⟩) 2), .slice A1 docs.length n1, .int .i64 i] (by rfl) rfl rfl (by simp only [List.map_toArray, List.map_cons, List.map_nil]; rfl) ?_
              have hwj := HWf.out.trans (HB.out.mono HWf.out.size)
              have hH := HH.out (nodeP 2 [a, b]) (some ⟨b25, 0, none⟩) 2 wj hwj (C43_two (p := a) (q := b) Hb25.out HAN.out (Kd.C_below HA.out hwj) HBN.out (Kd.C_below HB_.out hwj)) (Nat.le_refl _) (by rw [sz_node2]; have := HSA.out; have := HSB.out; omega)
              rw [turn_not2, HX.out, HY.out] at hH
              refine hH.mono ?_
              rintro e wn ⟨rfl, hBn⟩
              clear hH hwj
              refine ⟨_, rfl, ?_⟩
              have HBn := Aside0.mk (HB.out.trans (hBn.mono HB.out.size))
              have Hn25 := Aside0.mk (blk_below Hb25.out hBn)
              clear hBn
              refine hK.out _ _ HBn.out (fun _ => ?_)
              clear hK K
              refine norm_ (a' := ?_) ?_ ?_
              rotate_left
              · show Act.put _ (some 135) _ = _
                simp only [Act.put, List.setIfInBounds_toArray, List.set_cons_zero, List.set_cons_succ]
                rfl
              refine norm_ ?_ (hJ0_2 (b25, b32) wn ⟨HBn.out, Hn25.out⟩)
              first | rfl | (simp only [putAll, Act.put, List.setIfInBounds_toArray, List.set_cons_zero, List.set_cons_succ]; done) | (simp only [putAll, Act.put, List.setIfInBounds_toArray, List.set_cons_zero, List.set_cons_succ]; rfl)
            · skip
              refine lit_step (by rfl) (m := 1) (cs := #[.int .i64 0, .int .i64 0, .string ⟨#[]⟩, .string ⟨#[]⟩, .int .i64 0, .slice (some ⟨Bl, 0, none⟩) 2 2]) (e := 43) ?_ ?_
              · first | (go_simp; done) | (go_simp; rfl)
              intro bn _ wn hbn hBn
              have HBn := Aside0.mk (HB.out.trans (hBn.mono HB.out.size))
              have Hn25 := Aside0.mk (blk_below Hb25.out hBn)
              have Hn32 := Aside0.mk hbn
              clear hbn hBn
              refine hK.out _ _ HBn.out (fun _ => ?_)
              clear hK K
              refine norm_ (a' := ?_) ?_ ?_
              rotate_left
              · show Act.put _ (some 138) _ = _
                simp only [Act.put, List.setIfInBounds_toArray, List.set_cons_zero, List.set_cons_succ]
                rfl
              refine norm_ ?_ (hJ01_1 (b25, bn) wn ⟨HBn.out, Hn25.out, Hn32.out⟩)
              first | rfl | (simp only [putAll, Act.put, List.setIfInBounds_toArray, List.set_cons_zero, List.set_cons_succ]; done) | (simp only [putAll, Act.put, List.setIfInBounds_toArray, List.set_cons_zero, List.set_cons_succ]; rfl)
          refine join_ 7 #[true, true, true, true, true, true, true, true, true, true, true, true, true, true, true, true, true, true, true, true, true, true, true, true, true, true, false, true, true, false, true, true, true, false, true, true, false, false, false, false] (fun s : Nat × Nat => [(131, .slice (some ⟨s.1, 0, none⟩) 2 2), (138, .slice (some ⟨s.2, 0, none⟩) 1 1)]) (fun s w' => Below wc.heap.size wc w' ∧ w'.heap[s.1]? = some (.cells (#[.int .i64 a.f0, .int .i64 a.f1, .string a.f2, .string a.f3, .int .i64 a.f4, .slice A a.f5.length n, .int .i64 b.f0, .int .i64 b.f1, .string b.f2, .string b.f3, .int .i64 b.f4, .slice A' b.f5.length n']) 43 (0, 0)) ∧ w'.heap[s.2]? = some (.cells (#[.int .i64 0, .int .i64 0, .string ⟨#[]⟩, .string ⟨#[]⟩, .int .i64 0, .slice (some ⟨Bl, 0, none⟩) 2 2]) 43 (0, 0))) ?_ (fun hJ01_0 => ?_)
          · rintro ⟨b25, b32⟩ wj ⟨hB, h25, h32⟩
            simp only at h25 h32
            have HB := Aside0.mk hB
            clear hB
            have Hb25 := Aside0.mk h25
            clear h25
            have Hb32 := Aside0.mk h32
            clear h32
            refine norm_ (a' := ?_) ?_ ?_
            rotate_left
            · simp only [putAll, Act.put, List.setIfInBounds_toArray, List.set_cons_zero, List.set_cons_succ]
              rfl
            refine one_ (i := 26) (N := some 132) #[true, true, true, true, true, true, true, true, true, true, true, true, true, true, true, true, true, true, true, true, true, true, true, true, true, true, true, true, true, false, true, true, true, false, true, true, false, false, false, false] rfl rfl (by kernel_rfl) (by decide) (fun K hK => ?_)
            refine goesV_ Tryd.func22 (by kernel_rfl) rfl #[.slice (some ⟨b25, 0, none⟩) 2 2] (by rfl) rfl rfl rfl (by simp only [List.map_toArray, List.map_cons, List.map_nil]; rfl) ?_
            refine (not22 _ _ _ wj).mono ?_
            rintro e wn ⟨rfl, hBn⟩
            refine ⟨_, rfl, ?_⟩
            have HBn := Aside0.mk (HB.out.trans (hBn.mono HB.out.size))
            have Hn25 := Aside0.mk (blk_below Hb25.out hBn)
            have Hn32 := Aside0.mk (blk_below Hb32.out hBn)
            clear hBn
            refine hK.out _ _ HBn.out (fun _ => ?_)
            clear hK K
            refine norm_ (a' := ?_) ?_ ?_
            rotate_left
            · show Act.put _ (some 132) _ = _
              simp only [Act.put, List.setIfInBounds_toArray, List.set_cons_zero, List.set_cons_succ]
              rfl
            refine norm_ ?_ (hJ01_1 (b25, b32) wn ⟨HBn.out, Hn25.out, Hn32.out⟩)
            first | rfl | (simp only [putAll, Act.put, List.setIfInBounds_toArray, List.set_cons_zero, List.set_cons_succ]; done) | (simp only [putAll, Act.put, List.setIfInBounds_toArray, List.set_cons_zero, List.set_cons_succ]; rfl)
          refine join_ 8 #[true, true, true, true, true, true, true, true, true, true, true, true, true, true, true, true, true, true, true, true, true, true, true, true, true, true, false, true, true, false, true, true, false, false, true, true, false, false, false, false] (fun s : Nat × Nat => [(131, .slice (some ⟨s.1, 0, none⟩) 2 2)]) (fun s w' => Below wc.heap.size wc w' ∧ w'.heap[s.1]? = some (.cells (#[.int .i64 a.f0, .int .i64 a.f1, .string a.f2, .string a.f3, .int .i64 a.f4, .slice A a.f5.length n, .int .i64 b.f0, .int .i64 b.f1, .string b.f2, .string b.f3, .int .i64 b.f4, .slice A' b.f5.length n']) 43 (0, 0))) ?_ (fun hJ0_0 => ?_)
          · rintro ⟨b25, b32⟩ wj ⟨hB, h25⟩
            simp only at h25
            have HB := Aside0.mk hB
            clear hB
            have Hb25 := Aside0.mk h25
            clear h25
            refine norm_ (a' := ?_) ?_ ?_
            rotate_left
            · simp only [putAll, Act.put, List.setIfInBounds_toArray, List.set_cons_zero, List.set_cons_succ]
              rfl
            refine two_ (i := 26) (j := 32) (Ni := some 132) (Nj := some 138) #[true, true, true, true, true, true, true, true, true, true, true, true, true, true, true, true, true, true, true, true, true, true, true, true, true, true, true, true, true, false, true, true, false, false, true, true, false, false, false, false] #[true, true, true, true, true, true, true, true, true, true, true, true, true, true, true, true, true, true, true, true, true, true, true, true, true, true, false, true, true, false, true, true, true, false, true, true, false, false, false, false] rfl rfl rfl rfl (by kernel_rfl) (by decide) (by decide) (fun K hK => ?_) (fun K hK => ?_)
            · skip
              refine goesV_ Tryd.func22 (by kernel_rfl) rfl #[.slice (some ⟨b25, 0, none⟩) 2 2] (by rfl) rfl rfl rfl (by simp only [List.map_toArray, List.map_cons, List.map_nil]; rfl) ?_
              refine (not22 _ _ _ wj).mono ?_
              rintro e wn ⟨rfl, hBn⟩
              refine ⟨_, rfl, ?_⟩
              have HBn := Aside0.mk (HB.out.trans (hBn.mono HB.out.size))
              have Hn25 := Aside0.mk (blk_below Hb25.out hBn)
              clear hBn
              refine hK.out _ _ HBn.out (fun _ => ?_)
              clear hK K
              refine norm_ (a' := ?_) ?_ ?_
              rotate_left
              · show Act.put _ (some 132) _ = _
                simp only [Act.put, List.setIfInBounds_toArray, List.set_cons_zero, List.set_cons_succ]
                rfl
              refine norm_ ?_ (hJ0_1 (b25, b32) wn ⟨HBn.out, Hn25.out⟩)
              first | rfl | (simp only [putAll, Act.put, List.setIfInBounds_toArray, List.set_cons_zero, List.set_cons_succ]; done) | (simp only [putAll, Act.put, List.setIfInBounds_toArray, List.set_cons_zero, List.set_cons_succ]; rfl)
            · skip
              refine lit_step (by rfl) (m := 1) (cs := #[.int .i64 0, .int .i64 0, .string ⟨#[]⟩, .string ⟨#[]⟩, .int .i64 0, .slice (some ⟨Bl, 0, none⟩) 2 2]) (e := 43) ?_ ?_
              · first | (go_simp; done) | (go_simp; rfl)
              intro bn _ wn hbn hBn
              have HBn := Aside0.mk (HB.out.trans (hBn.mono HB.out.size))
              have Hn25 := Aside0.mk (blk_below Hb25.out hBn)
              have Hn32 := Aside0.mk hbn
              clear hbn hBn
              refine hK.out _ _ HBn.out (fun _ => ?_)
              clear hK K
              refine norm_ (a' := ?_) ?_ ?_
              rotate_left
              · show Act.put _ (some 138) _ = _
                simp only [Act.put, List.setIfInBounds_toArray, List.set_cons_zero, List.set_cons_succ]
                rfl
              refine norm_ ?_ (hJ01_0 (b25, bn) wn ⟨HBn.out, Hn25.out, Hn32.out⟩)
              first | rfl | (simp only [putAll, Act.put, List.setIfInBounds_toArray, List.set_cons_zero, List.set_cons_succ]; done) | (simp only [putAll, Act.put, List.setIfInBounds_toArray, List.set_cons_zero, List.set_cons_succ]; rfl)
          refine join_ 8 #[true, true, true, true, true, true, true, true, true, true, true, true, true, true, true, true, true, true, true, true, true, true, true, true, true, false, false, true, true, false, true, true, true, false, true, true, false, false, false, false] (fun s : Nat × Nat => [(138, .slice (some ⟨s.2, 0, none⟩) 1 1)]) (fun s w' => Below wc.heap.size wc w' ∧ w'.heap[s.2]? = some (.cells (#[.int .i64 0, .int .i64 0, .string ⟨#[]⟩, .string ⟨#[]⟩, .int .i64 0, .slice (some ⟨Bl, 0, none⟩) 2 2]) 43 (0, 0))) ?_ (fun hJ1_0 => ?_)
          · rintro ⟨b25, b32⟩ wj ⟨hB, h32⟩
            simp only at h32
            have HB := Aside0.mk hB
            clear hB
            have Hb32 := Aside0.mk h32
            clear h32
            refine norm_ (a' := ?_) ?_ ?_
            rotate_left
            · simp only [putAll, Act.put, List.setIfInBounds_toArray, List.set_cons_zero, List.set_cons_succ]
              rfl
            refine one_ (i := 25) (N := some 131) #[true, true, true, true, true, true, true, true, true, true, true, true, true, true, true, true, true, true, true, true, true, true, true, true, true, true, false, true, true, false, true, true, true, false, true, true, false, false, false, false] rfl rfl (by kernel_rfl) (by decide) (fun K hK => ?_)
            refine lit_step (by rfl) (m := 2) (cs := #[.int .i64 a.f0, .int .i64 a.f1, .string a.f2, .string a.f3, .int .i64 a.f4, .slice A a.f5.length n, .int .i64 b.f0, .int .i64 b.f1, .string b.f2, .string b.f3, .int .i64 b.f4, .slice A' b.f5.length n']) (e := 43) ?_ ?_
            · first | (go_simp; done) | (go_simp; rfl)
            intro bn _ wn hbn hBn
            have HBn := Aside0.mk (HB.out.trans (hBn.mono HB.out.size))
            have Hn32 := Aside0.mk (blk_below Hb32.out hBn)
            have Hn25 := Aside0.mk hbn
            clear hbn hBn
            refine hK.out _ _ HBn.out (fun _ => ?_)
            clear hK K
            refine norm_ (a' := ?_) ?_ ?_
            rotate_left
            · show Act.put _ (some 131) _ = _
              simp only [Act.put, List.setIfInBounds_toArray, List.set_cons_zero, List.set_cons_succ]
              rfl
            refine norm_ ?_ (hJ01_0 (bn, b32) wn ⟨HBn.out, Hn25.out, Hn32.out⟩)
            first | rfl | (simp only [putAll, Act.put, List.setIfInBounds_toArray, List.set_cons_zero, List.set_cons_succ]; done) | (simp only [putAll, Act.put, List.setIfInBounds_toArray, List.set_cons_zero, List.set_cons_succ]; rfl)
          have HB := Aside0.mk HSTART.out
          refine two_ (i := 25) (j := 32) (Ni := some 131) (Nj := some 138) #[true, true, true, true, true, true, true, true, true, true, true, true, true, true, true, true, true, true, true, true, true, true, true, true, true, true, false, true, true, false, true, true, false, false, true, true, false, false, false, false] #[true, true, true, true, true, true, true, true, true, true, true, true, true, true, true, true, true, true, true, true, true, true, true, true, true, false, false, true, true, false, true, true, true, false, true, true, false, false, false, false] rfl rfl rfl rfl (by kernel_rfl) (by decide) (by decide) (fun K hK => ?_) (fun K hK => ?_)
          · skip
            refine lit_step (by rfl) (m := 2) (cs := #[.int .i64 a.f0, .int .i64 a.f1, .string a.f2, .string a.f3, .int .i64 a.f4, .slice A a.f5.length n, .int .i64 b.f0, .int .i64 b.f1, .string b.f2, .string b.f3, .int .i64 b.f4, .slice A' b.f5.length n']) (e := 43) ?_ ?_
            · first | (go_simp; done) | (go_simp; rfl)
            intro bn _ wn hbn hBn
            have HBn := Aside0.mk (HB.out.trans (hBn.mono HB.out.size))
            have Hn25 := Aside0.mk hbn
            clear hbn hBn
            refine hK.out _ _ HBn.out (fun _ => ?_)
            clear hK K
            refine norm_ (a' := ?_) ?_ ?_
            rotate_left
            · show Act.put _ (some 131) _ = _
              simp only [Act.put, List.setIfInBounds_toArray, List.set_cons_zero, List.set_cons_succ]
              rfl
            refine norm_ ?_ (hJ0_0 (bn, 0) wn ⟨HBn.out, Hn25.out⟩)
            first | rfl | (simp only [putAll, Act.put, List.setIfInBounds_toArray, List.set_cons_zero, List.set_cons_succ]; done) | (simp only [putAll, Act.put, List.setIfInBounds_toArray, List.set_cons_zero, List.set_cons_succ]; rfl)
          · skip
            refine lit_step (by rfl) (m := 1) (cs := #[.int .i64 0, .int .i64 0, .string ⟨#[]⟩, .string ⟨#[]⟩, .int .i64 0, .slice (some ⟨Bl, 0, none⟩) 2 2]) (e := 43) ?_ ?_
            · first | (go_simp; done) | (go_simp; rfl)
            intro bn _ wn hbn hBn
            have HBn := Aside0.mk (HB.out.trans (hBn.mono HB.out.size))
            have Hn32 := Aside0.mk hbn
            clear hbn hBn
            refine hK.out _ _ HBn.out (fun _ => ?_)
            clear hK K
            refine norm_ (a' := ?_) ?_ ?_
            rotate_left
            · show Act.put _ (some 138) _ = _
              simp only [Act.put, List.setIfInBounds_toArray, List.set_cons_zero, List.set_cons_succ]
              rfl
            refine norm_ ?_ (hJ1_0 (0, bn) wn ⟨HBn.out, Hn32.out⟩)
            first | rfl | (simp only [putAll, Act.put, List.setIfInBounds_toArray, List.set_cons_zero, List.set_cons_succ]; done) | (simp only [putAll, Act.put, List.setIfInBounds_toArray, List.set_cons_zero, List.set_cons_succ]; rfl)
          
        refine join_ 24 #[true, true, true, true, true, true, true, true, true, true, true, true, true, true, false, false, false, true, true, false, false, false, false, false, false, false, false, false, false, false, false, false, false, false, false, false, false, false, false, false] (fun s : Nat × Nat × Nat => [(108, .slice (some ⟨s.1, 0, none⟩) 1 1), (115, .slice (some ⟨s.2.1, 0, none⟩) 1 1), (119, .slice (some ⟨s.2.2, 0, none⟩) 1 1), (109, .agg #[.int .i64 2, .int .i64 0, .string ⟨#[]⟩, .string ⟨#[]⟩, .int .i64 0, .slice (some ⟨s.1, 0, none⟩) 1 1]), (112, .int .i64 (2 - max x y)), (116, .agg #[.int .i64 2, .int .i64 0, .string ⟨#[]⟩, .string ⟨#[]⟩, .int .i64 0, .slice (some ⟨s.2.1, 0, none⟩) 1 1])]) (fun s w' => Below wc.heap.size wc w' ∧ w'.heap[s.1]? = some (.cells (#[.int .i64 0, .int .i64 0, .string ⟨#[]⟩, .string ⟨#[]⟩, .int .i64 0, .slice (some ⟨Bl, 0, none⟩) 2 2]) 43 (0, 0)) ∧ w'.heap[s.2.1]? = some (.cells (#[.int .i64 a.f0, .int .i64 a.f1, .string a.f2, .string a.f3, .int .i64 a.f4, .slice A a.f5.length n]) 43 (0, 0)) ∧ w'.heap[s.2.2]? = some (.cells (#[.int .i64 b.f0, .int .i64 b.f1, .string b.f2, .string b.f3, .int .i64 b.f4, .slice A' b.f5.length n']) 43 (0, 0))) ?_ (fun hJ012_3 => ?_)
        · rintro ⟨b2, b9, b13⟩ wj ⟨hB, h2, h9, h13⟩
          simp only at h2 h9 h13
          have HB := Aside0.mk hB
          clear hB
          have Hb2 := Aside0.mk h2
          clear h2
          have Hb9 := Aside0.mk h9
          clear h9
          have Hb13 := Aside0.mk h13
          clear h13
          refine norm_ (a' := ?_) ?_ ?_
          rotate_left
          · simp only [putAll, Act.put, List.setIfInBounds_toArray, List.set_cons_zero, List.set_cons_succ]
            rfl
          refine one_ (i := 14) (N := some 120) #[true, true, true, true, true, true, true, true, true, true, true, true, true, true, true, false, false, true, true, false, false, false, false, false, false, false, false, false, false, false, false, false, false, false, false, false, false, false, false, false] rfl rfl (by kernel_rfl) (by decide) (fun K hK => ?_)
          refine goesV_ Tryd.func22 (by kernel_rfl) rfl #[.slice (some ⟨b13, 0, none⟩) 1 1] (by rfl) rfl rfl rfl (by simp only [List.map_toArray, List.map_cons, List.map_nil]; rfl) ?_
          refine (not22 _ _ _ wj).mono ?_
          rintro e wn ⟨rfl, hBn⟩
          refine ⟨_, rfl, ?_⟩
          have HBn := Aside0.mk (HB.out.trans (hBn.mono HB.out.size))
          have Hn2 := Aside0.mk (blk_below Hb2.out hBn)
          have Hn9 := Aside0.mk (blk_below Hb9.out hBn)
          have Hn13 := Aside0.mk (blk_below Hb13.out hBn)
          clear hBn
          refine hK.out _ _ HBn.out (fun _ => ?_)
          clear hK K
          refine norm_ (a' := ?_) ?_ ?_
          rotate_left
          · show Act.put _ (some 120) _ = _
            simp only [Act.put, List.setIfInBounds_toArray, List.set_cons_zero, List.set_cons_succ]
            rfl
          refine norm_ ?_ (hJ012_4 (b2, b9, b13) wn ⟨HBn.out, Hn2.out, Hn9.out, Hn13.out⟩)
          first | rfl | (simp only [putAll, Act.put, List.setIfInBounds_toArray, List.set_cons_zero, List.set_cons_succ]; done) | (simp only [putAll, Act.put, List.setIfInBounds_toArray, List.set_cons_zero, List.set_cons_succ]; rfl)
        refine join_ 25 #[true, true, true, true, true, true, true, true, true, true, true, true, true, false, false, false, false, true, true, false, false, false, false, false, false, false, false, false, false, false, false, false, false, false, false, false, false, false, false, false] (fun s : Nat × Nat × Nat => [(108, .slice (some ⟨s.1, 0, none⟩) 1 1), (115, .slice (some ⟨s.2.1, 0, none⟩) 1 1), (109, .agg #[.int .i64 2, .int .i64 0, .string ⟨#[]⟩, .string ⟨#[]⟩, .int .i64 0, .slice (some ⟨s.1, 0, none⟩) 1 1]), (112, .int .i64 (2 - max x y)), (116, .agg #[.int .i64 2, .int .i64 0, .string ⟨#[]⟩, .string ⟨#[]⟩, .int .i64 0, .slice (some ⟨s.2.1, 0, none⟩) 1 1])]) (fun s w' => Below wc.heap.size wc w' ∧ w'.heap[s.1]? = some (.cells (#[.int .i64 0, .int .i64 0, .string ⟨#[]⟩, .string ⟨#[]⟩, .int .i64 0, .slice (some ⟨Bl, 0, none⟩) 2 2]) 43 (0, 0)) ∧ w'.heap[s.2.1]? = some (.cells (#[.int .i64 a.f0, .int .i64 a.f1, .string a.f2, .string a.f3, .int .i64 a.f4, .slice A a.f5.length n]) 43 (0, 0))) ?_ (fun hJ01_3 => ?_)
        · rintro ⟨b2, b9, b13⟩ wj ⟨hB, h2, h9⟩
          simp only at h2 h9
          have HB := Aside0.mk hB
          clear hB
          have Hb2 := Aside0.mk h2
          clear h2
          have Hb9 := Aside0.mk h9
          clear h9
          refine norm_ (a' := ?_) ?_ ?_
          rotate_left
          · simp only [putAll, Act.put, List.setIfInBounds_toArray, List.set_cons_zero, List.set_cons_succ]
            rfl
          refine one_ (i := 13) (N := some 119) #[true, true, true, true, true, true, true, true, true, true, true, true, true, true, false, false, false, true, true, false, false, false, false, false, false, false, false, false, false, false, false, false, false, false, false, false, false, false, false, false] rfl rfl (by kernel_rfl) (by decide) (fun K hK => ?_)
          refine lit_step (by rfl) (m := 1) (cs := #[.int .i64 b.f0, .int .i64 b.f1, .string b.f2, .string b.f3, .int .i64 b.f4, .slice A' b.f5.length n']) (e := 43) ?_ ?_
          · first | (go_simp; done) | (go_simp; rfl)
          intro bn _ wn hbn hBn
          have HBn := Aside0.mk (HB.out.trans (hBn.mono HB.out.size))
          have Hn2 := Aside0.mk (blk_below Hb2.out hBn)
          have Hn9 := Aside0.mk (blk_below Hb9.out hBn)
          have Hn13 := Aside0.mk hbn
          clear hbn hBn
          refine hK.out _ _ HBn.out (fun _ => ?_)
          clear hK K
          refine norm_ (a' := ?_) ?_ ?_
          rotate_left
          · show Act.put _ (some 119) _ = _
            simp only [Act.put, List.setIfInBounds_toArray, List.set_cons_zero, List.set_cons_succ]
            rfl
          refine norm_ ?_ (hJ012_3 (b2, b9, bn) wn ⟨HBn.out, Hn2.out, Hn9.out, Hn13.out⟩)
          first | rfl | (simp only [putAll, Act.put, List.setIfInBounds_toArray, List.set_cons_zero, List.set_cons_succ]; done) | (simp only [putAll, Act.put, List.setIfInBounds_toArray, List.set_cons_zero, List.set_cons_succ]; rfl)
        refine join_ 25 #[true, true, true, true, true, true, true, true, true, true, false, true, true, true, false, false, false, true, true, false, false, false, false, false, false, false, false, false, false, false, false, false, false, false, false, false, false, false, false, false] (fun s : Nat × Nat × Nat => [(108, .slice (some ⟨s.1, 0, none⟩) 1 1), (115, .slice (some ⟨s.2.1, 0, none⟩) 1 1), (119, .slice (some ⟨s.2.2, 0, none⟩) 1 1), (109, .agg #[.int .i64 2, .int .i64 0, .string ⟨#[]⟩, .string ⟨#[]⟩, .int .i64 0, .slice (some ⟨s.1, 0, none⟩) 1 1]), (112, .int .i64 (2 - max x y))]) (fun s w' => Below wc.heap.size wc w' ∧ w'.heap[s.1]? = some (.cells (#[.int .i64 0, .int .i64 0, .string ⟨#[]⟩, .string ⟨#[]⟩, .int .i64 0, .slice (some ⟨Bl, 0, none⟩) 2 2]) 43 (0, 0)) ∧ w'.heap[s.2.1]? = some (.cells (#[.int .i64 a.f0, .int .i64 a.f1, .string a.f2, .string a.f3, .int .i64 a.f4, .slice A a.f5.length n]) 43 (0, 0)) ∧ w'.heap[s.2.2]? = some (.cells (#[.int .i64 b.f0, .int .i64 b.f1, .string b.f2, .string b.f3, .int .i64 b.f4, .slice A' b.f5.length n']) 43 (0, 0))) ?_ (fun hJ012_2 => ?_)
        · rintro ⟨b2, b9, b13⟩ wj ⟨hB, h2, h9, h13⟩
          simp only at h2 h9 h13
          have HB := Aside0.mk hB
          clear hB
          have Hb2 := Aside0.mk h2
          clear h2
          have Hb9 := Aside0.mk h9
          clear h9
          have Hb13 := Aside0.mk h13
          clear h13
          refine norm_ (a' := ?_) ?_ ?_
          rotate_left
          · simp only [putAll, Act.put, List.setIfInBounds_toArray, List.set_cons_zero, List.set_cons_succ]
            rfl
          refine one_ (i := 10) (N := some 116) #[true, true, true, true, true, true, true, true, true, true, true, true, true, true, false, false, false, true, true, false, false, false, false, false, false, false, false, false, false, false, false, false, false, false, false, false, false, false, false, false] rfl rfl (by kernel_rfl) (by decide) (fun K hK => ?_)
          refine goesV_ Tryd.func22 (by kernel_rfl) rfl #[.slice (some ⟨b9, 0, none⟩) 1 1] (by rfl) rfl rfl rfl (by simp only [List.map_toArray, List.map_cons, List.map_nil]; rfl) ?_
          refine (not22 _ _ _ wj).mono ?_
          rintro e wn ⟨rfl, hBn⟩
          refine ⟨_, rfl, ?_⟩
          have HBn := Aside0.mk (HB.out.trans (hBn.mono HB.out.size))
          have Hn2 := Aside0.mk (blk_below Hb2.out hBn)
          have Hn9 := Aside0.mk (blk_below Hb9.out hBn)
          have Hn13 := Aside0.mk (blk_below Hb13.out hBn)
          clear hBn
          refine hK.out _ _ HBn.out (fun _ => ?_)
          clear hK K
          refine norm_ (a' := ?_) ?_ ?_
          rotate_left
          · show Act.put _ (some 116) _ = _
            simp only [Act.put, List.setIfInBounds_toArray, List.set_cons_zero, List.set_cons_succ]
            rfl
          refine norm_ ?_ (hJ012_3 (b2, b9, b13) wn ⟨HBn.out, Hn2.out, Hn9.out, Hn13.out⟩)
          first | rfl | (simp only [putAll, Act.put, List.setIfInBounds_toArray, List.set_cons_zero, List.set_cons_succ]; done) | (simp only [putAll, Act.put, List.setIfInBounds_toArray, List.set_cons_zero, List.set_cons_succ]; rfl)
        refine join_ 26 #[true, true, true, true, true, true, true, true, true, true, false, true, true, false, false, false, false, true, true, false, false, false, false, false, false, false, false, false, false, false, false, false, false, false, false, false, false, false, false, false] (fun s : Nat × Nat × Nat => [(108, .slice (some ⟨s.1, 0, none⟩) 1 1), (115, .slice (some ⟨s.2.1, 0, none⟩) 1 1), (109, .agg #[.int .i64 2, .int .i64 0, .string ⟨#[]⟩, .string ⟨#[]⟩, .int .i64 0, .slice (some ⟨s.1, 0, none⟩) 1 1]), (112, .int .i64 (2 - max x y))]) (fun s w' => Below wc.heap.size wc w' ∧ w'.heap[s.1]? = some (.cells (#[.int .i64 0, .int .i64 0, .string ⟨#[]⟩, .string ⟨#[]⟩, .int .i64 0, .slice (some ⟨Bl, 0, none⟩) 2 2]) 43 (0, 0)) ∧ w'.heap[s.2.1]? = some (.cells (#[.int .i64 a.f0, .int .i64 a.f1, .string a.f2, .string a.f3, .int .i64 a.f4, .slice A a.f5.length n]) 43 (0, 0))) ?_ (fun hJ01_2 => ?_)
        · rintro ⟨b2, b9, b13⟩ wj ⟨hB, h2, h9⟩
          simp only at h2 h9
          have HB := Aside0.mk hB
          clear hB
          have Hb2 := Aside0.mk h2
          clear h2
          have Hb9 := Aside0.mk h9
          clear h9
          refine norm_ (a' := ?_) ?_ ?_
          rotate_left
          · simp only [putAll, Act.put, List.setIfInBounds_toArray, List.set_cons_zero, List.set_cons_succ]
            rfl
          refine two_ (i := 10) (j := 13) (Ni := some 116) (Nj := some 119) #[true, true, true, true, true, true, true, true, true, true, true, true, true, false, false, false, false, true, true, false, false, false, false, false, false, false, false, false, false, false, false, false, false, false, false, false, false, false, false, false] #[true, true, true, true, true, true, true, true, true, true, false, true, true, true, false, false, false, true, true, false, false, false, false, false, false, false, false, false, false, false, false, false, false, false, false, false, false, false, false, false] rfl rfl rfl rfl (by kernel_rfl) (by decide) (by decide) (fun K hK => ?_) (fun K hK => ?_)
          · skip
            refine goesV_ Tryd.func22 (by kernel_rfl) rfl #[.slice (some ⟨b9, 0, none⟩) 1 1] (by rfl) rfl rfl rfl (by simp only [List.map_toArray, List.map_cons, List.map_nil]; rfl) ?_
            refine (not22 _ _ _ wj).mono ?_
            rintro e wn ⟨rfl, hBn⟩
            refine ⟨_, rfl, ?_⟩
            have HBn := Aside0.mk (HB.out.trans (hBn.mono HB.out.size))
            have Hn2 := Aside0.mk (blk_below Hb2.out hBn)
            have Hn9 := Aside0.mk (blk_below Hb9.out hBn)
            clear hBn
            refine hK.out _ _ HBn.out (fun _ => ?_)
            clear hK K
            refine norm_ (a' := ?_) ?_ ?_
            rotate_left
            · show Act.put _ (some 116) _ = _
              simp only [Act.put, List.setIfInBounds_toArray, List.set_cons_zero, List.set_cons_succ]
              rfl
            refine norm_ ?_ (hJ01_3 (b2, b9, b13) wn ⟨HBn.out, Hn2.out, Hn9.out⟩)
            first | rfl | (simp only [putAll, Act.put, List.setIfInBounds_toArray, List.set_cons_zero, List.set_cons_succ]; done) | (simp only [putAll, Act.put, List.setIfInBounds_toArray, List.set_cons_zero, List.set_cons_succ]; rfl)
          · skip
            refine lit_step (by rfl) (m := 1) (cs := #[.int .i64 b.f0, .int .i64 b.f1, .string b.f2, .string b.f3, .int .i64 b.f4, .slice A' b.f5.length n']) (e := 43) ?_ ?_
            · first | (go_simp; done) | (go_simp; rfl)
            intro bn _ wn hbn hBn
            have HBn := Aside0.mk (HB.out.trans (hBn.mono HB.out.size))
            have Hn2 := Aside0.mk (blk_below Hb2.out hBn)
            have Hn9 := Aside0.mk (blk_below Hb9.out hBn)
            have Hn13 := Aside0.mk hbn
            clear hbn hBn
            refine hK.out _ _ HBn.out (fun _ => ?_)
            clear hK K
            refine norm_ (a' := ?_) ?_ ?_
            rotate_left
            · show Act.put _ (some 119) _ = _
              simp only [Act.put, List.setIfInBounds_toArray, List.set_cons_zero, List.set_cons_succ]
              rfl
            refine norm_ ?_ (hJ012_2 (b2, b9, bn) wn ⟨HBn.out, Hn2.out, Hn9.out, Hn13.out⟩)
            first | rfl | (simp only [putAll, Act.put, List.setIfInBounds_toArray, List.set_cons_zero, List.set_cons_succ]; done) | (simp only [putAll, Act.put, List.setIfInBounds_toArray, List.set_cons_zero, List.set_cons_succ]; rfl)
        refine join_ 26 #[true, true, true, true, true, true, true, true, true, false, false, true, true, true, false, false, false, true, true, false, false, false, false, false, false, false, false, false, false, false, false, false, false, false, false, false, false, false, false, false] (fun s : Nat × Nat × Nat => [(108, .slice (some ⟨s.1, 0, none⟩) 1 1), (119, .slice (some ⟨s.2.2, 0, none⟩) 1 1), (109, .agg #[.int .i64 2, .int .i64 0, .string ⟨#[]⟩, .string ⟨#[]⟩, .int .i64 0, .slice (some ⟨s.1, 0, none⟩) 1 1]), (112, .int .i64 (2 - max x y))]) (fun s w' => Below wc.heap.size wc w' ∧ w'.heap[s.1]? = some (.cells (#[.int .i64 0, .int .i64 0, .string ⟨#[]⟩, .string ⟨#[]⟩, .int .i64 0, .slice (some ⟨Bl, 0, none⟩) 2 2]) 43 (0, 0)) ∧ w'.heap[s.2.2]? = some (.cells (#[.int .i64 b.f0, .int .i64 b.f1, .string b.f2, .string b.f3, .int .i64 b.f4, .slice A' b.f5.length n']) 43 (0, 0))) ?_ (fun hJ02_2 => ?_)
        · rintro ⟨b2, b9, b13⟩ wj ⟨hB, h2, h13⟩
          simp only at h2 h13
          have HB := Aside0.mk hB
          clear hB
          have Hb2 := Aside0.mk h2
          clear h2
          have Hb13 := Aside0.mk h13
          clear h13
          refine norm_ (a' := ?_) ?_ ?_
          rotate_left
          · simp only [putAll, Act.put, List.setIfInBounds_toArray, List.set_cons_zero, List.set_cons_succ]
            rfl
          refine one_ (i := 9) (N := some 115) #[true, true, true, true, true, true, true, true, true, true, false, true, true, true, false, false, false, true, true, false, false, false, false, false, false, false, false, false, false, false, false, false, false, false, false, false, false, false, false, false] rfl rfl (by kernel_rfl) (by decide) (fun K hK => ?_)
          refine lit_step (by rfl) (m := 1) (cs := #[.int .i64 a.f0, .int .i64 a.f1, .string a.f2, .string a.f3, .int .i64 a.f4, .slice A a.f5.length n]) (e := 43) ?_ ?_
          · first | (go_simp; done) | (go_simp; rfl)
          intro bn _ wn hbn hBn
          have HBn := Aside0.mk (HB.out.trans (hBn.mono HB.out.size))
          have Hn2 := Aside0.mk (blk_below Hb2.out hBn)
          have Hn13 := Aside0.mk (blk_below Hb13.out hBn)
          have Hn9 := Aside0.mk hbn
          clear hbn hBn
          refine hK.out _ _ HBn.out (fun _ => ?_)
          clear hK K
          refine norm_ (a' := ?_) ?_ ?_
          rotate_left
          · show Act.put _ (some 115) _ = _
            simp only [Act.put, List.setIfInBounds_toArray, List.set_cons_zero, List.set_cons_succ]
            rfl
          refine norm_ ?_ (hJ012_2 (b2, bn, b13) wn ⟨HBn.out, Hn2.out, Hn9.out, Hn13.out⟩)
          first | rfl | (simp only [putAll, Act.put, List.setIfInBounds_toArray, List.set_cons_zero, List.set_cons_succ]; done) | (simp only [putAll, Act.put, List.setIfInBounds_toArray, List.set_cons_zero, List.set_cons_succ]; rfl)
        refine join_ 26 #[true, true, true, true, true, true, false, true, true, true, false, true, true, true, false, false, false, true, true, false, false, false, false, false, false, false, false, false, false, false, false, false, false, false, false, false, false, false, false, false] (fun s : Nat × Nat × Nat => [(108, .slice (some ⟨s.1, 0, none⟩) 1 1), (115, .slice (some ⟨s.2.1, 0, none⟩) 1 1), (119, .slice (some ⟨s.2.2, 0, none⟩) 1 1), (109, .agg #[.int .i64 2, .int .i64 0, .string ⟨#[]⟩, .string ⟨#[]⟩, .int .i64 0, .slice (some ⟨s.1, 0, none⟩) 1 1])]) (fun s w' => Below wc.heap.size wc w' ∧ w'.heap[s.1]? = some (.cells (#[.int .i64 0, .int .i64 0, .string ⟨#[]⟩, .string ⟨#[]⟩, .int .i64 0, .slice (some ⟨Bl, 0, none⟩) 2 2]) 43 (0, 0)) ∧ w'.heap[s.2.1]? = some (.cells (#[.int .i64 a.f0, .int .i64 a.f1, .string a.f2, .string a.f3, .int .i64 a.f4, .slice A a.f5.length n]) 43 (0, 0)) ∧ w'.heap[s.2.2]? = some (.cells (#[.int .i64 b.f0, .int .i64 b.f1, .string b.f2, .string b.f3, .int .i64 b.f4, .slice A' b.f5.length n']) 43 (0, 0))) ?_ (fun hJ012_1 => ?_)
        · rintro ⟨b2, b9, b13⟩ wj ⟨hB, h2, h9, h13⟩
          simp only at h2 h9 h13
          have HB := Aside0.mk hB
          clear hB
          have Hb2 := Aside0.mk h2
          clear h2
          have Hb9 := Aside0.mk h9
          clear h9
          have Hb13 := Aside0.mk h13
          clear h13
          refine norm_ (a' := ?_) ?_ ?_
          rotate_left
          · simp only [putAll, Act.put, List.setIfInBounds_toArray, List.set_cons_zero, List.set_cons_succ]
            rfl
          refine one_ (i := 6) (N := some 112) #[true, true, true, true, true, true, true, true, true, true, false, true, true, true, false, false, false, true, true, false, false, false, false, false, false, false, false, false, false, false, false, false, false, false, false, false, false, false, false, false] rfl rfl (by kernel_rfl) (by decide) (fun K hK => ?_)
          refine goes_ Tryd.func23 (by kernel_rfl) rfl #[.agg (pc (nodeP 2 [nodeP 0 [a, b]]) (some ⟨b2, 0, none⟩) 1), .slice A1 docs.length n1, .int .i64 i] (by rfl) rfl rfl (by simp only [List.map_toArray, List.map_cons, List.map_nil]; rfl) ?_
          have hwj := HWf.out.trans (HB.out.mono HWf.out.size)
          have hH := HH.out (nodeP 2 [nodeP 0 [a, b]]) (some ⟨b2, 0, none⟩) 1 wj hwj (C43_one (p := nodeP 0 [a, b]) Hb2.out (Nat.le_refl _) (C43_two (blk_below Nf.out HB.out) HAN.out (Kd.C_below HA.out hwj) HBN.out (Kd.C_below HB_.out hwj))) (Nat.le_refl _) (by rw [sz_node1, sz_node2]; have := HSA.out; have := HSB.out; omega)
          rw [turn_not, turn_all, HX.out, HY.out] at hH
          refine hH.mono ?_
          rintro e wn ⟨rfl, hBn⟩
          clear hH hwj
          refine ⟨_, rfl, ?_⟩
          have HBn := Aside0.mk (HB.out.trans (hBn.mono HB.out.size))
          have Hn2 := Aside0.mk (blk_below Hb2.out hBn)
          have Hn9 := Aside0.mk (blk_below Hb9.out hBn)
          have Hn13 := Aside0.mk (blk_below Hb13.out hBn)
          clear hBn
          refine hK.out _ _ HBn.out (fun _ => ?_)
          clear hK K
          refine norm_ (a' := ?_) ?_ ?_
          rotate_left
          · show Act.put _ (some 112) _ = _
            simp only [Act.put, List.setIfInBounds_toArray, List.set_cons_zero, List.set_cons_succ]
            rfl
          refine norm_ ?_ (hJ012_2 (b2, b9, b13) wn ⟨HBn.out, Hn2.out, Hn9.out, Hn13.out⟩)
          first | rfl | (simp only [putAll, Act.put, List.setIfInBounds_toArray, List.set_cons_zero, List.set_cons_succ]; done) | (simp only [putAll, Act.put, List.setIfInBounds_toArray, List.set_cons_zero, List.set_cons_succ]; rfl)
        refine join_ 27 #[true, true, true, true, true, true, true, true, true, false, false, true, true, false, false, false, false, true, true, false, false, false, false, false, false, false, false, false, false, false, false, false, false, false, false, false, false, false, false, false] (fun s : Nat × Nat × Nat => [(108, .slice (some ⟨s.1, 0, none⟩) 1 1), (109, .agg #[.int .i64 2, .int .i64 0, .string ⟨#[]⟩, .string ⟨#[]⟩, .int .i64 0, .slice (some ⟨s.1, 0, none⟩) 1 1]), (112, .int .i64 (2 - max x y))]) (fun s w' => Below wc.heap.size wc w' ∧ w'.heap[s.1]? = some (.cells (#[.int .i64 0, .int .i64 0, .string ⟨#[]⟩, .string ⟨#[]⟩, .int .i64 0, .slice (some ⟨Bl, 0, none⟩) 2 2]) 43 (0, 0))) ?_ (fun hJ0_2 => ?_)
        · rintro ⟨b2, b9, b13⟩ wj ⟨hB, h2⟩
          simp only at h2
          have HB := Aside0.mk hB
          clear hB
          have Hb2 := Aside0.mk h2
          clear h2
          refine norm_ (a' := ?_) ?_ ?_
          rotate_left
          · simp only [putAll, Act.put, List.setIfInBounds_toArray, List.set_cons_zero, List.set_cons_succ]
            rfl
          refine two_ (i := 9) (j := 13) (Ni := some 115) (Nj := some 119) #[true, true, true, true, true, true, true, true, true, true, false, true, true, false, false, false, false, true, true, false, false, false, false, false, false, false, false, false, false, false, false, false, false, false, false, false, false, false, false, false] #[true, true, true, true, true, true, true, true, true, false, false, true, true, true, false, false, false, true, true, false, false, false, false, false, false, false, false, false, false, false, false, false, false, false, false, false, false, false, false, false] rfl rfl rfl rfl (by kernel_rfl) (by decide) (by decide) (fun K hK => ?_) (fun K hK => ?_)
          · skip
            refine lit_step (by rfl) (m := 1) (cs := #[.int .i64 a.f0, .int .i64 a.f1, .string a.f2, .string a.f3, .int .i64 a.f4, .slice A a.f5.length n]) (e := 43) ?_ ?_
            · first | (go_simp; done) | (go_simp; rfl)
            intro bn _ wn hbn hBn
            have HBn := Aside0.mk (HB.out.trans (hBn.mono HB.out.size))
            have Hn2 := Aside0.mk (blk_below Hb2.out hBn)
            have Hn9 := Aside0.mk hbn
            clear hbn hBn
            refine hK.out _ _ HBn.out (fun _ => ?_)
            clear hK K
            refine norm_ (a' := ?_) ?_ ?_
            rotate_left
            · show Act.put _ (some 115) _ = _
              simp only [Act.put, List.setIfInBounds_toArray, List.set_cons_zero, List.set_cons_succ]
              rfl
            refine norm_ ?_ (hJ01_2 (b2, bn, b13) wn ⟨HBn.out, Hn2.out, Hn9.out⟩)
            first | rfl | (simp only [putAll, Act.put, List.setIfInBounds_toArray, List.set_cons_zero, List.set_cons_succ]; done) | (simp only [putAll, Act.put, List.setIfInBounds_toArray, List.set_cons_zero, List.set_cons_succ]; rfl)
          · skip
            refine lit_step (by rfl) (m := 1) (cs := #[.int .i64 b.f0, .int .i64 b.f1, .string b.f2, .string b.f3, .int .i64 b.f4, .slice A' b.f5.length n']) (e := 43) ?_ ?_
            · first | (go_simp; done) | (go_simp; rfl)
            intro bn _ wn hbn hBn
            have HBn := Aside0.mk (HB.out.trans (hBn.mono HB.out.size))
            have Hn2 := Aside0.mk (blk_below Hb2.out hBn)
            have Hn13 := Aside0.mk hbn
            clear hbn hBn
            refine hK.out _ _ HBn.out (fun _ => ?_)
            clear hK K
            refine norm_ (a' := ?_) ?_ ?_
            rotate_left
            · show Act.put _ (some 119) _ = _
              simp only [Act.put, List.setIfInBounds_toArray, List.set_cons_zero, List.set_cons_succ]
              rfl
            refine norm_ ?_ (hJ02_2 (b2, b9, bn) wn ⟨HBn.out, Hn2.out, Hn13.out⟩)
            first | rfl | (simp only [putAll, Act.put, List.setIfInBounds_toArray, List.set_cons_zero, List.set_cons_succ]; done) | (simp only [putAll, Act.put, List.setIfInBounds_toArray, List.set_cons_zero, List.set_cons_succ]; rfl)
        refine join_ 27 #[true, true, true, true, true, true, false, true, true, true, false, true, true, false, false, false, false, true, true, false, false, false, false, false, false, false, false, false, false, false, false, false, false, false, false, false, false, false, false, false] (fun s : Nat × Nat × Nat => [(108, .slice (some ⟨s.1, 0, none⟩) 1 1), (115, .slice (some ⟨s.2.1, 0, none⟩) 1 1), (109, .agg #[.int .i64 2, .int .i64 0, .string ⟨#[]⟩, .string ⟨#[]⟩, .int .i64 0, .slice (some ⟨s.1, 0, none⟩) 1 1])]) (fun s w' => Below wc.heap.size wc w' ∧ w'.heap[s.1]? = some (.cells (#[.int .i64 0, .int .i64 0, .string ⟨#[]⟩, .string ⟨#[]⟩, .int .i64 0, .slice (some ⟨Bl, 0, none⟩) 2 2]) 43 (0, 0)) ∧ w'.heap[s.2.1]? = some (.cells (#[.int .i64 a.f0, .int .i64 a.f1, .string a.f2, .string a.f3, .int .i64 a.f4, .slice A a.f5.length n]) 43 (0, 0))) ?_ (fun hJ01_1 => ?_)
        · rintro ⟨b2, b9, b13⟩ wj ⟨hB, h2, h9⟩
          simp only at h2 h9
          have HB := Aside0.mk hB
          clear hB
          have Hb2 := Aside0.mk h2
          clear h2
          have Hb9 := Aside0.mk h9
          clear h9
          refine norm_ (a' := ?_) ?_ ?_
          rotate_left
          · simp only [putAll, Act.put, List.setIfInBounds_toArray, List.set_cons_zero, List.set_cons_succ]
            rfl
          refine two_ (i := 6) (j := 13) (Ni := some 112) (Nj := some 119) #[true, true, true, true, true, true, true, true, true, true, false, true, true, false, false, false, false, true, true, false, false, false, false, false, false, false, false, false, false, false, false, false, false, false, false, false, false, false, false, false] #[true, true, true, true, true, true, false, true, true, true, false, true, true, true, false, false, false, true, true, false, false, false, false, false, false, false, false, false, false, false, false, false, false, false, false, false, false, false, false, false] rfl rfl rfl rfl (by kernel_rfl) (by decide) (by decide) (fun K hK => ?_) (fun K hK => ?_)
          · skip
            refine goes_ Tryd.func23 (by kernel_rfl) rfl #[.agg (pc (nodeP 2 [nodeP 0 [a, b]]) (some ⟨b2, 0, none⟩) 1), .slice A1 docs.length n1, .int .i64 i] (by rfl) rfl rfl (by simp only [List.map_toArray, List.map_cons, List.map_nil]; rfl) ?_
            have hwj := HWf.out.trans (HB.out.mono HWf.out.size)
            have hH := HH.out (nodeP 2 [nodeP 0 [a, b]]) (some ⟨b2, 0, none⟩) 1 wj hwj (C43_one (p := nodeP 0 [a, b]) Hb2.out (Nat.le_refl _) (C43_two (blk_below Nf.out HB.out) HAN.out (Kd.C_below HA.out hwj) HBN.out (Kd.C_below HB_.out hwj))) (Nat.le_refl _) (by rw [sz_node1, sz_node2]; have := HSA.out; have := HSB.out; omega)
            rw [turn_not, turn_all, HX.out, HY.out] at hH
            refine hH.mono ?_
            rintro e wn ⟨rfl, hBn⟩
            clear hH hwj
            refine ⟨_, rfl, ?_⟩
            have HBn := Aside0.mk (HB.out.trans (hBn.mono HB.out.size))
            have Hn2 := Aside0.mk (blk_below Hb2.out hBn)
            have Hn9 := Aside0.mk (blk_below Hb9.out hBn)
            clear hBn
            refine hK.out _ _ HBn.out (fun _ => ?_)
            clear hK K
            refine norm_ (a' := ?_) ?_ ?_
            rotate_left
            · show Act.put _ (some 112) _ = _
              simp only [Act.put, List.setIfInBounds_toArray, List.set_cons_zero, List.set_cons_succ]
              rfl
            refine norm_ ?_ (hJ01_2 (b2, b9, b13) wn ⟨HBn.out, Hn2.out, Hn9.out⟩)
            first | rfl | (simp only [putAll, Act.put, List.setIfInBounds_toArray, List.set_cons_zero, List.set_cons_succ]; done) | (simp only [putAll, Act.put, List.setIfInBounds_toArray, List.set_cons_zero, List.set_cons_succ]; rfl)
          · skip
            refine lit_step (by rfl) (m := 1) (cs := #[.int .i64 b.f0, .int .i64 b.f1, .string b.f2, .string b.f3, .int .i64 b.f4, .slice A' b.f5.length n']) (e := 43) ?_ ?_
            · first | (go_simp; done) | (go_simp; rfl)
            intro bn _ wn hbn hBn
            have HBn := Aside0.mk (HB.out.trans (hBn.mono HB.out.size))
            have Hn2 := Aside0.mk (blk_below Hb2.out hBn)
            have Hn9 := Aside0.mk (blk_below Hb9.out hBn)
            have Hn13 := Aside0.mk hbn
            clear hbn hBn
            refine hK.out _ _ HBn.out (fun _ => ?_)
            clear hK K
            refine norm_ (a' := ?_) ?_ ?_
            rotate_left
            · show Act.put _ (some 119) _ = _
              simp only [Act.put, List.setIfInBounds_toArray, List.set_cons_zero, List.set_cons_succ]
              rfl
            refine norm_ ?_ (hJ012_1 (b2, b9, bn) wn ⟨HBn.out, Hn2.out, Hn9.out, Hn13.out⟩)
            first | rfl | (simp only [putAll, Act.put, List.setIfInBounds_toArray, List.set_cons_zero, List.set_cons_succ]; done) | (simp only [putAll, Act.put, List.setIfInBounds_toArray, List.set_cons_zero, List.set_cons_succ]; rfl)
        refine join_ 27 #[true, true, true, true, true, true, false, true, true, false, false, true, true, true, false, false, false, true, true, false, false, false, false, false, false, false, false, false, false, false, false, false, false, false, false, false, false, false, false, false] (fun s : Nat × Nat × Nat => [(108, .slice (some ⟨s.1, 0, none⟩) 1 1), (119, .slice (some ⟨s.2.2, 0, none⟩) 1 1), (109, .agg #[.int .i64 2, .int .i64 0, .string ⟨#[]⟩, .string ⟨#[]⟩, .int .i64 0, .slice (some ⟨s.1, 0, none⟩) 1 1])]) (fun s w' => Below wc.heap.size wc w' ∧ w'.heap[s.1]? = some (.cells (#[.int .i64 0, .int .i64 0, .string ⟨#[]⟩, .string ⟨#[]⟩, .int .i64 0, .slice (some ⟨Bl, 0, none⟩) 2 2]) 43 (0, 0)) ∧ w'.heap[s.2.2]? = some (.cells (#[.int .i64 b.f0, .int .i64 b.f1, .string b.f2, .string b.f3, .int .i64 b.f4, .slice A' b.f5.length n']) 43 (0, 0))) ?_ (fun hJ02_1 => ?_)
        · rintro ⟨b2, b9, b13⟩ wj ⟨hB, h2, h13⟩
          simp only at h2 h13
          have HB := Aside0.mk hB
          clear hB
          have Hb2 := Aside0.mk h2
          clear h2
          have Hb13 := Aside0.mk h13
          clear h13
          refine norm_ (a' := ?_) ?_ ?_
          rotate_left
          · simp only [putAll, Act.put, List.setIfInBounds_toArray, List.set_cons_zero, List.set_cons_succ]
            rfl
          refine two_ (i := 6) (j := 9) (Ni := some 112) (Nj := some 115) #[true, true, true, true, true, true, true, true, true, false, false, true, true, true, false, false, false, true, true, false, false, false, false, false, false, false, false, false, false, false, false, false, false, false, false, false, false, false, false, false] #[true, true, true, true, true, true, false, true, true, true, false, true, true, true, false, false, false, true, true, false, false, false, false, false, false, false, false, false, false, false, false, false, false, false, false, false, false, false, false, false] rfl rfl rfl rfl (by kernel_rfl) (by decide) (by decide) (fun K hK => ?_) (fun K hK => ?_)
          · skip
            refine goes_ Tryd.func23 (by kernel_rfl) rfl #[.agg (pc (nodeP 2 [nodeP 0 [a, b]]) (some ⟨b2, 0, none⟩) 1), .slice A1 docs.length n1, .int .i64 i] (by rfl) rfl rfl (by simp only [List.map_toArray, List.map_cons, List.map_nil]; rfl) ?_
            have hwj := HWf.out.trans (HB.out.mono HWf.out.size)
            have hH := HH.out (nodeP 2 [nodeP 0 [a, b]]) (some ⟨b2, 0, none⟩) 1 wj hwj (C43_one (p := nodeP 0 [a, b]) Hb2.out (Nat.le_refl _) (C43_two (blk_below Nf.out HB.out) HAN.out (Kd.C_below HA.out hwj) HBN.out (Kd.C_below HB_.out hwj))) (Nat.le_refl _) (by rw [sz_node1, sz_node2]; have := HSA.out; have := HSB.out; omega)
            rw [turn_not, turn_all, HX.out, HY.out] at hH
            refine hH.mono ?_
            rintro e wn ⟨rfl, hBn⟩
            clear hH hwj
            refine ⟨_, rfl, ?_⟩
            have HBn := Aside0.mk (HB.out.trans (hBn.mono HB.out.size))
            have Hn2 := Aside0.mk (blk_below Hb2.out hBn)
            have Hn13 := Aside0.mk (blk_below Hb13.out hBn)
            clear hBn
            refine hK.out _ _ HBn.out (fun _ => ?_)
            clear hK K
            refine norm_ (a' := ?_) ?_ ?_
            rotate_left
            · show Act.put _ (some 112) _ = _
              simp only [Act.put, List.setIfInBounds_toArray, List.set_cons_zero, List.set_cons_succ]
              rfl
            refine norm_ ?_ (hJ02_2 (b2, b9, b13) wn ⟨HBn.out, Hn2.out, Hn13.out⟩)
            first | rfl | (simp only [putAll, Act.put, List.setIfInBounds_toArray, List.set_cons_zero, List.set_cons_succ]; done) | (simp only [putAll, Act.put, List.setIfInBounds_toArray, List.set_cons_zero, List.set_cons_succ]; rfl)
          · skip
            refine lit_step (by rfl) (m := 1) (cs := #[.int .i64 a.f0, .int .i64 a.f1, .string a.f2, .string a.f3, .int .i64 a.f4, .slice A a.f5.length n]) (e := 43) ?_ ?_
            · first | (go_simp; done) | (go_simp; rfl)
            intro bn _ wn hbn hBn
            have HBn := Aside0.mk (HB.out.trans (hBn.mono HB.out.size))
            have Hn2 := Aside0.mk (blk_below Hb2.out hBn)
            have Hn13 := Aside0.mk (blk_below Hb13.out hBn)
            have Hn9 := Aside0.mk hbn
            clear hbn hBn
            refine hK.out _ _ HBn.out (fun _ => ?_)
            clear hK K
            refine norm_ (a' := ?_) ?_ ?_
            rotate_left
            · show Act.put _ (some 115) _ = _
              simp only [Act.put, List.setIfInBounds_toArray, List.set_cons_zero, List.set_cons_succ]
              rfl
            refine norm_ ?_ (hJ012_1 (b2, bn, b13) wn ⟨HBn.out, Hn2.out, Hn9.out, Hn13.out⟩)
            first | rfl | (simp only [putAll, Act.put, List.setIfInBounds_toArray, List.set_cons_zero, List.set_cons_succ]; done) | (simp only [putAll, Act.put, List.setIfInBounds_toArray, List.set_cons_zero, List.set_cons_succ]; rfl)
        refine join_ 27 #[true, true, true, false, true, true, false, true, true, true, false, true, true, true, false, false, false, true, true, false, false, false, false, false, false, false, false, false, false, false, false, false, false, false, false, false, false, false, false, false] (fun s : Nat × Nat × Nat => [(108, .slice (some ⟨s.1, 0, none⟩) 1 1), (115, .slice (some ⟨s.2.1, 0, none⟩) 1 1), (119, .slice (some ⟨s.2.2, 0, none⟩) 1 1)]) (fun s w' => Below wc.heap.size wc w' ∧ w'.heap[s.1]? = some (.cells (#[.int .i64 0, .int .i64 0, .string ⟨#[]⟩, .string ⟨#[]⟩, .int .i64 0, .slice (some ⟨Bl, 0, none⟩) 2 2]) 43 (0, 0)) ∧ w'.heap[s.2.1]? = some (.cells (#[.int .i64 a.f0, .int .i64 a.f1, .string a.f2, .string a.f3, .int .i64 a.f4, .slice A a.f5.length n]) 43 (0, 0)) ∧ w'.heap[s.2.2]? = some (.cells (#[.int .i64 b.f0, .int .i64 b.f1, .string b.f2, .string b.f3, .int .i64 b.f4, .slice A' b.f5.length n']) 43 (0, 0))) ?_ (fun hJ012_0 => ?_)
        · rintro ⟨b2, b9, b13⟩ wj ⟨hB, h2, h9, h13⟩
          simp only at h2 h9 h13
          have HB := Aside0.mk hB
          clear hB
          have Hb2 := Aside0.mk h2
          clear h2
          have Hb9 := Aside0.mk h9
          clear h9
          have Hb13 := Aside0.mk h13
          clear h13
          refine norm_ (a' := ?_) ?_ ?_
          rotate_left
          · simp only [putAll, Act.put, List.setIfInBounds_toArray, List.set_cons_zero, List.set_cons_succ]
            rfl
          refine one_ (i := 3) (N := some 109) #[true, true, true, true, true, true, false, true, true, true, false, true, true, true, false, false, false, true, true, false, false, false, false, false, false, false, false, false, false, false, false, false, false, false, false, false, false, false, false, false] rfl rfl (by kernel_rfl) (by decide) (fun K hK => ?_)
          refine goesV_ Tryd.func22 (by kernel_rfl) rfl #[.slice (some ⟨b2, 0, none⟩) 1 1] (by rfl) rfl rfl rfl (by simp only [List.map_toArray, List.map_cons, List.map_nil]; rfl) ?_
          refine (not22 _ _ _ wj).mono ?_
          rintro e wn ⟨rfl, hBn⟩
          refine ⟨_, rfl, ?_⟩
          have HBn := Aside0.mk (HB.out.trans (hBn.mono HB.out.size))
          have Hn2 := Aside0.mk (blk_below Hb2.out hBn)
          have Hn9 := Aside0.mk (blk_below Hb9.out hBn)
          have Hn13 := Aside0.mk (blk_below Hb13.out hBn)
          clear hBn
          refine hK.out _ _ HBn.out (fun _ => ?_)
          clear hK K
          refine norm_ (a' := ?_) ?_ ?_
          rotate_left
          · show Act.put _ (some 109) _ = _
            simp only [Act.put, List.setIfInBounds_toArray, List.set_cons_zero, List.set_cons_succ]
            rfl
          refine norm_ ?_ (hJ012_1 (b2, b9, b13) wn ⟨HBn.out, Hn2.out, Hn9.out, Hn13.out⟩)
          first | rfl | (simp only [putAll, Act.put, List.setIfInBounds_toArray, List.set_cons_zero, List.set_cons_succ]; done) | (simp only [putAll, Act.put, List.setIfInBounds_toArray, List.set_cons_zero, List.set_cons_succ]; rfl)
        refine join_ 28 #[true, true, true, true, true, true, false, true, true, false, false, true, true, false, false, false, false, true, true, false, false, false, false, false, false, false, false, false, false, false, false, false, false, false, false, false, false, false, false, false] (fun s : Nat × Nat × Nat => [(108, .slice (some ⟨s.1, 0, none⟩) 1 1), (109, .agg #[.int .i64 2, .int .i64 0, .string ⟨#[]⟩, .string ⟨#[]⟩, .int .i64 0, .slice (some ⟨s.1, 0, none⟩) 1 1])]) (fun s w' => Below wc.heap.size wc w' ∧ w'.heap[s.1]? = some (.cells (#[.int .i64 0, .int .i64 0, .string ⟨#[]⟩, .string ⟨#[]⟩, .int .i64 0, .slice (some ⟨Bl, 0, none⟩) 2 2]) 43 (0, 0))) ?_ (fun hJ0_1 => ?_)
        · rintro ⟨b2, b9, b13⟩ wj ⟨hB, h2⟩
          simp only at h2
          have HB := Aside0.mk hB
          clear hB
          have Hb2 := Aside0.mk h2
          clear h2
          refine norm_ (a' := ?_) ?_ ?_
          rotate_left
          · simp only [putAll, Act.put, List.setIfInBounds_toArray, List.set_cons_zero, List.set_cons_succ]
            rfl
          refine three_ (i := 6) (j := 9) (k := 13) (Ni := some 112) (Nj := some 115) (Nk := some 119) #[true, true, true, true, true, true, true, true, true, false, false, true, true, false, false, false, false, true, true, false, false, false, false, false, false, false, false, false, false, false, false, false, false, false, false, false, false, false, false, false] #[true, true, true, true, true, true, false, true, true, true, false, true, true, false, false, false, false, true, true, false, false, false, false, false, false, false, false, false, false, false, false, false, false, false, false, false, false, false, false, false] #[true, true, true, true, true, true, false, true, true, false, false, true, true, true, false, false, false, true, true, false, false, false, false, false, false, false, false, false, false, false, false, false, false, false, false, false, false, false, false, false] rfl rfl rfl rfl rfl rfl (by kernel_rfl) (by decide) (by decide) (by decide) (fun K hK => ?_) (fun K hK => ?_) (fun K hK => ?_)
          · skip
            refine goes_ Tryd.func23 (by kernel_rfl) rfl #[.agg (pc (nodeP 2 [nodeP 0 [a, b]]) (some ⟨b2, 0, none⟩) 1), .slice A1 docs.length n1, .int .i64 i] (by rfl) rfl rfl (by simp only [List.map_toArray, List.map_cons, List.map_nil]; rfl) ?_
            have hwj := HWf.out.trans (HB.out.mono HWf.out.size)
            have hH := HH.out (nodeP 2 [nodeP 0 [a, b]]) (some ⟨b2, 0, none⟩) 1 wj hwj (C43_one (p := nodeP 0 [a, b]) Hb2.out (Nat.le_refl _) (C43_two (blk_below Nf.out HB.out) HAN.out (Kd.C_below HA.out hwj) HBN.out (Kd.C_below HB_.out hwj))) (Nat.le_refl _) (by rw [sz_node1, sz_node2]; have := HSA.out; have := HSB.out; omega)
            rw [turn_not, turn_all, HX.out, HY.out] at hH
            refine hH.mono ?_
            rintro e wn ⟨rfl, hBn⟩
            clear hH hwj
            refine ⟨_, rfl, ?_⟩
            have HBn := Aside0.mk (HB.out.trans (hBn.mono HB.out.size))
            have Hn2 := Aside0.mk (blk_below Hb2.out hBn)
            clear hBn
            refine hK.out _ _ HBn.out (fun _ => ?_)
            clear hK K
            refine norm_ (a' := ?_) ?_ ?_
            rotate_left
            · show Act.put _ (some 112) _ = _
              simp only [Act.put, List.setIfInBounds_toArray, List.set_cons_zero, List.set_cons_succ]
              rfl
            refine norm_ ?_ (hJ0_2 (b2, b9, b13) wn ⟨HBn.out, Hn2.out⟩)
            first | rfl | (simp only [putAll, Act.put, List.setIfInBounds_toArray, List.set_cons_zero, List.set_cons_succ]; done) | (simp only [putAll, Act.put, List.setIfInBounds_toArray, List.set_cons_zero, List.set_cons_succ]; rfl)
          · skip
            refine lit_step (by rfl) (m := 1) (cs := #[.int .i64 a.f0, .int .i64 a.f1, .string a.f2, .string a.f3, .int .i64 a.f4, .slice A a.f5.length n]) (e := 43) ?_ ?_
            · first | (go_simp; done) | (go_simp; rfl)
            intro bn _ wn hbn hBn
            have HBn := Aside0.mk (HB.out.trans (hBn.mono HB.out.size))
            have Hn2 := Aside0.mk (blk_below Hb2.out hBn)
            have Hn9 := Aside0.mk hbn
            clear hbn hBn
            refine hK.out _ _ HBn.out (fun _ => ?_)
            clear hK K
            refine norm_ (a' := ?_) ?_ ?_
            rotate_left
            · show Act.put _ (some 115) _ = _
              simp only [Act.put, List.setIfInBounds_toArray, List.set_cons_zero, List.set_cons_succ]
              rfl
            refine norm_ ?_ (hJ01_1 (b2, bn, b13) wn ⟨HBn.out, Hn2.out, Hn9.out⟩)
            first | rfl | (simp only [putAll, Act.put, List.setIfInBounds_toArray, List.set_cons_zero, List.set_cons_succ]; done) | (simp only [putAll, Act.put, List.setIfInBounds_toArray, List.set_cons_zero, List.set_cons_succ]; rfl)
          · skip
            refine lit_step (by rfl) (m := 1) (cs := #[.int .i64 b.f0, .int .i64 b.f1, .string b.f2, .string b.f3, .int .i64 b.f4, .slice A' b.f5.length n']) (e := 43) ?_ ?_
            · first | (go_simp; done) | (go_simp; rfl)
            intro bn _ wn hbn hBn
            have HBn := Aside0.mk (HB.out.trans (hBn.mono HB.out.size))
            have Hn2 := Aside0.mk (blk_below Hb2.out hBn)
            have Hn13 := Aside0.mk hbn
            clear hbn hBn
            refine hK.out _ _ HBn.out (fun _ => ?_)
            clear hK K
            refine norm_ (a' := ?_) ?_ ?_
            rotate_left
            · show Act.put _ (some 119) _ = _
              simp only [Act.put, List.setIfInBounds_toArray, List.set_cons_zero, List.set_cons_succ]
              rfl
            refine norm_ ?_ (hJ02_1 (b2, b9, bn) wn ⟨HBn.out, Hn2.out, Hn13.out⟩)
            first | rfl | (simp only [putAll, Act.put, List.setIfInBounds_toArray, List.set_cons_zero, List.set_cons_succ]; done) | (simp only [putAll, Act.put, List.setIfInBounds_toArray, List.set_cons_zero, List.set_cons_succ]; rfl)
        refine join_ 28 #[true, true, true, false, true, true, false, true, true, true, false, true, true, false, false, false, false, true, true, false, false, false, false, false, false, false, false, false, false, false, false, false, false, false, false, false, false, false, false, false] (fun s : Nat × Nat × Nat => [(108, .slice (some ⟨s.1, 0, none⟩) 1 1), (115, .slice (some ⟨s.2.1, 0, none⟩) 1 1)]) (fun s w' => Below wc.heap.size wc w' ∧ w'.heap[s.1]? = some (.cells (#[.int .i64 0, .int .i64 0, .string ⟨#[]⟩, .string ⟨#[]⟩, .int .i64 0, .slice (some ⟨Bl, 0, none⟩) 2 2]) 43 (0, 0)) ∧ w'.heap[s.2.1]? = some (.cells (#[.int .i64 a.f0, .int .i64 a.f1, .string a.f2, .string a.f3, .int .i64 a.f4, .slice A a.f5.length n]) 43 (0, 0))) ?_ (fun hJ01_0 => ?_)
        · rintro ⟨b2, b9, b13⟩ wj ⟨hB, h2, h9⟩
          simp only at h2 h9
          have HB := Aside0.mk hB
          clear hB
          have Hb2 := Aside0.mk h2
          clear h2
          have Hb9 := Aside0.mk h9
          clear h9
          refine norm_ (a' := ?_) ?_ ?_
          rotate_left
          · simp only [putAll, Act.put, List.setIfInBounds_toArray, List.set_cons_zero, List.set_cons_succ]
            rfl
          refine two_ (i := 3) (j := 13) (Ni := some 109) (Nj := some 119) #[true, true, true, true, true, true, false, true, true, true, false, true, true, false, false, false, false, true, true, false, false, false, false, false, false, false, false, false, false, false, false, false, false, false, false, false, false, false, false, false] #[true, true, true, false, true, true, false, true, true, true, false, true, true, true, false, false, false, true, true, false, false, false, false, false, false, false, false, false, false, false, false, false, false, false, false, false, false, false, false, false] rfl rfl rfl rfl (by kernel_rfl) (by decide) (by decide) (fun K hK => ?_) (fun K hK => ?_)
          · skip
            refine goesV_ Tryd.func22 (by kernel_rfl) rfl #[.slice (some ⟨b2, 0, none⟩) 1 1] (by rfl) rfl rfl rfl (by simp only [List.map_toArray, List.map_cons, List.map_nil]; rfl) ?_
            refine (not22 _ _ _ wj).mono ?_
            rintro e wn ⟨rfl, hBn⟩
            refine ⟨_, rfl, ?_⟩
            have HBn := Aside0.mk (HB.out.trans (hBn.mono HB.out.size))
            have Hn2 := Aside0.mk (blk_below Hb2.out hBn)
            have Hn9 := Aside0.mk (blk_below Hb9.out hBn)
            clear hBn
            refine hK.out _ _ HBn.out (fun _ => ?_)
            clear hK K
            refine norm_ (a' := ?_) ?_ ?_
            rotate_left
            · show Act.put _ (some 109) _ = _
              simp only [Act.put, List.setIfInBounds_toArray, List.set_cons_zero, List.set_cons_succ]
              rfl
            refine norm_ ?_ (hJ01_1 (b2, b9, b13) wn ⟨HBn.out, Hn2.out, Hn9.out⟩)
            first | rfl | (simp only [putAll, Act.put, List.setIfInBounds_toArray, List.set_cons_zero, List.set_cons_succ]; done) | (simp only [putAll, Act.put, List.setIfInBounds_toArray, List.set_cons_zero, List.set_cons_succ]; rfl)
          · skip
            refine lit_step (by rfl) (m := 1) (cs := #[.int .i64 b.f0, .int .i64 b.f1, .string b.f2, .string b.f3, .int .i64 b.f4, .slice A' b.f5.length n']) (e := 43) ?_ ?_
            · first | (go_simp; done) | (go_simp; rfl)
            intro bn _ wn hbn hBn
            have HBn := Aside0.mk (HB.out.trans (hBn.mono HB.out.size))
            have Hn2 := Aside0.mk (blk_below Hb2.out hBn)
            have Hn9 := Aside0.mk (blk_below Hb9.out hBn)
            have Hn13 := Aside0.mk hbn
            clear hbn hBn
            refine hK.out _ _ HBn.out (fun _ => ?_)
            clear hK K
            refine norm_ (a' := ?_) ?_ ?_
            rotate_left
            · show Act.put _ (some 119) _ = _
              simp only [Act.put, List.setIfInBounds_toArray, List.set_cons_zero, List.set_cons_succ]
              rfl
            refine norm_ ?_ (hJ012_0 (b2, b9, bn) wn ⟨HBn.out, Hn2.out, Hn9.out, Hn13.out⟩)
            first | rfl | (simp only [putAll, Act.put, List.setIfInBounds_toArray, List.set_cons_zero, List.set_cons_succ]; done) | (simp only [putAll, Act.put, List.setIfInBounds_toArray, List.set_cons_zero, List.set_cons_succ]; rfl)
        refine join_ 28 #[true, true, true, false, true, true, false, true, true, false, false, true, true, true, false, false, false, true, true, false, false, false, false, false, false, false, false, false, false, false, false, false, false, false, false, false, false, false, false, false] (fun s : Nat × Nat × Nat => [(108, .slice (some ⟨s.1, 0, none⟩) 1 1), (119, .slice (some ⟨s.2.2, 0, none⟩) 1 1)]) (fun s w' => Below wc.heap.size wc w' ∧ w'.heap[s.1]? = some (.cells (#[.int .i64 0, .int .i64 0, .string ⟨#[]⟩, .string ⟨#[]⟩, .int .i64 0, .slice (some ⟨Bl, 0, none⟩) 2 2]) 43 (0, 0)) ∧ w'.heap[s.2.2]? = some (.cells (#[.int .i64 b.f0, .int .i64 b.f1, .string b.f2, .string b.f3, .int .i64 b.f4, .slice A' b.f5.length n']) 43 (0, 0))) ?_ (fun hJ02_0 => ?_)
        · rintro ⟨b2, b9, b13⟩ wj ⟨hB, h2, h13⟩
          simp only at h2 h13
          have HB := Aside0.mk hB
          clear hB
          have Hb2 := Aside0.mk h2
          clear h2
          have Hb13 := Aside0.mk h13
          clear h13
          refine norm_ (a' := ?_) ?_ ?_
          rotate_left
          · simp only [putAll, Act.put, List.setIfInBounds_toArray, List.set_cons_zero, List.set_cons_succ]
            rfl
          refine two_ (i := 3) (j := 9) (Ni := some 109) (Nj := some 115) #[true, true, true, true, true, true, false, true, true, false, false, true, true, true, false, false, false, true, true, false, false, false, false, false, false, false, false, false, false, false, false, false, false, false, false, false, false, false, false, false] #[true, true, true, false, true, true, false, true, true, true, false, true, true, true, false, false, false, true, true, false, false, false, false, false, false, false, false, false, false, false, false, false, false, false, false, false, false, false, false, false] rfl rfl rfl rfl (by kernel_rfl) (by decide) (by decide) (fun K hK => ?_) (fun K hK => ?_)
          · skip
            refine goesV_ Tryd.func22 (by kernel_rfl) rfl #[.slice (some ⟨b2, 0, none⟩) 1 1] (by rfl) rfl rfl rfl (by simp only [List.map_toArray, List.map_cons, List.map_nil]; rfl) ?_
            refine (not22 _ _ _ wj).mono ?_
            rintro e wn ⟨rfl, hBn⟩
            refine ⟨_, rfl, ?_⟩
            have HBn := Aside0.mk (HB.out.trans (hBn.mono HB.out.size))
            have Hn2 := Aside0.mk (blk_below Hb2.out hBn)
            have Hn13 := Aside0.mk (blk_below Hb13.out hBn)
            clear hBn
            refine hK.out _ _ HBn.out (fun _ => ?_)
            clear hK K
            refine norm_ (a' := ?_) ?_ ?_
            rotate_left
            · show Act.put _ (some 109) _ = _
              simp only [Act.put, List.setIfInBounds_toArray, List.set_cons_zero, List.set_cons_succ]
              rfl
            refine norm_ ?_ (hJ02_1 (b2, b9, b13) wn ⟨HBn.out, Hn2.out, Hn13.out⟩)
            first | rfl | (simp only [putAll, Act.put, List.setIfInBounds_toArray, List.set_cons_zero, List.set_cons_succ]; done) | (simp only [putAll, Act.put, List.setIfInBounds_toArray, List.set_cons_zero, List.set_cons_succ]; rfl)
          · skip
            refine lit_step (by rfl) (m := 1) (cs := #[.int .i64 a.f0, .int .i64 a.f1, .string a.f2, .string a.f3, .int .i64 a.f4, .slice A a.f5.length n]) (e := 43) ?_ ?_
            · first | (go_simp; done) | (go_simp; rfl)
            intro bn _ wn hbn hBn
            have HBn := Aside0.mk (HB.out.trans (hBn.mono HB.out.size))
            have Hn2 := Aside0.mk (blk_below Hb2.out hBn)
            have Hn13 := Aside0.mk (blk_below Hb13.out hBn)
            have Hn9 := Aside0.mk hbn
            clear hbn hBn
            refine hK.out _ _ HBn.out (fun _ => ?_)
            clear hK K
            refine norm_ (a' := ?_) ?_ ?_
            rotate_left
            · show Act.put _ (some 115) _ = _
              simp only [Act.put, List.setIfInBounds_toArray, List.set_cons_zero, List.set_cons_succ]
              rfl
            refine norm_ ?_ (hJ012_0 (b2, bn, b13) wn ⟨HBn.out, Hn2.out, Hn9.out, Hn13.out⟩)
            first | rfl | (simp only [putAll, Act.put, List.setIfInBounds_toArray, List.set_cons_zero, List.set_cons_succ]; done) | (simp only [putAll, Act.put, List.setIfInBounds_toArray, List.set_cons_zero, List.set_cons_succ]; rfl)
        refine join_ 28 #[true, true, false, false, true, true, false, true, true, true, false, true, true, true, false, false, false, true, true, false, false, false, false, false, false, false, false, false, false, false, false, false, false, false, false, false, false, false, false, false] (fun s : Nat × Nat × Nat => [(115, .slice (some ⟨s.2.1, 0, none⟩) 1 1), (119, .slice (some ⟨s.2.2, 0, none⟩) 1 1)]) (fun s w' => Below wc.heap.size wc w' ∧ w'.heap[s.2.1]? = some (.cells (#[.int .i64 a.f0, .int .i64 a.f1, .string a.f2, .string a.f3, .int .i64 a.f4, .slice A a.f5.length n]) 43 (0, 0)) ∧ w'.heap[s.2.2]? = some (.cells (#[.int .i64 b.f0, .int .i64 b.f1, .string b.f2, .string b.f3, .int .i64 b.f4, .slice A' b.f5.length n']) 43 (0, 0))) ?_ (fun hJ12_0 => ?_)
        · rintro ⟨b2, b9, b13⟩ wj ⟨hB, h9, h13⟩
          simp only at h9 h13
          have HB := Aside0.mk hB
          clear hB
          have Hb9 := Aside0.mk h9
          clear h9
          have Hb13 := Aside0.mk h13
          clear h13
          refine norm_ (a' := ?_) ?_ ?_
          rotate_left
          · simp only [putAll, Act.put, List.setIfInBounds_toArray, List.set_cons_zero, List.set_cons_succ]
            rfl
          refine one_ (i := 2) (N := some 108) #[true, true, true, false, true, true, false, true, true, true, false, true, true, true, false, false, false, true, true, false, false, false, false, false, false, false, false, false, false, false, false, false, false, false, false, false, false, false, false, false] rfl rfl (by kernel_rfl) (by decide) (fun K hK => ?_)
          refine lit_step (by rfl) (m := 1) (cs := #[.int .i64 0, .int .i64 0, .string ⟨#[]⟩, .string ⟨#[]⟩, .int .i64 0, .slice (some ⟨Bl, 0, none⟩) 2 2]) (e := 43) ?_ ?_
          · first | (go_simp; done) | (go_simp; rfl)
          intro bn _ wn hbn hBn
          have HBn := Aside0.mk (HB.out.trans (hBn.mono HB.out.size))
          have Hn9 := Aside0.mk (blk_below Hb9.out hBn)
          have Hn13 := Aside0.mk (blk_below Hb13.out hBn)
          have Hn2 := Aside0.mk hbn
          clear hbn hBn
          refine hK.out _ _ HBn.out (fun _ => ?_)
          clear hK K
          refine norm_ (a' := ?_) ?_ ?_
          rotate_left
          · show Act.put _ (some 108) _ = _
            simp only [Act.put, List.setIfInBounds_toArray, List.set_cons_zero, List.set_cons_succ]
            rfl
          refine norm_ ?_ (hJ012_0 (bn, b9, b13) wn ⟨HBn.out, Hn2.out, Hn9.out, Hn13.out⟩)
          first | rfl | (simp only [putAll, Act.put, List.setIfInBounds_toArray, List.set_cons_zero, List.set_cons_succ]; done) | (simp only [putAll, Act.put, List.setIfInBounds_toArray, List.set_cons_zero, List.set_cons_succ]; rfl)
        refine join_ 29 #[true, true, true, false, true, true, false, true, true, false, false, true, true, false, false, false, false, true, true, false, false, false, false, false, false, false, false, false, false, false, false, false, false, false, false, false, false, false, false, false] (fun s : Nat × Nat × Nat => [(108, .slice (some ⟨s.1, 0, none⟩) 1 1)]) (fun s w' => Below wc.heap.size wc w' ∧ w'.heap[s.1]? = some (.cells (#[.int .i64 0, .int .i64 0, .string ⟨#[]⟩, .string ⟨#[]⟩, .int .i64 0, .slice (some ⟨Bl, 0, none⟩) 2 2]) 43 (0, 0))) ?_ (fun hJ0_0 => ?_)
        · rintro ⟨b2, b9, b13⟩ wj ⟨hB, h2⟩
          simp only at h2
          have HB := Aside0.mk hB
          clear hB
          have Hb2 := Aside0.mk h2
          clear h2
          refine norm_ (a' := ?_) ?_ ?_
          rotate_left
          · simp only [putAll, Act.put, List.setIfInBounds_toArray, List.set_cons_zero, List.set_cons_succ]
            rfl
          refine three_ (i := 3) (j := 9) (k := 13) (Ni := some 109) (Nj := some 115) (Nk := some 119) #[true, true, true, true, true, true, false, true, true, false, false, true, true, false, false, false, false, true, true, false, false, false, false, false, false, false, false, false, false, false, false, false, false, false, false, false, false, false, false, false] #[true, true, true, false, true, true, false, true, true, true, false, true, true, false, false, false, false, true, true, false, false, false, false, false, false, false, false, false, false, false, false, false, false, false, false, false, false, false, false, false] #[true, true, true, false, true, true, false, true, true, false, false, true, true, true, false, false, false, true, true, false, false, false, false, false, false, false, false, false, false, false, false, false, false, false, false, false, false, false, false, false] rfl rfl rfl rfl rfl rfl (by kernel_rfl) (by decide) (by decide) (by decide) (fun K hK => ?_) (fun K hK => ?_) (fun K hK => ?_)
          · skip
            refine goesV_ Tryd.func22 (by kernel_rfl) rfl #[.slice (some ⟨b2, 0, none⟩) 1 1] (by rfl) rfl rfl rfl (by simp only [List.map_toArray, List.map_cons, List.map_nil]; rfl) ?_
            refine (not22 _ _ _ wj).mono ?_
            rintro e wn ⟨rfl, hBn⟩
            refine ⟨_, rfl, ?_⟩
            have HBn := Aside0.mk (HB.out.trans (hBn.mono HB.out.size))
            have Hn2 := Aside0.mk (blk_below Hb2.out hBn)
            clear hBn
            refine hK.out _ _ HBn.out (fun _ => ?_)
            clear hK K
            refine norm_ (a' := ?_) ?_ ?_
            rotate_left
            · show Act.put _ (some 109) _ = _
              simp only [Act.put, List.setIfInBounds_toArray, List.set_cons_zero, List.set_cons_succ]
              rfl
            refine norm_ ?_ (hJ0_1 (b2, b9, b13) wn ⟨HBn.out, Hn2.out⟩)
            first | rfl | (simp only [putAll, Act.put, List.setIfInBounds_toArray, List.set_cons_zero, List.set_cons_succ]; done) | (simp only [putAll, Act.put, List.setIfInBounds_toArray, List.set_cons_zero, List.set_cons_succ]; rfl)
          · skip
            refine lit_step (by rfl) (m := 1) (cs := #[.int .i64 a.f0, .int .i64 a.f1, .string a.f2, .string a.f3, .int .i64 a.f4, .slice A a.f5.length n]) (e := 43) ?_ ?_
            · first | (go_simp; done) | (go_simp; rfl)
            intro bn _ wn hbn hBn
            have HBn := Aside0.mk (HB.out.trans (hBn.mono HB.out.size))
            have Hn2 := Aside0.mk (blk_below Hb2.out hBn)
            have Hn9 := Aside0.mk hbn
            clear hbn hBn
            refine hK.out _ _ HBn.out (fun _ => ?_)
            clear hK K
            refine norm_ (a' := ?_) ?_ ?_
            rotate_left
            · show Act.put _ (some 115) _ = _
              simp only [Act.put, List.setIfInBounds_toArray, List.set_cons_zero, List.set_cons_succ]
              rfl
            refine norm_ ?_ (hJ01_0 (b2, bn, b13) wn ⟨HBn.out, Hn2.out, Hn9.out⟩)
            first | rfl | (simp only [putAll, Act.put, List.setIfInBounds_toArray, List.set_cons_zero, List.set_cons_succ]; done) | (simp only [putAll, Act.put, List.setIfInBounds_toArray, List.set_cons_zero, List.set_cons_succ]; rfl)
          · skip
            refine lit_step (by rfl) (m := 1) (cs := #[.int .i64 b.f0, .int .i64 b.f1, .string b.f2, .string b.f3, .int .i64 b.f4, .slice A' b.f5.length n']) (e := 43) ?_ ?_
            · first | (go_simp; done) | (go_simp; rfl)
            intro bn _ wn hbn hBn
            have HBn := Aside0.mk (HB.out.trans (hBn.mono HB.out.size))
            have Hn2 := Aside0.mk (blk_below Hb2.out hBn)
            have Hn13 := Aside0.mk hbn
            clear hbn hBn
            refine hK.out _ _ HBn.out (fun _ => ?_)
            clear hK K
            refine norm_ (a' := ?_) ?_ ?_
            rotate_left
            · show Act.put _ (some 119) _ = _
              simp only [Act.put, List.setIfInBounds_toArray, List.set_cons_zero, List.set_cons_succ]
              rfl
            refine norm_ ?_ (hJ02_0 (b2, b9, bn) wn ⟨HBn.out, Hn2.out, Hn13.out⟩)
            first | rfl | (simp only [putAll, Act.put, List.setIfInBounds_toArray, List.set_cons_zero, List.set_cons_succ]; done) | (simp only [putAll, Act.put, List.setIfInBounds_toArray, List.set_cons_zero, List.set_cons_succ]; rfl)
        refine join_ 29 #[true, true, false, false, true, true, false, true, true, true, false, true, true, false, false, false, false, true, true, false, false, false, false, false, false, false, false, false, false, false, false, false, false, false, false, false, false, false, false, false] (fun s : Nat × Nat × Nat => [(115, .slice (some ⟨s.2.1, 0, none⟩) 1 1)]) (fun s w' => Below wc.heap.size wc w' ∧ w'.heap[s.2.1]? = some (.cells (#[.int .i64 a.f0, .int .i64 a.f1, .string a.f2, .string a.f3, .int .i64 a.f4, .slice A a.f5.length n]) 43 (0, 0))) ?_ (fun hJ1_0 => ?_)
        · rintro ⟨b2, b9, b13⟩ wj ⟨hB, h9⟩
          simp only at h9
          have HB := Aside0.mk hB
          clear hB
          have Hb9 := Aside0.mk h9
          clear h9
          refine norm_ (a' := ?_) ?_ ?_
          rotate_left
          · simp only [putAll, Act.put, List.setIfInBounds_toArray, List.set_cons_zero, List.set_cons_succ]
            rfl
          refine two_ (i := 2) (j := 13) (Ni := some 108) (Nj := some 119) #[true, true, true, false, true, true, false, true, true, true, false, true, true, false, false, false, false, true, true, false, false, false, false, false, false, false, false, false, false, false, false, false, false, false, false, false, false, false, false, false] #[true, true, false, false, true, true, false, true, true, true, false, true, true, true, false, false, false, true, true, false, false, false, false, false, false, false, false, false, false, false, false, false, false, false, false, false, false, false, false, false] rfl rfl rfl rfl (by kernel_rfl) (by decide) (by decide) (fun K hK => ?_) (fun K hK => ?_)
          · skip
            refine lit_step (by rfl) (m := 1) (cs := #[.int .i64 0, .int .i64 0, .string ⟨#[]⟩, .string ⟨#[]⟩, .int .i64 0, .slice (some ⟨Bl, 0, none⟩) 2 2]) (e := 43) ?_ ?_
            · first | (go_simp; done) | (go_simp; rfl)
            intro bn _ wn hbn hBn
            have HBn := Aside0.mk (HB.out.trans (hBn.mono HB.out.size))
            have Hn9 := Aside0.mk (blk_below Hb9.out hBn)
            have Hn2 := Aside0.mk hbn
            clear hbn hBn
            refine hK.out _ _ HBn.out (fun _ => ?_)
            clear hK K
            refine norm_ (a' := ?_) ?_ ?_
            rotate_left
            · show Act.put _ (some 108) _ = _
              simp only [Act.put, List.setIfInBounds_toArray, List.set_cons_zero, List.set_cons_succ]
              rfl
            refine norm_ ?_ (hJ01_0 (bn, b9, b13) wn ⟨HBn.out, Hn2.out, Hn9.out⟩)
            first | rfl | (simp only [putAll, Act.put, List.setIfInBounds_toArray, List.set_cons_zero, List.set_cons_succ]; done) | (simp only [putAll, Act.put, List.setIfInBounds_toArray, List.set_cons_zero, List.set_cons_succ]; rfl)
          · skip
            refine lit_step (by rfl) (m := 1) (cs := #[.int .i64 b.f0, .int .i64 b.f1, .string b.f2, .string b.f3, .int .i64 b.f4, .slice A' b.f5.length n']) (e := 43) ?_ ?_
            · first | (go_simp; done) | (go_simp; rfl)
            intro bn _ wn hbn hBn
            have HBn := Aside0.mk (HB.out.trans (hBn.mono HB.out.size))
            have Hn9 := Aside0.mk (blk_below Hb9.out hBn)
            have Hn13 := Aside0.mk hbn
            clear hbn hBn
            refine hK.out _ _ HBn.out (fun _ => ?_)
            clear hK K
            refine norm_ (a' := ?_) ?_ ?_
            rotate_left
            · show Act.put _ (some 119) _ = _
              simp only [Act.put, List.setIfInBounds_toArray, List.set_cons_zero, List.set_cons_succ]
              rfl
            refine norm_ ?_ (hJ12_0 (b2, b9, bn) wn ⟨HBn.out, Hn9.out, Hn13.out⟩)
            first | rfl | (simp only [putAll, Act.put, List.setIfInBounds_toArray, List.set_cons_zero, List.set_cons_succ]; done) | (simp only [putAll, Act.put, List.setIfInBounds_toArray, List.set_cons_zero, List.set_cons_succ]; rfl)
        refine join_ 29 #[true, true, false, false, true, true, false, true, true, false, false, true, true, true, false, false, false, true, true, false, false, false, false, false, false, false, false, false, false, false, false, false, false, false, false, false, false, false, false, false] (fun s : Nat × Nat × Nat => [(119, .slice (some ⟨s.2.2, 0, none⟩) 1 1)]) (fun s w' => Below wc.heap.size wc w' ∧ w'.heap[s.2.2]? = some (.cells (#[.int .i64 b.f0, .int .i64 b.f1, .string b.f2, .string b.f3, .int .i64 b.f4, .slice A' b.f5.length n']) 43 (0, 0))) ?_ (fun hJ2_0 => ?_)
        · rintro ⟨b2, b9, b13⟩ wj ⟨hB, h13⟩
          simp only at h13
          have HB := Aside0.mk hB
          clear hB
          have Hb13 := Aside0.mk h13
          clear h13
          refine norm_ (a' := ?_) ?_ ?_
          rotate_left
          · simp only [putAll, Act.put, List.setIfInBounds_toArray, List.set_cons_zero, List.set_cons_succ]
            rfl
          refine two_ (i := 2) (j := 9) (Ni := some 108) (Nj := some 115) #[true, true, true, false, true, true, false, true, true, false, false, true, true, true, false, false, false, true, true, false, false, false, false, false, false, false, false, false, false, false, false, false, false, false, false, false, false, false, false, false] #[true, true, false, false, true, true, false, true, true, true, false, true, true, true, false, false, false, true, true, false, false, false, false, false, false, false, false, false, false, false, false, false, false, false, false, false, false, false, false, false] rfl rfl rfl rfl (by kernel_rfl) (by decide) (by decide) (fun K hK => ?_) (fun K hK => ?_)
          · skip
            refine lit_step (by rfl) (m := 1) (cs := #[.int .i64 0, .int .i64 0, .string ⟨#[]⟩, .string ⟨#[]⟩, .int .i64 0, .slice (some ⟨Bl, 0, none⟩) 2 2]) (e := 43) ?_ ?_
            · first | (go_simp; done) | (go_simp; rfl)
            intro bn _ wn hbn hBn
            have HBn := Aside0.mk (HB.out.trans (hBn.mono HB.out.size))
            have Hn13 := Aside0.mk (blk_below Hb13.out hBn)
            have Hn2 := Aside0.mk hbn
            clear hbn hBn
            refine hK.out _ _ HBn.out (fun _ => ?_)
            clear hK K
            refine norm_ (a' := ?_) ?_ ?_
            rotate_left
            · show Act.put _ (some 108) _ = _
              simp only [Act.put, List.setIfInBounds_toArray, List.set_cons_zero, List.set_cons_succ]
              rfl
            refine norm_ ?_ (hJ02_0 (bn, b9, b13) wn ⟨HBn.out, Hn2.out, Hn13.out⟩)
            first | rfl | (simp only [putAll, Act.put, List.setIfInBounds_toArray, List.set_cons_zero, List.set_cons_succ]; done) | (simp only [putAll, Act.put, List.setIfInBounds_toArray, List.set_cons_zero, List.set_cons_succ]; rfl)
          · skip
            refine lit_step (by rfl) (m := 1) (cs := #[.int .i64 a.f0, .int .i64 a.f1, .string a.f2, .string a.f3, .int .i64 a.f4, .slice A a.f5.length n]) (e := 43) ?_ ?_
            · first | (go_simp; done) | (go_simp; rfl)
            intro bn _ wn hbn hBn
            have HBn := Aside0.mk (HB.out.trans (hBn.mono HB.out.size))
            have Hn13 := Aside0.mk (blk_below Hb13.out hBn)
            have Hn9 := Aside0.mk hbn
            clear hbn hBn
            refine hK.out _ _ HBn.out (fun _ => ?_)
            clear hK K
            refine norm_ (a' := ?_) ?_ ?_
            rotate_left
            · show Act.put _ (some 115) _ = _
              simp only [Act.put, List.setIfInBounds_toArray, List.set_cons_zero, List.set_cons_succ]
              rfl
            refine norm_ ?_ (hJ12_0 (b2, bn, b13) wn ⟨HBn.out, Hn9.out, Hn13.out⟩)
            first | rfl | (simp only [putAll, Act.put, List.setIfInBounds_toArray, List.set_cons_zero, List.set_cons_succ]; done) | (simp only [putAll, Act.put, List.setIfInBounds_toArray, List.set_cons_zero, List.set_cons_succ]; rfl)
        have HB := Aside0.mk HSTART.out
        refine three_ (i := 2) (j := 9) (k := 13) (Ni := some 108) (Nj := some 115) (Nk := some 119) #[true, true, true, false, true, true, false, true, true, false, false, true, true, false, false, false, false, true, true, false, false, false, false, false, false, false, false, false, false, false, false, false, false, false, false, false, false, false, false, false] #[true, true, false, false, true, true, false, true, true, true, false, true, true, false, false, false, false, true, true, false, false, false, false, false, false, false, false, false, false, false, false, false, false, false, false, false, false, false, false, false] #[true, true, false, false, true, true, false, true, true, false, false, true, true, true, false, false, false, true, true, false, false, false, false, false, false, false, false, false, false, false, false, false, false, false, false, false, false, false, false, false] rfl rfl rfl rfl rfl rfl (by kernel_rfl) (by decide) (by decide) (by decide) (fun K hK => ?_) (fun K hK => ?_) (fun K hK => ?_)
        · skip
          refine lit_step (by rfl) (m := 1) (cs := #[.int .i64 0, .int .i64 0, .string ⟨#[]⟩, .string ⟨#[]⟩, .int .i64 0, .slice (some ⟨Bl, 0, none⟩) 2 2]) (e := 43) ?_ ?_
          · first | (go_simp; done) | (go_simp; rfl)
          intro bn _ wn hbn hBn
          have HBn := Aside0.mk (HB.out.trans (hBn.mono HB.out.size))
          have Hn2 := Aside0.mk hbn
          clear hbn hBn
          refine hK.out _ _ HBn.out (fun _ => ?_)
          clear hK K
          refine norm_ (a' := ?_) ?_ ?_
          rotate_left
          · show Act.put _ (some 108) _ = _
            simp only [Act.put, List.setIfInBounds_toArray, List.set_cons_zero, List.set_cons_succ]
            rfl
          refine norm_ ?_ (hJ0_0 (bn, 0, 0) wn ⟨HBn.out, Hn2.out⟩)
          first | rfl | (simp only [putAll, Act.put, List.setIfInBounds_toArray, List.set_cons_zero, List.set_cons_succ]; done) | (simp only [putAll, Act.put, List.setIfInBounds_toArray, List.set_cons_zero, List.set_cons_succ]; rfl)
        · skip
          refine lit_step (by rfl) (m := 1) (cs := #[.int .i64 a.f0, .int .i64 a.f1, .string a.f2, .string a.f3, .int .i64 a.f4, .slice A a.f5.length n]) (e := 43) ?_ ?_
          · first | (go_simp; done) | (go_simp; rfl)
          intro bn _ wn hbn hBn
          have HBn := Aside0.mk (HB.out.trans (hBn.mono HB.out.size))
          have Hn9 := Aside0.mk hbn
          clear hbn hBn
          refine hK.out _ _ HBn.out (fun _ => ?_)
          clear hK K
          refine norm_ (a' := ?_) ?_ ?_
          rotate_left
          · show Act.put _ (some 115) _ = _
            simp only [Act.put, List.setIfInBounds_toArray, List.set_cons_zero, List.set_cons_succ]
            rfl
          refine norm_ ?_ (hJ1_0 (0, bn, 0) wn ⟨HBn.out, Hn9.out⟩)
          first | rfl | (simp only [putAll, Act.put, List.setIfInBounds_toArray, List.set_cons_zero, List.set_cons_succ]; done) | (simp only [putAll, Act.put, List.setIfInBounds_toArray, List.set_cons_zero, List.set_cons_succ]; rfl)
        · skip
          refine lit_step (by rfl) (m := 1) (cs := #[.int .i64 b.f0, .int .i64 b.f1, .string b.f2, .string b.f3, .int .i64 b.f4, .slice A' b.f5.length n']) (e := 43) ?_ ?_
          · first | (go_simp; done) | (go_simp; rfl)
          intro bn _ wn hbn hBn
          have HBn := Aside0.mk (HB.out.trans (hBn.mono HB.out.size))
          have Hn13 := Aside0.mk hbn
          clear hbn hBn
          refine hK.out _ _ HBn.out (fun _ => ?_)
          clear hK K
          refine norm_ (a' := ?_) ?_ ?_
          rotate_left
          · show Act.put _ (some 119) _ = _
            simp only [Act.put, List.setIfInBounds_toArray, List.set_cons_zero, List.set_cons_succ]
            rfl
          refine norm_ ?_ (hJ2_0 (0, 0, bn) wn ⟨HBn.out, Hn13.out⟩)
          first | rfl | (simp only [putAll, Act.put, List.setIfInBounds_toArray, List.set_cons_zero, List.set_cons_succ]; done) | (simp only [putAll, Act.put, List.setIfInBounds_toArray, List.set_cons_zero, List.set_cons_succ]; rfl)
end Go.Proofs.YtcibglpbfaffgaaDoor.X
