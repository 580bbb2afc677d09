/- The walk of ExamineDay. -/
import Derived.Test.YtcibglpbfaffgaaDoorH0
import Derived.Deep.RegionHeld3
import Derived.Outline
namespace Go.Proofs.YtcibglpbfaffgaaDoor.X
open Go Go.RowKit Go.Proofs.YtcibglpbfaffgaaDoorW.PrintWords Go.Proofs.YtcibglpbfaffgaaDoorW.PrintLast Go.Proofs.YtcibglpbfaffgaaDoorW.PrintMore
set_option linter.unusedVariables false
set_option linter.unusedSimpArgs false
attribute [local go_sem high] eqA25o
theorem mem_take_succ (x : S25) {l : List S25} {q : Nat} (h : q < l.length) : decide (x ∈ l.take (q + 1)) = (decide (x ∈ l.take q) || decide (x = l[q])) := by
  rw [Bool.eq_iff_iff, Bool.or_eq_true, decide_eq_true_iff, decide_eq_true_iff, decide_eq_true_iff, List.take_succ_eq_append_getElem h, List.mem_append, List.mem_singleton]
def dayOut (day later : Int) (bf : Bool) : Bool := !bf || (decide (day < -1073741824) || (decide (day > 1073741824) || (decide (later < 0) || decide (later > 1073741824))))
set_option maxHeartbeats 8000000 in
set_option maxRecDepth 100000 in
theorem day5 (c : S33) (A : Option Addr) (n : Nat) (docs : List S37) (A1 : Option Addr) (n1 : Nat) (day later : Int) (bf : Bool) (a b : List S25) (w : World)
    (hC : Kd.C k45 w A c.f16.length c.f16) (hCn : c.f16.length ≤ n) (hD : Kd.C k37 w A1 docs.length docs) (hDn : docs.length ≤ n1) (hG : Glob w) (hf : Ev (fewK c docs) bf)
    (ha : dayOut day later bf = false → Ev (fun k => exF k c docs day) a ∧ Ev (fun k => exF k c docs (day + later)) b ∧ (∀ x ∈ a, x ∈ b) ∧ ∀ y ∈ b, y.f3 = 4 ∨ y ∈ a) :
    Calls Tryd.prog 5 #[.agg (cc c A n), .slice A1 docs.length n1, .int .i64 day, .int .i64 later] w fun e w' => e = .returned (.bool true) ∧ Below w.heap.size w w' := by
  have hu33 := Tryd.underlying33
  have hu25 := Tryd.underlying25
  have HC := Aside0.mk hC
  have HCN := Aside0.mk hCn
  have HD := Aside0.mk hD
  have HDN := Aside0.mk hDn
  have HG := Aside0.mk hG
  have HF := Aside0.mk hf
  have HA := Aside0.mk ha
  clear hC hCn hD hDn hG hf ha
  obtain ⟨g, hgd⟩ : ∃ g, g = dayOut day later bf := ⟨_, rfl⟩
  have HGD := Aside0.mk hgd
  clear hgd
  unfold cc
  go_enter Tryd.func5, Tryd.ntmps5
  go_upto_region 3 with (go_at_call 11; refine (awakeC _ (Glob_alloc HG.out)).mono ?_; rintro e w1 ⟨rfl, hb1⟩)
  have HB1 := Aside0.mk ((below_alloc (Below.refl w.heap.size w) _).trans (hb1.mono (by simp)))
  have CB1 := Aside0.mk (blk_below (heap_alloc_new w _) hb1)
  clear hb1
  go_cut [38] (fun v wx => v = .bool g ∧ Aside0 (Below w.heap.size w wx) ∧ Aside0 (wx.heap[w.heap.size]? = some (.cells (cc c A n) 33 (0, 0))))
  case first =>
    have RF := Aside0.mk (fewC c A n docs A1 n1 w1 bf (Kd.C_below HC.out HB1.out) HCN.out (Kd.C_below HD.out HB1.out) HDN.out HF.out)
    unfold cc at RF
    cases bf with
    | false =>
      have FX := Aside0.mk (show dayOut day later false = true from rfl)
      go_wp2_with (first | (refine wpList_load_row rfl 33 _ rfl w.heap.size rfl 33 _ (0, 0) _ CB1.out hu33 rfl (by kernel_rfl) ?_) | (go_at_call 14; refine RF.out.mono ?_; rintro e w2 ⟨rfl, hb2⟩))
      go_meet
      exact ⟨by rw [HGD.out, FX.out], ⟨HB1.out.trans (hb2.mono HB1.out.size)⟩, ⟨blk_below CB1.out hb2⟩⟩
    | true =>
      by_cases k0 : day < -1073741824
      · have k0b : decide (day < -1073741824) = true := decide_eq_true k0
        have FX := Aside0.mk (show dayOut day later true = true by simp [dayOut, k0])
        clear k0
        go_wp2_with (first | (refine wpList_load_row rfl 33 _ rfl w.heap.size rfl 33 _ (0, 0) _ CB1.out hu33 rfl (by kernel_rfl) ?_) | (go_at_call 14; refine RF.out.mono ?_; rintro e w2 ⟨rfl, hb2⟩))
        go_meet
        exact ⟨by rw [HGD.out, FX.out], ⟨HB1.out.trans (hb2.mono HB1.out.size)⟩, ⟨blk_below CB1.out hb2⟩⟩
      · have k0b : decide (day < -1073741824) = false := decide_eq_false k0
        by_cases k1 : day > 1073741824
        · have k1b : decide (1073741824 < day) = true := decide_eq_true k1
          have FX := Aside0.mk (show dayOut day later true = true by simp [dayOut, k0, k1])
          clear k0 k1
          go_wp2_with (first | (refine wpList_load_row rfl 33 _ rfl w.heap.size rfl 33 _ (0, 0) _ CB1.out hu33 rfl (by kernel_rfl) ?_) | (go_at_call 14; refine RF.out.mono ?_; rintro e w2 ⟨rfl, hb2⟩))
          go_meet
          exact ⟨by rw [HGD.out, FX.out], ⟨HB1.out.trans (hb2.mono HB1.out.size)⟩, ⟨blk_below CB1.out hb2⟩⟩
        · have k1b : decide (1073741824 < day) = false := decide_eq_false k1
          by_cases k2 : later < 0
          · have k2b : decide (later < 0) = true := decide_eq_true k2
            have FX := Aside0.mk (show dayOut day later true = true by simp [dayOut, k0, k1, k2])
            clear k0 k1 k2
            go_wp2_with (first | (refine wpList_load_row rfl 33 _ rfl w.heap.size rfl 33 _ (0, 0) _ CB1.out hu33 rfl (by kernel_rfl) ?_) | (go_at_call 14; refine RF.out.mono ?_; rintro e w2 ⟨rfl, hb2⟩))
            go_meet
            exact ⟨by rw [HGD.out, FX.out], ⟨HB1.out.trans (hb2.mono HB1.out.size)⟩, ⟨blk_below CB1.out hb2⟩⟩
          · have k2b : decide (later < 0) = false := decide_eq_false k2
            by_cases k3 : later > 1073741824
            · have k3b : decide (1073741824 < later) = true := decide_eq_true k3
              have FX := Aside0.mk (show dayOut day later true = true by simp [dayOut, k0, k1, k2, k3])
              clear k0 k1 k2 k3
              go_wp2_with (first | (refine wpList_load_row rfl 33 _ rfl w.heap.size rfl 33 _ (0, 0) _ CB1.out hu33 rfl (by kernel_rfl) ?_) | (go_at_call 14; refine RF.out.mono ?_; rintro e w2 ⟨rfl, hb2⟩))
              go_meet
              exact ⟨by rw [HGD.out, FX.out], ⟨HB1.out.trans (hb2.mono HB1.out.size)⟩, ⟨blk_below CB1.out hb2⟩⟩
            · have k3b : decide (1073741824 < later) = false := decide_eq_false k3
              have FX := Aside0.mk (show dayOut day later true = false by simp [dayOut, k0, k1, k2, k3])
              clear k0 k1 k2 k3
              go_wp2_with (first | (refine wpList_load_row rfl 33 _ rfl w.heap.size rfl 33 _ (0, 0) _ CB1.out hu33 rfl (by kernel_rfl) ?_) | (go_at_call 14; refine RF.out.mono ?_; rintro e w2 ⟨rfl, hb2⟩))
              go_meet
              exact ⟨by rw [HGD.out, FX.out], ⟨HB1.out.trans (hb2.mono HB1.out.size)⟩, ⟨blk_below CB1.out hb2⟩⟩
  case rest =>
    obtain ⟨rfl, HB, CB⟩ := hcut
    cases g with
    | true =>
      go_wp2
      go_ret
      exact ⟨rfl, HB.out⟩
    | false =>
      have hl0 : -1073741824 ≤ day ∧ day ≤ 1073741824 ∧ 0 ≤ later ∧ later ≤ 1073741824 := by
        have := HGD.out.symm
        simp [dayOut] at this
        omega
      have HL0 := Aside0.mk hl0
      obtain ⟨ea, eb, hab, hba⟩ := HA.out HGD.out.symm
      have EA := Aside0.mk ea
      have hw := w64i (n := day + later) (by have := HL0.out; omega) (by have := HL0.out; omega)
      rw [← hw] at eb
      clear hw
      have EB := Aside0.mk eb
      have HAB := Aside0.mk hab
      have HBA := Aside0.mk hba
      clear ea eb hab hba HA
      obtain ⟨l0, l1, l2, l3⟩ := hl0
      go_wp2
      refine start_ (n := 12) (S := fun w' => w'.heap[w.heap.size]? = some (.cells (cc c A n) 33 (0, 0))) (ds := []) #[false, false, false, false, false, false, false, false, false, false, false, false] (by kernel_rfl) rfl rfl (blk_drew CB.out) (fun hHeld => ?_)
      have HB1 := Aside0.mk (below_drew1 HB.out)
      have CB1 := Aside0.mk (blk_drew CB.out)
      clear HB CB
      generalize wc.drew = w2 at HB1 CB1 hHeld ⊢
      refine pure_ (i := 1) (N := some 40) (v := ?_) (a' := ?_) #[false, true, false, false, false, false, false, false, false, false, false, false] rfl rfl (by kernel_rfl) (fun _ _ _ h => h) (Or.inl ⟨by rfl, ?_⟩) ?_ ?_
      rotate_left
      · intro w'
        go_simp
        with_reducible rfl
      rotate_left
      · simp only [Act.put, List.setIfInBounds_toArray, List.set_cons_zero, List.set_cons_succ, i64_w, i32_w]
        rfl
      refine pure_ (i := 2) (N := some 41) (v := ?_) (a' := ?_) #[false, true, true, false, false, false, false, false, false, false, false, false] rfl rfl (by kernel_rfl) (fun _ _ _ h => h) (Or.inl ⟨by rfl, ?_⟩) ?_ ?_
      rotate_left
      · intro w'
        go_simp
        with_reducible rfl
      rotate_left
      · simp only [Act.put, List.setIfInBounds_toArray, List.set_cons_zero, List.set_cons_succ, i64_w, i32_w]
        rfl
      refine pure_ (i := 5) (N := some 44) (v := ?_) (a' := ?_) #[false, true, true, false, false, true, false, false, false, false, false, false] rfl rfl (by kernel_rfl) (fun _ _ _ h => h) (Or.inl ⟨by rfl, ?_⟩) ?_ ?_
      rotate_left
      · intro w'
        go_simp
        with_reducible rfl
      rotate_left
      · simp only [Act.put, List.setIfInBounds_toArray, List.set_cons_zero, List.set_cons_succ, i64_w, i32_w]
        rfl
      refine pure_ (i := 6) (N := some 45) (v := ?_) (a' := ?_) #[false, true, true, false, false, true, true, false, false, false, false, false] rfl rfl (by kernel_rfl) (fun _ _ _ h => h) (Or.inl ⟨by rfl, ?_⟩) ?_ ?_
      rotate_left
      · intro w'
        go_simp
        with_reducible rfl
      rotate_left
      · simp only [Act.put, List.setIfInBounds_toArray, List.set_cons_zero, List.set_cons_succ, i64_w, i32_w]
        rfl
      refine pure_ (i := 7) (N := some 46) (v := ?_) (a' := ?_) #[false, true, true, false, false, true, true, true, false, false, false, false] rfl rfl (by kernel_rfl) (fun _ _ _ h => h) (Or.inl ⟨by rfl, ?_⟩) ?_ ?_
      rotate_left
      · intro w'
        go_simp
        with_reducible rfl
      rotate_left
      · simp only [Act.put, List.setIfInBounds_toArray, List.set_cons_zero, List.set_cons_succ, i64_w, i32_w]
        rfl
      refine pure_ (i := 8) (N := some 47) (v := ?_) (a' := ?_) #[false, true, true, false, false, true, true, true, true, false, false, false] rfl rfl (by kernel_rfl) (fun _ _ _ h => h) (Or.inl ⟨by rfl, ?_⟩) ?_ ?_
      rotate_left
      · intro w'
        go_simp
        with_reducible rfl
      rotate_left
      · simp only [Act.put, List.setIfInBounds_toArray, List.set_cons_zero, List.set_cons_succ, i64_w, i32_w]
        rfl
      refine take_ (i := 0) (N := some 39) (v := .agg (cc c A n)) (a' := ?_) #[true, true, true, false, false, true, true, true, true, false, false, false] rfl rfl (by kernel_rfl) (fun _ _ _ h => h) (Or.inl ⟨by rfl, fun w' hs => ldRow 33 _ rfl w.heap.size rfl 33 _ (0, 0) _ hs hu33 rfl (by kernel_rfl)⟩) hHeld ?_ ?_
      rotate_left
      · simp only [Act.put, List.setIfInBounds_toArray, List.set_cons_zero, List.set_cons_succ, i64_w, i32_w]
        rfl
      refine take_ (i := 4) (N := some 43) (v := .agg (cc c A n)) (a' := ?_) #[true, true, true, false, true, true, true, true, true, false, false, false] rfl rfl (by kernel_rfl) (fun _ _ _ h => h) (Or.inl ⟨by rfl, fun w' hs => ldRow 33 _ rfl w.heap.size rfl 33 _ (0, 0) _ hs hu33 rfl (by kernel_rfl)⟩) hHeld ?_ ?_
      rotate_left
      · simp only [Act.put, List.setIfInBounds_toArray, List.set_cons_zero, List.set_cons_succ, i64_w, i32_w]
        rfl
      refine one_ (i := 3) (N := some 42) #[true, true, true, true, true, true, true, true, true, false, false, false] rfl rfl (by kernel_rfl) (by decide) (fun K hK => ?_)
      refine goes_ Tryd.func18 (by kernel_rfl) rfl #[.agg (cc c A n), .slice A1 docs.length n1, .int .i64 day] (by rfl) rfl rfl (by simp only [List.map_toArray, List.map_cons, List.map_nil]; rfl) ?_
      refine (examC c A n docs A1 n1 day a w2 (Kd.C_below HC.out HB1.out) HCN.out (Kd.C_below HD.out HB1.out) HDN.out (Glob_below HG.out HB1.out) EA.out).mono ?_
      rintro e w3 ⟨Aa, ca, rfl, hla, hRa, hb3⟩
      refine ⟨_, rfl, ?_⟩
      have HB3 := Aside0.mk (HB1.out.trans (hb3.mono HB1.out.size))
      have CB3 := Aside0.mk (blk_below CB1.out hb3)
      have RA := Aside0.mk hRa
      have HLA := Aside0.mk hla
      clear hb3 hRa hla
      refine hK.out _ _ CB3.out (fun hHeld => ?_)
      clear hK K
      refine norm_ (a' := ?_) ?_ ?_
      rotate_left
      · show Act.put _ (some 42) _ = _
        simp only [Act.put, List.setIfInBounds_toArray, List.set_cons_zero, List.set_cons_succ, i64_w, i32_w]
        rfl
      refine one_ (i := 9) (N := some 48) #[true, true, true, true, true, true, true, true, true, true, false, false] rfl rfl (by kernel_rfl) (by decide) (fun K hK => ?_)
      refine goes_ Tryd.func18 (by kernel_rfl) rfl #[.agg (cc c A n), .slice A1 docs.length n1, .int .i64 (wrap64 (day + later))] (by rfl) rfl rfl (by simp only [List.map_toArray, List.map_cons, List.map_nil]; rfl) ?_
      refine (examC c A n docs A1 n1 (wrap64 (day + later)) b w3 (Kd.C_below HC.out HB3.out) HCN.out (Kd.C_below HD.out HB3.out) HDN.out (Glob_below HG.out HB3.out) EB.out).mono ?_
      rintro e w4 ⟨Ab, cb, rfl, hlb, hRb, hb4⟩
      refine ⟨_, rfl, ?_⟩
      have HB4 := Aside0.mk (HB3.out.trans (hb4.mono HB3.out.size))
      have CB4 := Aside0.mk (blk_below CB3.out hb4)
      have RB := Aside0.mk hRb
      have RA4 := Aside0.mk (Kd.C_below RA.out hb4)
      have HLB := Aside0.mk hlb
      clear hb4 hRb hlb
      refine hK.out _ _ CB4.out (fun hHeld => ?_)
      clear hK K
      refine norm_ (a' := ?_) ?_ ?_
      rotate_left
      · show Act.put _ (some 48) _ = _
        simp only [Act.put, List.setIfInBounds_toArray, List.set_cons_zero, List.set_cons_succ, i64_w, i32_w]
        rfl
      refine pure_ (i := 10) (N := some 9) (v := ?_) (a' := ?_) #[true, true, true, true, true, true, true, true, true, true, true, false] rfl rfl (by kernel_rfl) (fun _ _ _ h => h) (Or.inl ⟨by rfl, ?_⟩) ?_ ?_
      rotate_left
      · intro w'
        go_simp
        with_reducible rfl
      rotate_left
      · simp only [Act.put, List.setIfInBounds_toArray, List.set_cons_zero, List.set_cons_succ, i64_w, i32_w]
        rfl
      refine pure_ (i := 11) (N := some 10) (v := ?_) (a' := ?_) #[true, true, true, true, true, true, true, true, true, true, true, true] rfl rfl (by kernel_rfl) (fun _ _ _ h => h) (Or.inl ⟨by rfl, ?_⟩) ?_ ?_
      rotate_left
      · intro w'
        go_simp
        with_reducible rfl
      rotate_left
      · simp only [Act.put, List.setIfInBounds_toArray, List.set_cons_zero, List.set_cons_succ, i64_w, i32_w]
        rfl
      refine done_ (by kernel_rfl) ?_
      clear HB1 CB1 HB3 CB3 CB4 RA
      have hma : a.length ≤ 9223372036854775807 := RA4.out.2.1
      have hmb : b.length ≤ 9223372036854775807 := RB.out.2.1
      clear l0 l1 l2 l3
      go_wp2
      go_loopw [11] (fun i wr => ∃ j : Nat, j ≤ a.length ∧ i = .int .i64 j ∧ Aside0 (Below w.heap.size w wr) ∧ Aside0 (Kd.C k25 wr Aa a.length a) ∧ Aside0 (Kd.C k25 wr Ab b.length b)) (fun i _ => a.length - (intOf i).toNat)
      case atStart => exact ⟨0, Nat.zero_le _, rfl, HB4, RA4, RB⟩
      case round =>
        obtain ⟨j, hj, rfl, HBr, RAr, RBr⟩ := hrel
        clear HB4 RA4 RB
        by_cases hlt : j < a.length
        · go_wp2
          obtain ⟨wo, rfl⟩ : ∃ wo : World, wo = wr := ⟨_, rfl⟩
          go_loopw [12, 13] (fun f i wr => ∃ (q : Nat) (fb : Bool), q ≤ b.length ∧ i = .int .i64 q ∧ f = .bool fb ∧ Aside0 (fb = decide (a[j] ∈ b.take q)) ∧ Aside0 (Below w.heap.size w wr) ∧ Aside0 (Kd.C k25 wr Aa a.length a) ∧ Aside0 (Kd.C k25 wr Ab b.length b)) (fun _ i _ => b.length - (intOf i).toNat)
          case atStart => exact ⟨0, false, Nat.zero_le _, rfl, rfl, ⟨by simp⟩, HBr, RAr, RBr⟩
          case round =>
            obtain ⟨q, fb, hq, rfl, rfl, HFB, HBq, RAq, RBq⟩ := hrel
            by_cases hqt : q < b.length
            · obtain ⟨ad, e, p0, p1, p2, p3⟩ := at25 RAq.out hlt
              subst e
              obtain ⟨bd, e, q0, q1, q2, q3⟩ := at25 RBq.out hqt
              subst e
              have hE := eqB_is a[j] b[q]
              have HS := Aside0.mk (mem_take_succ a[j] hqt)
              obtain ⟨x, hx⟩ : ∃ x, x = a[j] := ⟨_, rfl⟩
              obtain ⟨y, hy⟩ : ∃ y, y = b[q] := ⟨_, rfl⟩
              rw [← hx] at p0 p1 p2 p3 hE HFB HS
              rw [← hy] at q0 q1 q2 q3 hE HS
              have HX := Aside0.mk hx
              clear hx hy
              obtain ⟨eb, heb⟩ : ∃ eb, eb = decide (x = y) := ⟨_, rfl⟩
              rw [← heb] at hE HS
              clear heb
              cases fb with
              | true =>
                go_wp2
                go_quiet (fail)
                go_wp2
                go_roundw
                case rel => exact ⟨q + 1, true, by omega, by go_num, rfl, ⟨by rw [← HX.out, HS.out, ← HFB.out]; rfl⟩, ⟨pw_below_drewN HBq.out _⟩, ⟨Kd.C_drewN RAq.out _⟩, ⟨Kd.C_drewN RBq.out _⟩⟩
                case measure => simp [intOf]; omega
              | false =>
                go_wp2
                go_quiet (fail)
                go_wp2
                go_roundw
                case rel => exact ⟨q + 1, eb, by omega, by go_num, rfl, ⟨by rw [← HX.out, HS.out, ← HFB.out]; rfl⟩, ⟨pw_below_drewN HBq.out _⟩, ⟨Kd.C_drewN RAq.out _⟩, ⟨Kd.C_drewN RBq.out _⟩⟩
                case measure => simp [intOf]; omega
            · have hqe : q = b.length := by omega
              subst hqe
              have hft : fb = true := by rw [HFB.out, List.take_length]; exact decide_eq_true (HAB.out _ (List.getElem_mem hlt))
              subst hft
              clear hqt HFB
              go_wp2
              go_roundw
              case rel => exact ⟨j + 1, by omega, by go_num, HBq, RAq, RBq⟩
              case measure => simp [intOf]; omega
        · have hje : j = a.length := by omega
          subst hje
          clear hlt hj HAB
          go_wp2
          go_loopw [14] (fun i wr => ∃ j : Nat, j ≤ b.length ∧ i = .int .i64 j ∧ Aside0 (Below w.heap.size w wr) ∧ Aside0 (Kd.C k25 wr Aa a.length a) ∧ Aside0 (Kd.C k25 wr Ab b.length b)) (fun i _ => b.length - (intOf i).toNat)
          case atStart => exact ⟨0, Nat.zero_le _, rfl, HBr, RAr, RBr⟩
          case round =>
            clear HBr RAr RBr
            obtain ⟨j, hj, rfl, HBr, RAr, RBr⟩ := hrel
            by_cases hlt : j < b.length
            · obtain ⟨bd, e, q0, q1, q2, q3⟩ := at25 RBr.out hlt
              subst e
              obtain ⟨y, hy⟩ : ∃ y, y = b[j] := ⟨_, rfl⟩
              rw [← hy] at q0 q1 q2 q3
              have HY := Aside0.mk hy
              clear hy
              go_wp2
              obtain ⟨wo, rfl⟩ : ∃ wo : World, wo = wr := ⟨_, rfl⟩
              clear q0 q1 q2 q3
              go_loopw [15, 16] (fun f i wr => ∃ (q : Nat) (fb : Bool), q ≤ a.length ∧ i = .int .i64 q ∧ f = .bool fb ∧ Aside0 (fb = (decide (y.f3 = 4) || decide (y ∈ a.take q))) ∧ Aside0 (Below w.heap.size w wr) ∧ Aside0 (Kd.C k25 wr Aa a.length a) ∧ Aside0 (Kd.C k25 wr (some bd) b.length b)) (fun _ i _ => a.length - (intOf i).toNat)
              case atStart => exact ⟨0, decide (y.f3 = 4), Nat.zero_le _, rfl, by first | rfl | (congr 1; simp), ⟨by simp⟩, HBr, RAr, RBr⟩
              case round =>
                obtain ⟨q, fb, hq, rfl, rfl, HFB, HBq, RAq, RBq⟩ := hrel
                by_cases hqt : q < a.length
                · obtain ⟨ad, e, p0, p1, p2, p3⟩ := at25 RAq.out hqt
                  subst e
                  obtain ⟨bd', e, q0, q1, q2, q3⟩ := at25 RBq.out hlt
                  obtain rfl : bd = bd' := by injection e
                  have hE := eqB_is a[q] b[j]
                  have HS := Aside0.mk (mem_take_succ y hqt)
                  obtain ⟨x, hx⟩ : ∃ x, x = a[q] := ⟨_, rfl⟩
                  rw [← hx] at p0 p1 p2 p3 hE HS
                  rw [← HY.out] at q0 q1 q2 q3 hE
                  obtain ⟨eb, heb⟩ : ∃ eb, eb = decide (x = y) := ⟨_, rfl⟩
                  have heb2 : decide (y = x) = eb := by rw [heb]; exact decide_eq_decide.2 ⟨Eq.symm, Eq.symm⟩
                  have HS2 := Aside0.mk HS.out
                  rw [heb2] at HS2
                  rw [← heb] at hE
                  clear heb heb2 HS hx
                  cases fb with
                  | true =>
                    go_wp2
                    go_quiet (fail)
                    go_wp2
                    go_roundw
                    case rel => exact ⟨q + 1, true, by omega, by go_num, rfl, ⟨by rw [HS2.out, ← Bool.or_assoc, ← HFB.out]; rfl⟩, ⟨pw_below_drewN HBq.out _⟩, ⟨Kd.C_drewN RAq.out _⟩, ⟨Kd.C_drewN RBq.out _⟩⟩
                    case measure => simp [intOf]; omega
                  | false =>
                    go_wp2
                    go_quiet (fail)
                    go_wp2
                    go_roundw
                    case rel => exact ⟨q + 1, eb, by omega, by go_num, rfl, ⟨by rw [HS2.out, ← Bool.or_assoc, ← HFB.out]; rfl⟩, ⟨pw_below_drewN HBq.out _⟩, ⟨Kd.C_drewN RAq.out _⟩, ⟨Kd.C_drewN RBq.out _⟩⟩
                    case measure => simp [intOf]; omega
                · have hqe : q = a.length := by omega
                  subst hqe
                  have hft : fb = true := by
                    rw [HFB.out, List.take_length, HY.out, Bool.or_eq_true, decide_eq_true_iff, decide_eq_true_iff]
                    exact HBA.out _ (List.getElem_mem hlt)
                  subst hft
                  clear hqt HFB
                  go_wp2
                  go_roundw
                  case rel => exact ⟨j + 1, by omega, by go_num, HBq, RAq, RBq⟩
                  case measure => simp [intOf]; omega
            · go_wp2
              go_ret
              exact ⟨rfl, HBr.out⟩
end Go.Proofs.YtcibglpbfaffgaaDoor.X
