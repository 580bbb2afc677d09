/- The walk of ExamineSpoilt. -/
import Derived.Test.YtcibglpbfaffgaaDoorHA
import Derived.Test.YtcibglpbfaffgaaDoorQ4
import Derived.Deep.RegionHeld3
import Derived.Outline
namespace Go.Proofs.YtcibglpbfaffgaaDoor.X
open Go Go.RowKit Go.Proofs.YtcibglpbfaffgaaDoorW.PrintWords Go.Proofs.YtcibglpbfaffgaaDoorW.PrintLast Go.Proofs.YtcibglpbfaffgaaDoorW.PrintMore
set_option linter.unusedVariables false
set_option linter.unusedSimpArgs false
attribute [local go_sem high] eqA25o
def spOut (at_ : Int) (field want : ByteArray) (bf : Bool) (len : Nat) : Bool := !bf || (decide (at_ < 0) || (decide ((len : Int) ≤ at_) || decide (200 < (field.size : Int) + want.size)))
theorem mem_take_succ7 (x : S25) {l : List S25} {q : Nat} (h : q < l.length) : decide (x ∈ l.take (q + 1)) = (decide (x ∈ l.take q) || decide (l[q] = x)) := by
  rw [Bool.eq_iff_iff, Bool.or_eq_true, decide_eq_true_iff, decide_eq_true_iff, decide_eq_true_iff, List.take_succ_eq_append_getElem h, List.mem_append, List.mem_singleton]
  exact or_congr Iff.rfl ⟨Eq.symm, Eq.symm⟩
set_option maxHeartbeats 8000000 in
set_option maxRecDepth 100000 in
theorem spoilt7 (docs : List S37) (A1 : Option Addr) (n1 : Nat) (at_ : Int) (field want : ByteArray) (bf : Bool) (l : List S25) (w : World)
    (hD : Kd.C k37 w A1 docs.length docs) (hDn : docs.length ≤ n1) (hG : Glob w) (hf : Ev (fewK z33 docs) bf) (hs1 : field.size ≤ lim47r) (hs2 : want.size ≤ lim47r)
    (hl : spOut at_ field want bf docs.length = false → ∃ (i : Nat) (hi : i < docs.length), at_ = i ∧ docs[i].f3.length ≤ 30 ∧ Ev (fun k => exF k (spCredit docs[i].f0 field want) docs 5) l ∧
      (if (getOf docs[i].f3 field).2 = true ∧ (getOf docs[i].f3 field).1.toList = want.toList then
        spFault i docs[i].f0 field (getOf docs[i].f3 field).2 ∈ l → docs[i].f0 = 0 ∨ docs[i].f0 = 2
      else spFault i docs[i].f0 field (getOf docs[i].f3 field).2 ∈ l)) :
    Calls Tryd.prog 7 #[.slice A1 docs.length n1, .int .i64 at_, .string field, .string want] w fun e w' => e = .returned (.bool true) ∧ Below w.heap.size w w' := by
  have hu33 := Tryd.underlying33
  have hu25 := Tryd.underlying25
  have hu37 := Tryd.underlying37
  have hmx : docs.length ≤ 9223372036854775807 := hD.2.1
  have hz1 : field.size ≤ 140737488351232 := hs1
  have hz2 : want.size ≤ 140737488351232 := hs2
  clear hs1 hs2
  have HD := Aside0.mk hD
  have HDN := Aside0.mk hDn
  have HG := Aside0.mk hG
  have HF := Aside0.mk hf
  have HL := Aside0.mk hl
  clear hD hDn hG hf hl
  obtain ⟨g, hgd⟩ : ∃ g, g = spOut at_ field want bf docs.length := ⟨_, rfl⟩
  have HGD := Aside0.mk hgd
  clear hgd
  go_enter Tryd.func7, Tryd.ntmps7
  go_upto_region 3 with (go_at_call 11; refine (awakeC _ HG.out).mono ?_; rintro e w1 ⟨rfl, hb1⟩)
  have HB1 := Aside0.mk hb1
  clear hb1
  go_cut [40] (fun v wx => v = .bool g ∧ Aside0 (Below w.heap.size w wx))
  case first =>
    have RF := Aside0.mk (fewC z33 none 0 docs A1 n1 w1 bf (C_nil k45 w1) (Nat.le_refl _) (Kd.C_below HD.out HB1.out) HDN.out HF.out)
    simp only [cc, z33, z30, List.length_nil] at RF
    cases bf with
    | false =>
      have FX := Aside0.mk (show spOut at_ field want false docs.length = true from rfl)
      go_wp2_with (go_at_call 14; refine RF.out.mono ?_; rintro e w2 ⟨rfl, hb2⟩)
      go_meet
      exact ⟨by rw [HGD.out, FX.out], ⟨HB1.out.trans (hb2.mono HB1.out.size)⟩⟩
    | true =>
      by_cases k0 : at_ < 0
      · have k0b : decide (at_ < 0) = true := decide_eq_true k0
        have FX := Aside0.mk (show spOut at_ field want true docs.length = true by unfold spOut; rw [decide_eq_true k0]; simp)
        clear k0
        go_wp2_with (go_at_call 14; refine RF.out.mono ?_; rintro e w2 ⟨rfl, hb2⟩)
        go_meet
        exact ⟨by rw [HGD.out, FX.out], ⟨HB1.out.trans (hb2.mono HB1.out.size)⟩⟩
      · have k0b : decide (at_ < 0) = false := decide_eq_false k0
        by_cases k1 : (docs.length : Int) ≤ at_
        · have k1b : decide ((docs.length : Int) ≤ at_) = true := decide_eq_true k1
          have FX := Aside0.mk (show spOut at_ field want true docs.length = true by unfold spOut; rw [decide_eq_true k1]; simp)
          clear k0 k1
          go_wp2_with (go_at_call 14; refine RF.out.mono ?_; rintro e w2 ⟨rfl, hb2⟩)
          go_meet
          exact ⟨by rw [HGD.out, FX.out], ⟨HB1.out.trans (hb2.mono HB1.out.size)⟩⟩
        · have k1b : decide ((docs.length : Int) ≤ at_) = false := decide_eq_false k1
          by_cases k2 : 200 < (field.size : Int) + want.size
          · have k2b : decide (200 < (field.size : Int) + want.size) = true := decide_eq_true k2
            have k2c : decide (200 < field.size + want.size) = true := decide_eq_true (by omega)
            have FX := Aside0.mk (show spOut at_ field want true docs.length = true by unfold spOut; rw [decide_eq_true k2]; simp)
            clear k0 k1 k2
            go_wp2_with (go_at_call 14; refine RF.out.mono ?_; rintro e w2 ⟨rfl, hb2⟩)
            go_meet
            exact ⟨by rw [HGD.out, FX.out], ⟨HB1.out.trans (hb2.mono HB1.out.size)⟩⟩
          · have k2b : decide (200 < (field.size : Int) + want.size) = false := decide_eq_false k2
            have k2c : decide (200 < field.size + want.size) = false := decide_eq_false (by omega)
            have FX := Aside0.mk (show spOut at_ field want true docs.length = false by unfold spOut; rw [decide_eq_false k0, decide_eq_false k1, decide_eq_false k2]; rfl)
            clear k0 k1 k2
            go_wp2_with (go_at_call 14; refine RF.out.mono ?_; rintro e w2 ⟨rfl, hb2⟩)
            go_meet
            exact ⟨by rw [HGD.out, FX.out], ⟨HB1.out.trans (hb2.mono HB1.out.size)⟩⟩
  case rest =>
    obtain ⟨rfl, HB⟩ := hcut
    cases g with
    | true =>
      go_wp2
      go_ret
      exact ⟨rfl, HB.out⟩
    | false =>
      obtain ⟨i, hi, rfl, hfl, hex, hlaw⟩ := HL.out HGD.out.symm
      have HEX := Aside0.mk hex
      have HLAW := Aside0.mk hlaw
      have HFL := Aside0.mk hfl
      clear hex hlaw HL hfl
      obtain ⟨ad, A3, c3, e, p0, p1, p2, p3, hl3, hc3⟩ := at_T37 (Kd.C_below HD.out HB.out) (i : Int) (by omega) (by omega)
      subst e
      rw [rd37 hi] at p0 p1 p2 p3 hl3 hc3
      simp only [Int.toNat_natCast] at p0 p1 p2 p3
      obtain ⟨d, hd⟩ : ∃ d, d = docs[i] := ⟨_, rfl⟩
      rw [← hd] at p0 p1 p2 p3 hl3 hc3 HEX HLAW HFL
      clear hd
      have HL3 := Aside0.mk hl3
      have HC3 := Aside0.mk hc3
      clear hl3 hc3
      go_upto_region 7 with (refine wpList_store_event rfl rfl 33 _ _ rfl (wc.heap.size + 1) (cc (spCredit d.f0 field want) (some ⟨wc.heap.size, 0, none⟩) 1) rfl rfl 33 _ (heap2 wc _ _) (by kernel_rfl) rfl (cc_one _ _ _) ?_; intro w4 c4 o4 b4)
      have HBC := Aside0.mk ((below_alloc (below_alloc (Below.refl wc.heap.size wc) _) _).trans (b4.mono (Nat.le_succ _)))
      have HB4 := Aside0.mk (HB.out.trans (HBC.out.mono HB.out.size))
      have HN4 := Aside0.mk ((o4 wc.heap.size (Nat.ne_of_lt (Nat.lt_succ_self _))).trans (heap1 wc _ _))
      have HC4 := Aside0.mk c4
      clear c4 o4 b4
      obtain ⟨gv, hgv⟩ : ∃ gv, gv = getOf d.f3 field := ⟨_, rfl⟩
      have RG := Aside0.mk (getC d.f3 A3 c3 field w4 (Kd.C_below HC3.out HBC.out) HL3.out (by have := HFL.out; omega))
      rw [← hgv] at RG HLAW
      clear hgv p0 p1 p2
      replace p3 := cell_keep HBC.out p3
      obtain ⟨v, ok⟩ := gv
      simp only at RG HLAW
      obtain ⟨y, hy⟩ : ∃ y : Int, y = if ok = true then 2 else 1 := ⟨_, rfl⟩
      have HY := Aside0.mk hy
      clear hy
      obtain ⟨wz, rfl⟩ : ∃ wz : World, wz = wc := ⟨_, rfl⟩
      go_upto_if 68 with (go_at_call 19; refine RG.out.mono ?_; rintro e w5 ⟨rfl, hd5⟩; have hb5 := drawn_below hd5; clear hd5)
      have HW5 := Aside0.mk hb5
      clear hb5
      go_cut [] (fun wx => Aside0 (Below w5.heap.size w5 wx) ∧ Aside0 (wx.heap[w5.heap.size]? = some (.cells #[.int .i64 i, .int .i64 d.f0, .string field, .int .i64 y] 25 (0, 0))))
      case first =>
        cases ok with
        | false =>
          have hy1 : y = 1 := HY.out
          subst hy1
          go_wp2
          go_meet
          exact ⟨⟨below_alloc (Below.refl _ _) _⟩, ⟨heap_alloc_new w5 _⟩⟩
        | true =>
          have hy1 : y = 2 := HY.out
          subst hy1
          go_wp2
          go_meet
          exact ⟨⟨below_alloc (Below.refl _ _) _⟩, ⟨heap_alloc_new w5 _⟩⟩
      case rest =>
        obtain ⟨HB5, HF5⟩ := hcut
        have HB6 := Aside0.mk ((HB4.out.trans (HW5.out.mono HB4.out.size)).trans (HB5.out.mono (Nat.le_trans HB4.out.size HW5.out.size)))
        have HN6 := Aside0.mk (blk_below (blk_below HN4.out HW5.out) HB5.out)
        have HC6 := Aside0.mk (blk_below (blk_below HC4.out HW5.out) HB5.out)
        have RE := Aside0.mk (examC (spCredit d.f0 field want) (some ⟨wz.heap.size, 0, none⟩) 1 docs (some ad) n1 5 l wc (C45_at (spNeed d.f0 field want) rfl HN6.out) (Nat.le_refl _) (Kd.C_below HD.out HB6.out) HDN.out (Glob_below HG.out HB6.out) HEX.out)
        clear HN4 HC4 p3 RG
        go_wp2_with (first | (refine wpList_load_row rfl 33 _ rfl (wz.heap.size + 1) rfl 33 _ (0, 0) _ HC6.out hu33 rfl (by kernel_rfl) ?_) | (go_at_call 18; refine RE.out.mono ?_; rintro e w7 ⟨Al, cl, rfl, hll, hRl, hb7⟩))
        have HB7 := Aside0.mk (HB6.out.trans (hb7.mono HB6.out.size))
        have HF7 := Aside0.mk (blk_below HF5.out hb7)
        have RL := Aside0.mk hRl
        have hml : l.length ≤ 9223372036854775807 := hRl.2.1
        clear hb7 hRl hll RE HC6 HN6
        obtain ⟨B, hB⟩ : ∃ B, B = w5.heap.size := ⟨_, rfl⟩
        rw [← hB] at HF7 ⊢
        clear hB
        go_loopw [14, 16] (fun f i_ wr => ∃ (q : Nat) (fb : Bool), q ≤ l.length ∧ i_ = .int .i64 q ∧ f = .bool fb ∧ Aside0 (fb = decide ((⟨i, d.f0, field, y⟩ : S25) ∈ l.take q)) ∧ Aside0 (Below w.heap.size w wr) ∧ Aside0 (Kd.C k25 wr Al l.length l) ∧ Aside0 (wr.heap[B]? = some (.cells #[.int .i64 i, .int .i64 d.f0, .string field, .int .i64 y] 25 (0, 0)))) (fun _ i_ _ => l.length - (intOf i_).toNat)
        case atStart => exact ⟨0, false, Nat.zero_le _, rfl, rfl, ⟨by simp⟩, HB7, RL, HF7⟩
        case round =>
          clear HB7 RL HF7
          obtain ⟨q, fb, hq, rfl, rfl, HFB, HBq, RLq, HFq⟩ := hrel
          by_cases hqt : q < l.length
          · obtain ⟨ld, e, q0, q1, q2, q3⟩ := at25 RLq.out hqt
            subst e
            have f0 : wr.cell? ⟨B, 0, none⟩ = some (.int .i64 i) := cell_of_blk HFq.out rfl
            have f1 : wr.cell? ⟨B, 1, none⟩ = some (.int .i64 d.f0) := cell_of_blk HFq.out rfl
            have f2 : wr.cell? ⟨B, 2, none⟩ = some (.string field) := cell_of_blk HFq.out rfl
            have f3 : wr.cell? ⟨B, 3, none⟩ = some (.int .i64 y) := cell_of_blk HFq.out rfl
            have hE := eqB_is l[q] ⟨i, d.f0, field, y⟩
            simp only at hE
            have HS := Aside0.mk (mem_take_succ7 (⟨i, d.f0, field, y⟩ : S25) hqt)
            obtain ⟨x, hx⟩ : ∃ x, x = l[q] := ⟨_, rfl⟩
            rw [← hx] at q0 q1 q2 q3 hE HS
            obtain ⟨eb, heb⟩ : ∃ eb, eb = decide (x = (⟨i, d.f0, field, y⟩ : S25)) := ⟨_, rfl⟩
            rw [← heb] at hE HS
            clear heb hx
            cases fb with
            | true =>
              go_wp2
              go_quiet (fail)
              go_wp2
              go_roundw
              case rel => exact ⟨q + 1, true, by omega, by go_num, rfl, ⟨by rw [HS.out, ← HFB.out]; rfl⟩, ⟨pw_below_drewN HBq.out _⟩, ⟨Kd.C_drewN RLq.out _⟩, ⟨HFq.out⟩⟩
              case measure => simp [intOf]; omega
            | false =>
              go_wp2
              go_quiet (fail)
              go_wp2
              go_roundw
              case rel => exact ⟨q + 1, eb, by omega, by go_num, rfl, ⟨by rw [HS.out, ← HFB.out]; rfl⟩, ⟨pw_below_drewN HBq.out _⟩, ⟨Kd.C_drewN RLq.out _⟩, ⟨HFq.out⟩⟩
              case measure => simp [intOf]; omega
          · have hqe : q = l.length := by omega
            subst hqe
            have hfb : fb = decide ((⟨i, d.f0, field, y⟩ : S25) ∈ l) := by rw [HFB.out, List.take_length]
            have hsp : spFault i d.f0 field ok = ⟨i, d.f0, field, y⟩ := by rw [HY.out]; rfl
            have hlaw := HLAW.out
            rw [hsp] at hlaw
            clear hqt HFB HLAW HEX
            cases ok with
            | false =>
              rw [if_neg (by simp)] at hlaw
              have hft : fb = true := by rw [hfb]; exact decide_eq_true hlaw
              subst hft
              clear hlaw hfb hsp
              go_wp2
              go_ret
              exact ⟨rfl, HBq.out⟩
            | true =>
              by_cases hv : v.toList = want.toList
              · rw [if_pos ⟨rfl, hv⟩] at hlaw
                have hvb : (v.toList == want.toList) = true := beq_iff_eq.2 hv
                have hvc : (v.toList != want.toList) = false := bne_eq_false_iff_eq.2 hv
                clear hv
                cases fb with
                | false =>
                  clear hlaw hfb hsp
                  go_wp2
                  go_ret
                  exact ⟨rfl, HBq.out⟩
                | true =>
                  have hk := hlaw (of_decide_eq_true hfb.symm)
                  clear hlaw hfb hsp
                  by_cases hk0 : d.f0 = 0
                  · have hk0b : (d.f0 == 0) = true := beq_iff_eq.2 hk0
                    clear hk hk0
                    go_wp2
                    go_ret
                    exact ⟨rfl, HBq.out⟩
                  · have hk0b : (d.f0 == 0) = false := beq_eq_false_iff_ne.2 hk0
                    have hk2b : (d.f0 == 2) = true := beq_iff_eq.2 (hk.resolve_left hk0)
                    clear hk hk0
                    go_wp2
                    go_ret
                    exact ⟨rfl, HBq.out⟩
              · rw [if_neg (fun h => hv h.2)] at hlaw
                have hvb : (v.toList == want.toList) = false := beq_eq_false_iff_ne.2 hv
                have hvc : (v.toList != want.toList) = true := bne_iff_ne.2 hv
                have hft : fb = true := by rw [hfb]; exact decide_eq_true hlaw
                subst hft
                clear hv hlaw hfb hsp
                go_wp2
                go_ret
                exact ⟨rfl, HBq.out⟩
end Go.Proofs.YtcibglpbfaffgaaDoor.X
