/- What is wrong with a paper by the needs of its kind: the contract of its function over the state of a teller. -/
import Derived.Test.YtcibglpbfaffgaaDoorG5
namespace Go.Proofs.YtcibglpbfaffgaaDoor.X
open Go.RowKit Go.Proofs.YtcibglpbfaffgaaDoorW.PrintWords Go.Proofs.YtcibglpbfaffgaaDoorW.PrintLast Go.Proofs.YtcibglpbfaffgaaDoorW.PrintMore
set_option linter.unusedVariables false

/-- A part's field, where it is an atom. -/
def nameP (p : S43) : ByteArray := if 3 ≤ p.f0 ∧ p.f0 ≤ 7 then p.f2 else ⟨#[]⟩
/-- Why a part doesn't hold. -/
def whyP (p : S43) (r : Int) : Int := if p.f0 = 7 ∧ r = 2 then 3 else r
def okT (L : List S25) (name : ByteArray) (y : Int) : Bool := (Lit.int .i64 y).wf && (decide (name.size ≤ maxLen) && decide (L.length < 1000000))
def partsF (k : Nat) (docs : List S37) (d : S37) (a : Int) : List S43 → List S25 → Option (List S25)
  | [], L => some L
  | p :: ps, L => (examine_rule.f k p.f0 p.f1 p.f2 p.f3 p.f4 p.f5 docs d.f0 d.f1 d.f2 d.f3).bind fun r => if okT L (nameP p) (whyP p r) = true then partsF k docs d a ps (tellF L ⟨a, d.f0, nameP p, whyP p r⟩) else none
def ruledF (k : Nat) (docs : List S37) (d : S37) (a : Int) : List S45 → List S25 → Option (List S25)
  | [], L => some L
  | n :: ns, L => if n.f0 = d.f0 then (examine_parts.f k n.f2.f0 n.f2.f1 n.f2.f2 n.f2.f3 n.f2.f4 n.f2.f5).bind fun ps => (partsF k docs d a ps L).bind fun L1 => ruledF k docs d a ns L1 else ruledF k docs d a ns L

theorem rd45 {l : List S45} {j : Nat} (h : j < l.length) : rd_T45 l (j : Int) = l[j] := by simp [rd_T45, List.getD_eq_getElem?_getD, h]
theorem rd43 {l : List S43} {j : Nat} (h : j < l.length) : rd_T43 l (j : Int) = l[j] := by simp [rd_T43, List.getD_eq_getElem?_getD, h]
theorem rd37 {l : List S37} {j : Nat} (h : j < l.length) : rd_T37 l (j : Int) = l[j] := by simp [rd_T37, List.getD_eq_getElem?_getD, h]

section
variable {w0 w : World} {g M ba bk bt : Nat} {v : Value} {L : List S25} {a : Int}
set_option maxHeartbeats 1600000 in
set_option maxRecDepth 100000 in
theorem ruled33 (k : Nat) (c : S33) (A : Option Addr) (n : Nat) (docs : List S37) (A1 : Option Addr) (n1 : Nat) (d : S37) (A3 : Option Addr) (n3 : Nat) (L' : List S25) (hB : Below w0.heap.size w0 w) (hG : Glob w0) (hS : TS w0.heap.size w g M v L)
    (h0 : w.heap[ba]? = some (.cells #[.int .i64 a] 3 (0, 0))) (h1 : w.heap[bk]? = some (.cells #[.int .i64 d.f0] 3 (0, 0))) (h2 : w.heap[bt]? = some (.cells #[.pointer (some ⟨g, 0, none⟩)] 67 (0, 0)))
    (ha : (Lit.int .i64 a).wf = true) (hk : (Lit.int .i64 d.f0).wf = true)
    (hC : Kd.C k45 w0 A c.f16.length c.f16) (hCn : c.f16.length ≤ n) (hD : Kd.C k37 w0 A1 docs.length docs) (hDn : docs.length ≤ n1)
    (hd : Kd.C k66 w0 A3 d.f3.length d.f3) (hdc : d.f3.length ≤ n3) (hres : ruledF k docs d a c.f16 L = some L') :
    Calls Tryd.prog 33 #[.agg (cc c A n), .slice A1 docs.length n1, .agg #[.int .i64 d.f0, .string d.f1, .string d.f2, .slice A3 d.f3.length n3], .func (.func 41) #[] #[.pointer (some ⟨ba, 0, none⟩), .pointer (some ⟨bk, 0, none⟩), .pointer (some ⟨bt, 0, none⟩)]] w
      fun e w' => e = .returned (.tuple #[]) ∧ ∃ v', TS w0.heap.size w' g M v' L' ∧ Fr w w' g M v v' := by
  have hu45 := Tryd.underlying45
  have hu43 := Tryd.underlying43
  have hu37 := Tryd.underlying37
  have hmx : c.f16.length ≤ 9223372036854775807 := hC.2.1
  obtain ⟨W1, hW1⟩ : ∃ W1, W1 = ((w.alloc (.cells (cc c A n) 33)).alloc (.cells #[.int .i64 d.f0, .string d.f1, .string d.f2, .slice A3 d.f3.length n3] 37)) := ⟨_, rfl⟩
  have HBW : Aside0 (Below w.heap.size w W1) := ⟨by rw [hW1]; exact below_alloc (below_alloc (Below.refl _ _) _) _⟩
  have HDB : Aside0 (W1.heap[w.heap.size + 1]? = some (.cells #[.int .i64 d.f0, .string d.f1, .string d.f2, .slice A3 d.f3.length n3] 37 (0, 0))) := ⟨by rw [hW1]; have := heap_alloc_new (w.alloc (.cells (cc c A n) 33)) (.cells #[.int .i64 d.f0, .string d.f1, .string d.f2, .slice A3 d.f3.length n3] 37); simpa using this⟩
  have HS1 := Aside0.mk (hS.below HBW.out)
  have HB1 := Aside0.mk (hB.trans (HBW.out.mono hB.size))
  have E0 := Aside0.mk (blk_below h0 HBW.out)
  have E1 := Aside0.mk (blk_below h1 HBW.out)
  have E2 := Aside0.mk (blk_below h2 HBW.out)
  have HHC := Aside0.mk hC
  have HHD := Aside0.mk hD
  have HHd := Aside0.mk hd
  have HG := Aside0.mk hG
  have HRES := Aside0.mk hres
  have HCN := Aside0.mk hCn
  have HDN := Aside0.mk hDn
  have HDC := Aside0.mk hdc
  have HA := Aside0.mk ha
  have HK := Aside0.mk hk
  unfold cc at hW1 ⊢
  have HW1 := Aside0.mk hW1
  clear hB hS h0 h1 h2 hC hD hd hG hres hCn hDn hdc ha hk hW1
  go_enter Tryd.func33, Tryd.ntmps33
  go_wp2
  rw [← HW1.out]
  go_loopw [17] (fun i wr => ∃ j : Nat, j ≤ c.f16.length ∧ i = .int .i64 j ∧ ∃ v1 L1, Aside0 (TS w0.heap.size wr g M v1 L1) ∧ Aside0 (ruledF k docs d a (c.f16.drop j) L1 = some L') ∧ Aside0 (Fr W1 wr g M v v1)) (fun i _ => c.f16.length - (intOf i).toNat)
  case atStart => exact ⟨0, Nat.zero_le _, rfl, v, L, HS1, by simpa using HRES, ⟨Fr.refl _ _ _ _⟩⟩
  case round =>
    obtain ⟨j, hj, rfl, v1, L1, HSr, HR, HF⟩ := hrel
    by_cases hlt : j < c.f16.length
    · obtain ⟨ad, A7, c7, e, p0, p1, p2, p3, p4, p5, p6, p7, hl7, hc7⟩ := at_T45 HHC.out (j : Int) (by omega) (by omega)
      cases e
      have HBr := Aside0.mk (HB1.out.trans (HF.out.base HS1.out HB1.out.size))
      replace p0 := cell_keep HBr.out p0
      replace p1 := cell_keep HBr.out p1
      replace p2 := cell_keep HBr.out p2
      replace p3 := cell_keep HBr.out p3
      replace p4 := cell_keep HBr.out p4
      replace p5 := cell_keep HBr.out p5
      replace p6 := cell_keep HBr.out p6
      replace p7 := cell_keep HBr.out p7
      rw [rd45 hlt] at p0 p1 p2 p3 p4 p5 p6 p7 hl7 hc7
      simp only [Int.toNat_natCast] at p0 p1 p2 p3 p4 p5 p6 p7
      obtain ⟨nd, hnd⟩ : ∃ nd, nd = c.f16[j] := ⟨_, rfl⟩
      rw [← hnd] at p0 p1 p2 p3 p4 p5 p6 p7 hl7 hc7
      have hdrop : c.f16.drop j = nd :: c.f16.drop (j + 1) := by rw [hnd]; exact List.drop_eq_getElem_cons hlt
      have HR2 := Aside0.mk (show ruledF k docs d a (nd :: c.f16.drop (j + 1)) L1 = some L' by rw [← hdrop]; exact HR.out)
      have HL7 := Aside0.mk hl7
      have HC7 := Aside0.mk hc7
      have dk := blk_fr HS1.out HF.out HDB.out (by decide) (by decide)
      have DK := Aside0.mk dk
      have dk0 : wr.cell? ⟨w.heap.size + 1, 0, none⟩ = some (.int .i64 d.f0) := cell_of_blk dk rfl
      have ldk := (cell_lt dk0).2
      have dn := fun o => cell_new wr o dk0 ldk
      clear hnd hdrop HR hl7 hc7 dk
      by_cases hke : nd.f0 = d.f0
      · have hkb : (nd.f0 != d.f0) = false := by simpa using hke
        have h3 := HR2.out
        rw [ruledF, if_pos hke] at h3
        obtain ⟨ps, hps, h4⟩ := Option.bind_eq_some_iff.1 h3
        obtain ⟨L2, hps2, h5⟩ := Option.bind_eq_some_iff.1 h4
        have HPS := Aside0.mk hps
        have HPS2 := Aside0.mk hps2
        have HR3 := Aside0.mk h5
        clear hke h3 h4 hps hps2 h5
        go_wp2_with fail
        refine (examine_parts.calls k _ _ _ _ _ (fun q => q < w0.heap.size) A7 c7 nd.f2.f5 ps _ (Kd.V_mk HL7.out (Kd.F_below (Kd.C_F k43_heap HC7.out) (below_alloc HBr.out _))) HPS.out).mono ?_
        rintro e w2 ⟨pv, rfl, hN, hb2⟩
        obtain ⟨Ap, np, hpv⟩ := Kd.N_slice hN
        subst hpv
        have hpm : ps.length ≤ 9223372036854775807 := (Kd.N_reads' hN).2.2.2.1
        have hB2 : Below wr.heap.size wr w2 := (below_alloc (Below.refl _ _) _).trans (hb2.mono (by simp))
        have HN := Aside0.mk (Kd.N_mono (ok' := fun q => (q < w0.heap.size ∨ wr.heap.size < q) ∧ q < w2.heap.size) (Kd.N_bound hN) (fun q hq => ⟨hq.1.imp id (fun h => by simp at h; omega), hq.2⟩))
        have HB2 := Aside0.mk hB2
        have DK2 := Aside0.mk (blk_below DK.out hB2)
        have HS2 := Aside0.mk (HSr.out.below hB2)
        clear hN hb2 hB2 p0 p1 p2 p3 p4 p5 p6 p7 dk0 ldk dn hkb
        go_wp2
        obtain ⟨wo, rfl⟩ : ∃ wo : World, wo = wr := ⟨_, rfl⟩
        go_loopw [30] (fun i wi => ∃ q : Nat, q ≤ ps.length ∧ i = .int .i64 q ∧ ∃ v2 L3, Aside0 (TS w0.heap.size wi g M v2 L3) ∧ Aside0 (partsF k docs d a (ps.drop q) L3 = some L2) ∧ Aside0 (Fr w2 wi g M v1 v2)) (fun i _ => ps.length - (intOf i).toNat)
        case atStart => exact ⟨0, Nat.zero_le _, rfl, v1, L1, HS2, by simpa using HPS2, ⟨Fr.refl _ _ _ _⟩⟩
        case round =>
          obtain ⟨q, hq, rfl, v2, L3, HSi, HRi, HFi⟩ := hrel
          by_cases hql : q < ps.length
          · have hnB : Below w2.heap.size w2 w2 := Below.refl _ _
            obtain ⟨n1_, n2_, n3_, lM_, lg_, lr_⟩ := HSr.out.ne
            have gb_ := HSr.out.gb
            have Mb_ := HSr.out.Mb
            have hNi := Kd.N_step (w1 := wr) HN.out (fun b hb hlt2 => HFi.out.block b hlt2 (by rcases hb.1 with h | h <;> omega) (by rcases hb.1 with h | h <;> omega) (fun e => by have := lr_ b e.symm; rcases hb.1 with h | h <;> omega))
            have hCi := (Kd.N_reads' hNi).2.2
            obtain ⟨ad2, A5, c5, e2, p0, p1, p2, p3, p4, p5, hl5, hc5⟩ := at_T43 hCi (q : Int) (by omega) (by omega)
            subst e2
            rw [rd43 hql] at p0 p1 p2 p3 p4 p5 hl5 hc5
            simp only [Int.toNat_natCast] at p0 p1 p2 p3 p4 p5
            obtain ⟨pp, hpp⟩ : ∃ pp, pp = ps[q] := ⟨_, rfl⟩
            rw [← hpp] at p0 p1 p2 p3 p4 p5 hl5 hc5
            have hdrop : ps.drop q = pp :: ps.drop (q + 1) := by rw [hpp]; exact List.drop_eq_getElem_cons hql
            have h6 := HRi.out
            rw [hdrop, partsF] at h6
            obtain ⟨r, hr, h7⟩ := Option.bind_eq_some_iff.1 h6
            have hok : okT L3 (nameP pp) (whyP pp r) = true := by
              cases hx : okT L3 (nameP pp) (whyP pp r) with
              | true => rfl
              | false => rw [hx, if_neg (by decide)] at h7; exact absurd h7 (by simp)
            rw [if_pos hok] at h7
            simp only [okT, Bool.and_eq_true, decide_eq_true_eq] at hok
            have HR7 := Aside0.mk h7
            have HRR := Aside0.mk hr
            have HOK := Aside0.mk hok
            have HL5 := Aside0.mk hl5
            have HC5 := Aside0.mk hc5
            have HBi := Aside0.mk (HBr.out.trans ((HB2.out.mono HBr.out.size).trans (HFi.out.base HS2.out (Nat.le_trans HBr.out.size HB2.out.size))))
            have dki := blk_fr HS2.out HFi.out DK2.out (by decide) (by decide)
            have dk0 : wr.cell? ⟨w.heap.size + 1, 0, none⟩ = some (.int .i64 d.f0) := cell_of_blk dki rfl
            have dk1 : wr.cell? ⟨w.heap.size + 1, 1, none⟩ = some (.string d.f1) := cell_of_blk dki rfl
            have dk2 : wr.cell? ⟨w.heap.size + 1, 2, none⟩ = some (.string d.f2) := cell_of_blk dki rfl
            have dk3 : wr.cell? ⟨w.heap.size + 1, 3, none⟩ = some (.slice A3 d.f3.length n3) := cell_of_blk dki rfl
            have ldk := (cell_lt dk0).2
            have dn0 := fun o => cell_new wr o dk0 ldk
            have dn1 := fun o => cell_new wr o dk1 ldk
            have dn2 := fun o => cell_new wr o dk2 ldk
            have dn3 := fun o => cell_new wr o dk3 ldk
            have F0 := Aside0.mk (blk_fr HS2.out HFi.out (blk_below (blk_fr HS1.out HF.out E0.out (by decide) (by decide)) HB2.out) (by decide) (by decide))
            have F1 := Aside0.mk (blk_fr HS2.out HFi.out (blk_below (blk_fr HS1.out HF.out E1.out (by decide) (by decide)) HB2.out) (by decide) (by decide))
            have F2 := Aside0.mk (blk_fr HS2.out HFi.out (blk_below (blk_fr HS1.out HF.out E2.out (by decide) (by decide)) HB2.out) (by decide) (by decide))
            clear hnB n1_ n2_ n3_ lM_ lg_ lr_ gb_ Mb_ hNi hCi hpp hdrop h6 h7 hr hok hl5 hc5 dki HRi
            by_cases k3 : 3 ≤ pp.f0
            · by_cases k7 : pp.f0 ≤ 7
              · by_cases k8 : pp.f0 = 7
                · have k8b : (pp.f0 == 7) = true := beq_iff_eq.2 k8
                  by_cases k2 : r = 2
                  · have k2b : (r == 2) = true := beq_iff_eq.2 k2
                    have en : nameP pp = pp.f2 := if_pos ⟨k3, k7⟩
                    have ew : whyP pp r = 3 := if_pos ⟨k8, k2⟩
                    have HY := Aside0.mk HOK.out
                    have HQ := Aside0.mk HR7.out
                    rw [en, ew] at HY HQ
                    clear en ew k8 k2
                    go_wp2_with fail
                    refine (examine_rule.calls k _ _ _ _ _ A5 c5 pp.f5 A1 n1 docs d.f0 d.f1 d.f2 A3 n3 d.f3 r _ (Kd.C_below HC5.out (below_alloc (Below.refl _ _) _)) HL5.out (Kd.C_below HHD.out (below_alloc HBi.out _)) HDN.out (Kd.C_below HHd.out (below_alloc HBi.out _)) HDC.out (Glob_below HG.out (below_alloc HBi.out _)) HRR.out).mono ?_
                    rintro e w3 ⟨rfl, hb3⟩
                    have HB3 := Aside0.mk ((below_alloc (Below.refl wr.heap.size wr) (.cells #[.int .i64 pp.f0, .int .i64 pp.f1, .string pp.f2, .string pp.f3, .int .i64 pp.f4, .slice A5 pp.f5.length c5] 43)).trans (hb3.mono (by simp)))
                    have pb := blk_below (heap_alloc_new wr _) hb3
                    have b0 : w3.cell? ⟨wr.heap.size, 0, none⟩ = some (.int .i64 pp.f0) := cell_of_blk pb rfl
                    have b2 : w3.cell? ⟨wr.heap.size, 2, none⟩ = some (.string pp.f2) := cell_of_blk pb rfl
                    clear hb3 pb
                    go_wp2_with fail
                    refine (tell41 (HSi.out.below HB3.out) (blk_below F0.out HB3.out) (blk_below F1.out HB3.out) (blk_below F2.out HB3.out) HA.out HK.out (by exact HY.out.1) (by exact HY.out.2.1) (by exact HY.out.2.2)).mono ?_
                    rintro e w4 ⟨rfl, v4, hts, hfr⟩
                    have HTS := Aside0.mk hts
                    have HFR := Aside0.mk hfr
                    clear hts hfr
                    go_wp2
                    go_roundw
                    case rel => exact ⟨q + 1, by omega, by go_num, v4, _, HTS, HQ, ⟨HFi.out.trans ((Fr.of_below HB3.out g M v2).trans HFR.out)⟩⟩
                    case measure => simp [intOf]; omega
                  · have k2b : (r == 2) = false := beq_eq_false_iff_ne.2 k2
                    have en : nameP pp = pp.f2 := if_pos ⟨k3, k7⟩
                    have ew : whyP pp r = r := if_neg (fun h => k2 h.2)
                    have HY := Aside0.mk HOK.out
                    have HQ := Aside0.mk HR7.out
                    rw [en, ew] at HY HQ
                    clear en ew k8 k2
                    go_wp2_with fail
                    refine (examine_rule.calls k _ _ _ _ _ A5 c5 pp.f5 A1 n1 docs d.f0 d.f1 d.f2 A3 n3 d.f3 r _ (Kd.C_below HC5.out (below_alloc (Below.refl _ _) _)) HL5.out (Kd.C_below HHD.out (below_alloc HBi.out _)) HDN.out (Kd.C_below HHd.out (below_alloc HBi.out _)) HDC.out (Glob_below HG.out (below_alloc HBi.out _)) HRR.out).mono ?_
                    rintro e w3 ⟨rfl, hb3⟩
                    have HB3 := Aside0.mk ((below_alloc (Below.refl wr.heap.size wr) (.cells #[.int .i64 pp.f0, .int .i64 pp.f1, .string pp.f2, .string pp.f3, .int .i64 pp.f4, .slice A5 pp.f5.length c5] 43)).trans (hb3.mono (by simp)))
                    have pb := blk_below (heap_alloc_new wr _) hb3
                    have b0 : w3.cell? ⟨wr.heap.size, 0, none⟩ = some (.int .i64 pp.f0) := cell_of_blk pb rfl
                    have b2 : w3.cell? ⟨wr.heap.size, 2, none⟩ = some (.string pp.f2) := cell_of_blk pb rfl
                    clear hb3 pb
                    go_wp2_with fail
                    refine (tell41 (HSi.out.below HB3.out) (blk_below F0.out HB3.out) (blk_below F1.out HB3.out) (blk_below F2.out HB3.out) HA.out HK.out (by exact HY.out.1) (by exact HY.out.2.1) (by exact HY.out.2.2)).mono ?_
                    rintro e w4 ⟨rfl, v4, hts, hfr⟩
                    have HTS := Aside0.mk hts
                    have HFR := Aside0.mk hfr
                    clear hts hfr
                    go_wp2
                    go_roundw
                    case rel => exact ⟨q + 1, by omega, by go_num, v4, _, HTS, HQ, ⟨HFi.out.trans ((Fr.of_below HB3.out g M v2).trans HFR.out)⟩⟩
                    case measure => simp [intOf]; omega
                · have k8b : (pp.f0 == 7) = false := beq_eq_false_iff_ne.2 k8
                  have en : nameP pp = pp.f2 := if_pos ⟨k3, k7⟩
                  have ew : whyP pp r = r := if_neg (fun h => k8 h.1)
                  have HY := Aside0.mk HOK.out
                  have HQ := Aside0.mk HR7.out
                  rw [en, ew] at HY HQ
                  clear en ew k8
                  go_wp2_with fail
                  refine (examine_rule.calls k _ _ _ _ _ A5 c5 pp.f5 A1 n1 docs d.f0 d.f1 d.f2 A3 n3 d.f3 r _ (Kd.C_below HC5.out (below_alloc (Below.refl _ _) _)) HL5.out (Kd.C_below HHD.out (below_alloc HBi.out _)) HDN.out (Kd.C_below HHd.out (below_alloc HBi.out _)) HDC.out (Glob_below HG.out (below_alloc HBi.out _)) HRR.out).mono ?_
                  rintro e w3 ⟨rfl, hb3⟩
                  have HB3 := Aside0.mk ((below_alloc (Below.refl wr.heap.size wr) (.cells #[.int .i64 pp.f0, .int .i64 pp.f1, .string pp.f2, .string pp.f3, .int .i64 pp.f4, .slice A5 pp.f5.length c5] 43)).trans (hb3.mono (by simp)))
                  have pb := blk_below (heap_alloc_new wr _) hb3
                  have b0 : w3.cell? ⟨wr.heap.size, 0, none⟩ = some (.int .i64 pp.f0) := cell_of_blk pb rfl
                  have b2 : w3.cell? ⟨wr.heap.size, 2, none⟩ = some (.string pp.f2) := cell_of_blk pb rfl
                  clear hb3 pb
                  go_wp2_with fail
                  refine (tell41 (HSi.out.below HB3.out) (blk_below F0.out HB3.out) (blk_below F1.out HB3.out) (blk_below F2.out HB3.out) HA.out HK.out (by exact HY.out.1) (by exact HY.out.2.1) (by exact HY.out.2.2)).mono ?_
                  rintro e w4 ⟨rfl, v4, hts, hfr⟩
                  have HTS := Aside0.mk hts
                  have HFR := Aside0.mk hfr
                  clear hts hfr
                  go_wp2
                  go_roundw
                  case rel => exact ⟨q + 1, by omega, by go_num, v4, _, HTS, HQ, ⟨HFi.out.trans ((Fr.of_below HB3.out g M v2).trans HFR.out)⟩⟩
                  case measure => simp [intOf]; omega
              · have k8b : (pp.f0 == 7) = false := beq_eq_false_iff_ne.2 (by omega)
                have en : nameP pp = ⟨#[]⟩ := if_neg (fun h => k7 h.2)
                have ew : whyP pp r = r := if_neg (fun h => by omega)
                have HY := Aside0.mk HOK.out
                have HQ := Aside0.mk HR7.out
                rw [en, ew] at HY HQ
                clear en ew
                go_wp2_with fail
                refine (examine_rule.calls k _ _ _ _ _ A5 c5 pp.f5 A1 n1 docs d.f0 d.f1 d.f2 A3 n3 d.f3 r _ (Kd.C_below HC5.out (below_alloc (Below.refl _ _) _)) HL5.out (Kd.C_below HHD.out (below_alloc HBi.out _)) HDN.out (Kd.C_below HHd.out (below_alloc HBi.out _)) HDC.out (Glob_below HG.out (below_alloc HBi.out _)) HRR.out).mono ?_
                rintro e w3 ⟨rfl, hb3⟩
                have HB3 := Aside0.mk ((below_alloc (Below.refl wr.heap.size wr) (.cells #[.int .i64 pp.f0, .int .i64 pp.f1, .string pp.f2, .string pp.f3, .int .i64 pp.f4, .slice A5 pp.f5.length c5] 43)).trans (hb3.mono (by simp)))
                have pb := blk_below (heap_alloc_new wr _) hb3
                have b0 : w3.cell? ⟨wr.heap.size, 0, none⟩ = some (.int .i64 pp.f0) := cell_of_blk pb rfl
                have b2 : w3.cell? ⟨wr.heap.size, 2, none⟩ = some (.string pp.f2) := cell_of_blk pb rfl
                clear hb3 pb
                go_wp2_with fail
                refine (tell41 (HSi.out.below HB3.out) (blk_below F0.out HB3.out) (blk_below F1.out HB3.out) (blk_below F2.out HB3.out) HA.out HK.out (by exact HY.out.1) (by exact HY.out.2.1) (by exact HY.out.2.2)).mono ?_
                rintro e w4 ⟨rfl, v4, hts, hfr⟩
                have HTS := Aside0.mk hts
                have HFR := Aside0.mk hfr
                clear hts hfr
                go_wp2
                go_roundw
                case rel => exact ⟨q + 1, by omega, by go_num, v4, _, HTS, HQ, ⟨HFi.out.trans ((Fr.of_below HB3.out g M v2).trans HFR.out)⟩⟩
                case measure => simp [intOf]; omega
            · have k8b : (pp.f0 == 7) = false := beq_eq_false_iff_ne.2 (by omega)
              have en : nameP pp = ⟨#[]⟩ := if_neg (fun h => k3 h.1)
              have ew : whyP pp r = r := if_neg (fun h => by omega)
              have HY := Aside0.mk HOK.out
              have HQ := Aside0.mk HR7.out
              rw [en, ew] at HY HQ
              clear en ew
              go_wp2_with fail
              refine (examine_rule.calls k _ _ _ _ _ A5 c5 pp.f5 A1 n1 docs d.f0 d.f1 d.f2 A3 n3 d.f3 r _ (Kd.C_below HC5.out (below_alloc (Below.refl _ _) _)) HL5.out (Kd.C_below HHD.out (below_alloc HBi.out _)) HDN.out (Kd.C_below HHd.out (below_alloc HBi.out _)) HDC.out (Glob_below HG.out (below_alloc HBi.out _)) HRR.out).mono ?_
              rintro e w3 ⟨rfl, hb3⟩
              have HB3 := Aside0.mk ((below_alloc (Below.refl wr.heap.size wr) (.cells #[.int .i64 pp.f0, .int .i64 pp.f1, .string pp.f2, .string pp.f3, .int .i64 pp.f4, .slice A5 pp.f5.length c5] 43)).trans (hb3.mono (by simp)))
              have pb := blk_below (heap_alloc_new wr _) hb3
              have b0 : w3.cell? ⟨wr.heap.size, 0, none⟩ = some (.int .i64 pp.f0) := cell_of_blk pb rfl
              have b2 : w3.cell? ⟨wr.heap.size, 2, none⟩ = some (.string pp.f2) := cell_of_blk pb rfl
              clear hb3 pb
              go_wp2_with fail
              refine (tell41 (HSi.out.below HB3.out) (blk_below F0.out HB3.out) (blk_below F1.out HB3.out) (blk_below F2.out HB3.out) HA.out HK.out (by exact HY.out.1) (by exact HY.out.2.1) (by exact HY.out.2.2)).mono ?_
              rintro e w4 ⟨rfl, v4, hts, hfr⟩
              have HTS := Aside0.mk hts
              have HFR := Aside0.mk hfr
              clear hts hfr
              go_wp2
              go_roundw
              case rel => exact ⟨q + 1, by omega, by go_num, v4, _, HTS, HQ, ⟨HFi.out.trans ((Fr.of_below HB3.out g M v2).trans HFR.out)⟩⟩
              case measure => simp [intOf]; omega
          · have hqe : q = ps.length := by omega
            have hL : L3 = L2 := by have := HRi.out; rw [hqe, List.drop_length, partsF] at this; exact Option.some.inj this
            subst hL
            clear hqe
            go_wp2
            go_roundw
            case rel => exact ⟨j + 1, by omega, by go_num, v2, L3, HSi, HR3, ⟨HF.out.trans ((Fr.of_below HB2.out g M v1).trans HFi.out)⟩⟩
            case measure => simp [intOf]; omega
      · have hkb : (nd.f0 != d.f0) = true := by simpa using hke
        have HR3 := Aside0.mk (show ruledF k docs d a (c.f16.drop (j + 1)) L1 = some L' by have := HR2.out; rw [ruledF, if_neg hke] at this; exact this)
        clear hke
        go_wp2
        go_roundw
        case rel => exact ⟨j + 1, by omega, by go_num, v1, L1, ⟨HSr.out.below (below_alloc (Below.refl _ _) _)⟩, HR3, ⟨HF.out.trans (Fr.of_below (below_alloc (Below.refl _ _) _) _ _ _)⟩⟩
        case measure => simp [intOf]; omega
    · have hje : j = c.f16.length := by omega
      have hL : L1 = L' := by have := HR.out; rw [hje, List.drop_length, ruledF] at this; exact Option.some.inj this
      have HL := Aside0.mk hL
      clear hL hje
      go_wp2
      go_end0
      exact ⟨rfl, v1, by rw [← HL.out]; exact HSr.out, (Fr.of_below HBW.out g M v).trans HF.out⟩
end
end Go.Proofs.YtcibglpbfaffgaaDoor.X
