/- asksAnother: has a need of a kind a Like of a field among its parts? -/
import Derived.Test.YtcibglpbfaffgaaDoorHA
import Derived.Outline
namespace Go.Proofs.YtcibglpbfaffgaaDoor.X
open Go Go.RowKit Go.Proofs.YtcibglpbfaffgaaDoorW.PrintWords Go.Proofs.YtcibglpbfaffgaaDoorW.PrintLast Go.Proofs.YtcibglpbfaffgaaDoorW.PrintMore
set_option linter.unusedVariables false
set_option linter.unusedSimpArgs false
def anQ (field : ByteArray) (p : S43) : Bool := decide (p.f0 = 7) && decide (p.f2.toList = field.toList)
def anP (kind : Int) (field : ByteArray) (n : S45) : Bool := decide (n.f0 = kind) && (partsP n.f2).any (anQ field)
theorem any_drop {α : Type} {l : List α} {j : Nat} (h : j < l.length) (f : α → Bool) : (l.drop j).any f = (f l[j] || (l.drop (j + 1)).any f) := by
  rw [List.drop_eq_getElem_cons h, List.any_cons]
theorem any_done {α : Type} (l : List α) (f : α → Bool) : (l.drop l.length).any f = false := by rw [List.drop_length]; rfl
set_option maxHeartbeats 8000000 in
set_option maxRecDepth 100000 in
theorem asks20 (c : S33) (A : Option Addr) (n : Nat) (kind : Int) (field : ByteArray) (w : World) (hC : Kd.C k45 w A c.f16.length c.f16) (hCn : c.f16.length ≤ n) (hs : ∀ n ∈ c.f16, szP n.f2 ≤ 1000000) :
    Calls Tryd.prog 20 #[.agg (cc c A n), .int .i64 kind, .string field] w fun e w' => e = .returned (.bool (c.f16.any (anP kind field))) ∧ Below w.heap.size w w' := by
  have hmx : c.f16.length ≤ 9223372036854775807 := hC.2.1
  have HC := Aside0.mk hC
  have HCN := Aside0.mk hCn
  have HS := Aside0.mk hs
  clear hC hCn hs
  obtain ⟨g, hg⟩ : ∃ g, g = c.f16.any (anP kind field) := ⟨_, rfl⟩
  rw [← hg]
  have HG := Aside0.mk hg
  clear hg
  unfold cc
  go_enter Tryd.func20, Tryd.ntmps20
  go_wp2
  have HB0 := Aside0.mk (below_alloc (Below.refl w.heap.size w) (.cells (cc c A n) 33))
  have CB0 := Aside0.mk (heap_alloc_new w (.cells (cc c A n) 33))
  unfold cc at HB0 CB0
  go_loopw [7] (fun i wr => ∃ j : Nat, j ≤ c.f16.length ∧ i = .int .i64 j ∧ Aside0 ((c.f16.drop j).any (anP kind field) = g) ∧ Aside0 (Below w.heap.size w wr) ∧ Aside0 (wr.heap[w.heap.size]? = some (.cells (cc c A n) 33 (0, 0)))) (fun i _ => c.f16.length - (intOf i).toNat)
  case atStart => exact ⟨0, Nat.zero_le _, rfl, ⟨by rw [List.drop_zero]; exact HG.out.symm⟩, HB0, CB0⟩
  case round =>
    clear HB0 CB0
    obtain ⟨j, hj, rfl, HP, HB, CB⟩ := hrel
    have cb17 : wr.cell? ⟨w.heap.size, 17, none⟩ = some (.slice A c.f16.length n) := cell_of_blk CB.out rfl
    by_cases hlt : j < c.f16.length
    · obtain ⟨ad, A7, c7, e, p0, p1, p2, p3, p4, p5, p6, p7, hl7, hc7⟩ := at_T45 (Kd.C_below HC.out HB.out) (j : Int) (by omega) (by omega)
      subst e
      rw [rd45 hlt] at p0 p1 p2 p3 p4 p5 p6 p7 hl7 hc7
      simp only [Int.toNat_natCast] at p0 p1 p2 p3 p4 p5 p6 p7
      have hstep := any_drop hlt (anP kind field)
      rw [HP.out] at hstep
      have hsz := HS.out c.f16[j] (List.getElem_mem hlt)
      obtain ⟨nd, hnd⟩ : ∃ nd, nd = c.f16[j] := ⟨_, rfl⟩
      rw [← hnd] at p0 p1 p2 p3 p4 p5 p6 p7 hl7 hc7 hstep hsz
      clear hnd
      have HST := Aside0.mk hstep
      have RP := Aside0.mk (refPartsC nd.f2 A7 c7 wr hc7 hl7 hsz)
      clear hl7 hc7 hstep hsz
      go_wp2_with (go_at_call 35; refine RP.out.mono ?_; rintro e w2 ⟨Ar, cr, rfl, hlr, hRr, hb2⟩)
      have HB2 := Aside0.mk (HB.out.trans (hb2.mono HB.out.size))
      have CB2 := Aside0.mk (blk_below CB.out hb2)
      have P0 := Aside0.mk (cell_keep hb2 p0)
      have RR := Aside0.mk hRr
      have hmr : (partsP nd.f2).length ≤ 9223372036854775807 := hRr.2.1
      clear hb2 hRr hlr p0 p1 p2 p3 p4 p5 p6 p7 RP cb17
      obtain ⟨ps, hps⟩ : ∃ ps, ps = partsP nd.f2 := ⟨_, rfl⟩
      have HST2 := Aside0.mk HST.out
      unfold anP at HST2
      rw [← hps] at RR hmr HST2 ⊢
      clear hps
      go_loopw [9] (fun i wr => ∃ q : Nat, q ≤ ps.length ∧ i = .int .i64 q ∧ Aside0 (g = ((decide (nd.f0 = kind) && (ps.drop q).any (anQ field)) || (c.f16.drop (j + 1)).any (anP kind field))) ∧ Aside0 (Below w.heap.size w wr) ∧ Aside0 (wr.heap[w.heap.size]? = some (.cells (cc c (some ad) n) 33 (0, 0))) ∧ Aside0 (Kd.C k43 wr Ar ps.length ps) ∧ Aside0 (wr.cell? (ad.add (j * 8)) = some (.int .i64 nd.f0))) (fun i _ => ps.length - (intOf i).toNat)
      case atStart => exact ⟨0, Nat.zero_le _, rfl, ⟨by rw [List.drop_zero]; exact HST2.out⟩, HB2, CB2, RR, P0⟩
      case round =>
        clear HB CB HB2 CB2 RR P0 HST HST2
        obtain ⟨q, hq, rfl, HQ, HB, CB, RR, P0⟩ := hrel
        have cb17 : wr.cell? ⟨w.heap.size, 17, none⟩ = some (.slice (some ad) c.f16.length n) := cell_of_blk CB.out rfl
        have p0 := P0.out
        by_cases hqt : q < ps.length
        · obtain ⟨pd, A5, c5, e, q0, q1, q2, q3, q4, q5, hl5, hc5⟩ := at_T43 RR.out (q : Int) (by omega) (by omega)
          subst e
          rw [rd43 hqt] at q0 q1 q2 q3 q4 q5
          simp only [Int.toNat_natCast] at q0 q1 q2 q3 q4 q5
          have hstep := any_drop hqt (anQ field)
          have hg := HQ.out
          rw [hstep] at hg
          obtain ⟨p, hp⟩ : ∃ p, p = ps[q] := ⟨_, rfl⟩
          rw [← hp] at q0 q1 q2 q3 q4 q5 hg
          clear hp hstep hl5 hc5 q1 q3 q4 q5
          by_cases h0 : nd.f0 = kind
          · have h0b : (nd.f0 == kind) = true := beq_iff_eq.2 h0
            by_cases h7 : p.f0 = 7
            · have h7b : (p.f0 == 7) = true := beq_iff_eq.2 h7
              by_cases hv : p.f2.toList = field.toList
              · have hvb : (p.f2.toList == field.toList) = true := beq_iff_eq.2 hv
                have hgt : g = true := by rw [hg]; unfold anQ; rw [decide_eq_true h0, decide_eq_true h7, decide_eq_true hv]; rfl
                subst hgt
                clear h0 h7 hv hg HQ
                go_wp2
                go_ret
                exact ⟨rfl, HB.out⟩
              · have hvb : (p.f2.toList == field.toList) = false := beq_eq_false_iff_ne.2 hv
                have HG2 := Aside0.mk (show g = ((decide (nd.f0 = kind) && (ps.drop (q + 1)).any (anQ field)) || (c.f16.drop (j + 1)).any (anP kind field)) by rw [hg, show anQ field p = false by unfold anQ; rw [decide_eq_false hv, Bool.and_false], Bool.false_or])
                clear h0 h7 hv hg HQ
                go_wp2
                go_roundw
                case rel => exact ⟨q + 1, by omega, by go_num, HG2, HB, CB, RR, P0⟩
                case measure => simp [intOf]; omega
            · have h7b : (p.f0 == 7) = false := beq_eq_false_iff_ne.2 h7
              have HG2 := Aside0.mk (show g = ((decide (nd.f0 = kind) && (ps.drop (q + 1)).any (anQ field)) || (c.f16.drop (j + 1)).any (anP kind field)) by rw [hg, show anQ field p = false by unfold anQ; rw [decide_eq_false h7, Bool.false_and], Bool.false_or])
              clear h0 h7 hg HQ
              go_wp2
              go_roundw
              case rel => exact ⟨q + 1, by omega, by go_num, HG2, HB, CB, RR, P0⟩
              case measure => simp [intOf]; omega
          · have h0b : (nd.f0 == kind) = false := beq_eq_false_iff_ne.2 h0
            have HG2 := Aside0.mk (show g = ((decide (nd.f0 = kind) && (ps.drop (q + 1)).any (anQ field)) || (c.f16.drop (j + 1)).any (anP kind field)) by rw [hg, decide_eq_false h0, Bool.false_and, Bool.false_and])
            clear h0 hg HQ
            go_wp2
            go_roundw
            case rel => exact ⟨q + 1, by omega, by go_num, HG2, HB, CB, RR, P0⟩
            case measure => simp [intOf]; omega
        · have hqe : q = ps.length := by omega
          subst hqe
          have HG2 := Aside0.mk (show (c.f16.drop (j + 1)).any (anP kind field) = g by rw [HQ.out, any_done, Bool.and_false, Bool.false_or])
          clear hqt HQ
          go_wp2
          go_roundw
          case rel => exact ⟨j + 1, by omega, by go_num, HG2, HB, CB⟩
          case measure => simp [intOf]; omega
    · have hje : j = c.f16.length := by omega
      subst hje
      have hgf : g = false := by rw [← HP.out]; exact any_done _ _
      subst hgf
      clear hlt hj
      go_wp2
      go_ret
      exact ⟨rfl, HB.out⟩
end Go.Proofs.YtcibglpbfaffgaaDoor.X
