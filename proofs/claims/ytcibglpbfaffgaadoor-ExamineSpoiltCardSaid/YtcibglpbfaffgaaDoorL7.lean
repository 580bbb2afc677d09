/- ExamineSpoilt's law: its walk joined with the plain law. -/
import Derived.Test.YtcibglpbfaffgaaDoorH7
namespace Go.Proofs.YtcibglpbfaffgaaDoor.X
open Go Go.RowKit Go.Proofs.YtcibglpbfaffgaaDoorW.PrintWords Go.Proofs.YtcibglpbfaffgaaDoorW.PrintLast Go.Proofs.YtcibglpbfaffgaaDoorW.PrintMore
set_option linter.unusedVariables false
set_option linter.unusedSimpArgs false
theorem ok33_zero : Ok33 z33 := ⟨by decide, by decide, by decide, fun n h => by cases h⟩
theorem wf_fixed {z : Int} (h : -9223372036854775808 ≤ z ∧ z ≤ 9223372036854775807) : wf64 z := WalkArith.wf_i64 h
theorem spoilt_calls {w : World} (docs : List S37) (A1 : Option Addr) (n1 : Nat) (hDn : docs.length ≤ n1) (hD : Kd.C k37 w A1 docs.length docs) (O1 : OkDs docs)
    (at_ : Int) (_O2 : wf64 at_) (field : ByteArray) (O3 : field.size ≤ lim47r) (want : ByteArray) (O4 : want.size ≤ lim47r) (hG : Glob w) :
    Calls Tryd.prog 7 #[.slice A1 docs.length n1, .int .i64 at_, .string field, .string want] w fun e w' => e = .returned (.bool true) ∧ Below w.heap.size w w' := by
  obtain ⟨bf, hf, hfew⟩ := few_ev ok33_zero O1
  by_cases hat : 0 ≤ at_ ∧ at_.toNat < docs.length
  · obtain ⟨h0, h1⟩ := hat
    refine spoilt7 docs A1 n1 at_ field want bf (exP (spCredit docs[at_.toNat].f0 field want) docs 5) w hD hDn hG hf O3 O4 fun ho => ?_
    have hb : bf = true := by
      cases bf with
      | true => rfl
      | false => simp [spOut] at ho
    subst hb
    have hF := hfew rfl
    have hsz : field.size ≤ 200 ∧ want.size ≤ 200 := by
      simp [spOut] at ho
      omega
    refine ⟨at_.toNat, h1, by omega, (hF.fields _ (List.getElem_mem h1)).1, exF_ev _ docs 5 (sp_mid _ field want hsz.1 hsz.2 hF.papers fun d hd f hf => ?_) ⟨fun d hd => (O1.docs d hd).1, fun n hn => ?_⟩, spoilt_law docs h1 field want⟩
    · have := (hF.fields d hd).2 f hf
      omega
    · obtain rfl : n = spNeed docs[at_.toNat].f0 field want := by simpa [spCredit] using hn
      exact (O1.docs _ (List.getElem_mem h1)).1
  · refine spoilt7 docs A1 n1 at_ field want bf [] w hD hDn hG hf O3 O4 fun ho => ?_
    simp [spOut] at ho
    omega
end Go.Proofs.YtcibglpbfaffgaaDoor.X
