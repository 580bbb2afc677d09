/- ExamineDay's law: its walk joined with the plain law. -/
import Derived.Test.YtcibglpbfaffgaaDoorH5
import Derived.Test.YtcibglpbfaffgaaDoorQ3
namespace Go.Proofs.YtcibglpbfaffgaaDoor.X
open Go Go.RowKit Go.Proofs.YtcibglpbfaffgaaDoorW.PrintWords Go.Proofs.YtcibglpbfaffgaaDoorW.PrintLast Go.Proofs.YtcibglpbfaffgaaDoorW.PrintMore
set_option linter.unusedVariables false
set_option linter.unusedSimpArgs false
theorem day_calls {w : World} (c : S33) (A : Option Addr) (n : Nat) (hCn : c.f16.length ≤ n) (hC : Kd.C k45 w A c.f16.length c.f16) (O0 : Ok33 c) (docs : List S37) (A1 : Option Addr) (n1 : Nat) (hDn : docs.length ≤ n1) (hD : Kd.C k37 w A1 docs.length docs) (O1 : OkDs docs)
    (day : Int) (_O2 : wf64 day) (later : Int) (_O3 : wf64 later) (hG : Glob w) :
    Calls Tryd.prog 5 #[.agg (cc c A n), .slice A1 docs.length n1, .int .i64 day, .int .i64 later] w fun e w' => e = .returned (.bool true) ∧ Below w.heap.size w w' := by
  obtain ⟨bf, hf, hfew⟩ := few_ev O0 O1
  refine day5 c A n docs A1 n1 day later bf (exP c docs day) (exP c docs (day + later)) w hC hCn hD hDn hG hf fun ho => ?_
  have hb : bf = true := by
    cases bf with
    | true => rfl
    | false => simp [dayOut] at ho
  subst hb
  have hl : -1073741824 ≤ day ∧ day ≤ 1073741824 ∧ 0 ≤ later ∧ later ≤ 1073741824 := by
    simp [dayOut] at ho
    omega
  have hF := hfew rfl
  have hlaw := day_law docs O0.ints.2.2.2.2.2.1 (day := day) (day' := day + later) (by omega) (by omega) (by omega)
  exact ⟨exF_ev c docs day hF.mid (wf_of O0 O1), exF_ev c docs (day + later) hF.mid (wf_of O0 O1), hlaw.1, hlaw.2⟩
end Go.Proofs.YtcibglpbfaffgaaDoor.X
