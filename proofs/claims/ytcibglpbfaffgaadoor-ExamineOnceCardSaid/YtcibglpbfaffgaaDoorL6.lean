/- ExamineOnce's law: its walk joined with the plain law. -/
import Derived.Test.YtcibglpbfaffgaaDoorH6
namespace Go.Proofs.YtcibglpbfaffgaaDoor.X
open Go Go.RowKit Go.Proofs.YtcibglpbfaffgaaDoorW.PrintWords Go.Proofs.YtcibglpbfaffgaaDoorW.PrintLast Go.Proofs.YtcibglpbfaffgaaDoorW.PrintMore
set_option linter.unusedVariables false
set_option linter.unusedSimpArgs false
theorem once_calls {w : World} (c : S33) (A : Option Addr) (n : Nat) (hCn : c.f16.length ≤ n) (hC : Kd.C k45 w A c.f16.length c.f16) (O0 : Ok33 c) (docs : List S37) (A1 : Option Addr) (n1 : Nat) (hDn : docs.length ≤ n1) (hD : Kd.C k37 w A1 docs.length docs) (O1 : OkDs docs)
    (day : Int) (_O2 : wf64 day) (hG : Glob w) :
    Calls Tryd.prog 6 #[.agg (cc c A n), .slice A1 docs.length n1, .int .i64 day] w fun e w' => e = .returned (.bool true) ∧ Below w.heap.size w w' := by
  obtain ⟨bf, hf, hfew⟩ := few_ev O0 O1
  refine once6 c A n docs A1 n1 day bf (exP c docs day) w hC hCn hD hDn hG hf fun ho => ?_
  have hF := hfew ho
  have hlaw := once_law c docs day
  exact ⟨exF_ev c docs day hF.mid (wf_of O0 O1), hlaw.1, hlaw.2, fun n hn => Nat.le_trans (hF.rules n hn) (by decide), Nat.le_trans hF.needs (by decide), fun d hd => Nat.le_trans (hF.fields d hd).1 (by decide)⟩
end Go.Proofs.YtcibglpbfaffgaaDoor.X
