/- ExamineTurns' law: its walk joined with the plain law. -/
import Derived.Test.YtcibglpbfaffgaaDoorH10
namespace Go.Proofs.YtcibglpbfaffgaaDoor.X
open Go Go.RowKit Go.Proofs.YtcibglpbfaffgaaDoorW.PrintWords Go.Proofs.YtcibglpbfaffgaaDoorW.PrintLast Go.Proofs.YtcibglpbfaffgaaDoorW.PrintMore
set_option linter.unusedVariables false
set_option linter.unusedSimpArgs false
theorem wf0 : wf64 0 := by decide
theorem sz0 : (⟨#[]⟩ : ByteArray).size ≤ lim47r := Nat.zero_le _
theorem ok_z33 : Ok33 z33 := by
  refine ⟨⟨sz0, sz0, sz0, sz0, sz0, sz0, sz0, sz0⟩, ⟨wf0, wf0, wf0, wf0, wf0, wf0, wf0⟩, Nat.zero_le _, ?_, Nat.zero_le _⟩
  intro n h
  cases h
theorem turns_calls {w : World} (a : S43) (A : Option Addr) (n : Nat) (hAn : a.f5.length ≤ n) (hA : Kd.C k43 w A a.f5.length a.f5) (O0 : Ok43 lim47r a) (b : S43) (A' : Option Addr) (n' : Nat) (hBn : b.f5.length ≤ n') (hB : Kd.C k43 w A' b.f5.length b.f5) (O1 : Ok43 lim47r b)
    (docs : List S37) (A1 : Option Addr) (n1 : Nat) (hDn : docs.length ≤ n1) (hD : Kd.C k37 w A1 docs.length docs) (O2 : OkDs docs) (at_ : Int) (_O3 : wf64 at_) (hG : Glob w) :
    Calls Tryd.prog 10 #[.agg (pc a A n), .agg (pc b A' n'), .slice A1 docs.length n1, .int .i64 at_] w fun e w' => e = .returned (.bool true) ∧ Below w.heap.size w w' := by
  obtain ⟨bf, hf, hfew⟩ := few_ev (c := z33) ok_z33 O2
  obtain ⟨ra, hra, a0, _, a2⟩ := size_is _ a (Nat.le_refl _) O0 200 (by omega)
  obtain ⟨rb, hrb, b0, _, b2⟩ := size_is _ b (Nat.le_refl _) O1 200 (by omega)
  refine turns10 a A n b A' n' docs A1 n1 at_ bf ra rb w hA hAn hB hBn hD hDn hG hf hra hrb fun ho => ?_
  simp only [tuOut, Bool.or_eq_false_iff, Bool.not_eq_false', decide_eq_false_iff_not] at ho
  obtain ⟨h1, h2, h3, h4, h5⟩ := ho
  have hF := hfew h1
  have := a2 (by omega)
  have := b2 (by omega)
  have := hF.papers
  exact ⟨by omega, by omega, by omega, fun d hd f h => by have := (hF.fields d hd).2 f h; omega⟩
end Go.Proofs.YtcibglpbfaffgaaDoor.X
