/- ExamineNeeds' law: its walk joined with the plain law. -/
import Derived.Test.YtcibglpbfaffgaaDoorH8
namespace Go.Proofs.YtcibglpbfaffgaaDoor.X
open Go Go.RowKit Go.Proofs.YtcibglpbfaffgaaDoorW.PrintWords Go.Proofs.YtcibglpbfaffgaaDoorW.PrintLast Go.Proofs.YtcibglpbfaffgaaDoorW.PrintMore
set_option linter.unusedVariables false
set_option linter.unusedSimpArgs false
theorem needs_calls {w : World} (c : S33) (A : Option Addr) (n : Nat) (hCn : c.f16.length ≤ n) (hC : Kd.C k45 w A c.f16.length c.f16) (O0 : Ok33 c) (docs : List S37) (A1 : Option Addr) (n1 : Nat) (hDn : docs.length ≤ n1) (hD : Kd.C k37 w A1 docs.length docs) (O1 : OkDs docs)
    (day : Int) (_O2 : wf64 day) (nd : S45) (A7 : Option Addr) (c7 : Nat) (hNn : nd.f2.f5.length ≤ c7) (hN : Kd.C k43 w A7 nd.f2.f5.length nd.f2.f5) (O3 : Ok45 lim47r nd) (hG : Glob w) :
    Calls Tryd.prog 8 #[.agg (cc c A n), .slice A1 docs.length n1, .int .i64 day, .agg (nc nd A7 c7)] w fun e w' => e = .returned (.bool true) ∧ Below w.heap.size w w' := by
  have hby := O0.bytes
  have e2 : lim47r = 140737488351232 := rfl
  have hm : maxLen = 9223372036854775807 := rfl
  have hfit : ∀ b : Bool, ∃ bf, Ev (fewK (withN c nd) docs) bf ∧ (bf = true → FewP (withN c nd) docs) := fun _ => by
    by_cases hlen : c.f16.length + 1 ≤ 12
    · refine few_ev ⟨O0.strs, O0.ints, ?_, ?_, ?_⟩ O1
      · show (c.f16 ++ [nd]).length ≤ _
        simp only [List.length_append, List.length_singleton]
        omega
      · intro x hx
        rcases List.mem_append.1 (show x ∈ c.f16 ++ [nd] from hx) with hx | hx
        · exact O0.needs x hx
        · rw [List.mem_singleton.1 hx]; exact O3
      · show (c.f16 ++ [nd]).length * 96 ≤ _
        simp only [List.length_append, List.length_singleton]
        omega
    · refine ⟨false, Ev.congr (g := fun k => supercargoref31_Few.j0 k docs true c.f0 c.f1 c.f2 c.f3 c.f4 c.f5 c.f6 c.f7.f0 c.f7.f1 c.f8 c.f9 c.f10 c.f11 c.f12 c.f13 c.f14 c.f15 (c.f16 ++ [nd])) (fun k => ?_) (Ev.succ (g := fun _ => some false) (fun k => ?_) (Ev.of fun _ => rfl)), fun e => by cases e⟩
      · show supercargoref31_Few.f k c.f0 c.f1 c.f2 c.f3 c.f4 c.f5 c.f6 c.f7.f0 c.f7.f1 c.f8 c.f9 c.f10 c.f11 c.f12 c.f13 c.f14 c.f15 (c.f16 ++ [nd]) docs = _
        unfold supercargoref31_Few.f
        rw [if_pos (by simp only [List.length_append, List.length_singleton]; omega)]
      · simp only [supercargoref31_Few.j0]
        rw [if_pos trivial]
  obtain ⟨bf, hf, hfew⟩ := hfit true
  refine needs8 c A n docs A1 n1 day nd A7 c7 bf (exP c docs day) (exP (withN c nd) docs day) w hC hCn hD hDn hN hNn hG (by omega) hf fun ho => ?_
  have hF := hfew ho
  have hn : (c.f16 ++ [nd]).length ≤ 12 := hF.needs
  simp only [List.length_append, List.length_singleton] at hn
  have hm1 : MidP c docs := ⟨by omega, Nat.le_trans hF.papers (by decide), fun x hx => Nat.le_trans (hF.rules x (List.mem_append_left _ hx)) (by decide), hF.mid.fields⟩
  refine ⟨by omega, fun hask => ?_⟩
  have hlaw := needs_law docs day hask
  refine ⟨exF_ev c docs day hm1 (wf_of O0 O1), exF_ev (withN c nd) docs day hF.mid ⟨fun d h => (O1.docs d h).1, fun x hx => ?_⟩, hlaw.1, hlaw.2⟩
  rcases List.mem_append.1 (show x ∈ c.f16 ++ [nd] from hx) with hx | hx
  · exact (O0.needs x hx).1
  · rw [List.mem_singleton.1 hx]; exact O3.1
end Go.Proofs.YtcibglpbfaffgaaDoor.X
