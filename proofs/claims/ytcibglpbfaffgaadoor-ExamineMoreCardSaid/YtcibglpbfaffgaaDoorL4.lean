/- ExamineMore's law: its walk joined with the plain law. -/
import Derived.Test.YtcibglpbfaffgaaDoorH4
namespace Go.Proofs.YtcibglpbfaffgaaDoor.X
open Go Go.RowKit Go.Proofs.YtcibglpbfaffgaaDoorW.PrintWords Go.Proofs.YtcibglpbfaffgaaDoorW.PrintLast Go.Proofs.YtcibglpbfaffgaaDoorW.PrintMore
set_option linter.unusedVariables false
set_option linter.unusedSimpArgs false
theorem more_calls {w : World} (c : S33) (A : Option Addr) (n : Nat) (hCn : c.f16.length ≤ n) (hC : Kd.C k45 w A c.f16.length c.f16) (O0 : Ok33 c) (docs : List S37) (A1 : Option Addr) (n1 : Nat) (hDn : docs.length ≤ n1) (hD : Kd.C k37 w A1 docs.length docs) (O1 : OkDs docs)
    (d : S37) (A3 : Option Addr) (c3 : Nat) (hNn : d.f3.length ≤ c3) (hN : Kd.C k66 w A3 d.f3.length d.f3) (O3 : Ok37 lim47r d) (day : Int) (_O2 : wf64 day) (hG : Glob w) :
    Calls Tryd.prog 4 #[.agg (cc c A n), .slice A1 docs.length n1, .agg (dc d A3 c3), .int .i64 day] w fun e w' => e = .returned (.bool true) ∧ Below w.heap.size w w' := by
  have hby := O1.bytes
  have e2 : lim47r = 140737488351232 := rfl
  have hm : maxLen = 9223372036854775807 := rfl
  have hfit : ∃ bf, Ev (fewK c (docs ++ [d])) bf ∧ (bf = true → FewP c (docs ++ [d])) := by
    by_cases h1 : (c.f16.length : Int) > 12
    · refine ⟨false, Ev.congr (g := fun k => supercargoref31_Few.j0 k (docs ++ [d]) true c.f0 c.f1 c.f2 c.f3 c.f4 c.f5 c.f6 c.f7.f0 c.f7.f1 c.f8 c.f9 c.f10 c.f11 c.f12 c.f13 c.f14 c.f15 c.f16) (fun k => ?_) (Ev.succ (g := fun _ => some false) (fun k => ?_) (Ev.of fun _ => rfl)), fun e => by cases e⟩
      · show supercargoref31_Few.f k _ _ _ _ _ _ _ _ _ _ _ _ _ _ _ _ _ _ _ = _
        unfold supercargoref31_Few.f
        rw [if_pos h1]
      · simp only [supercargoref31_Few.j0]
        rw [if_pos trivial]
    · by_cases hlen : docs.length + 1 ≤ 12
      · refine few_ev O0 ⟨?_, ?_, ?_⟩
        · simp only [List.length_append, List.length_singleton]
          omega
        · simp only [List.length_append, List.length_singleton]
          omega
        · intro x hx
          rcases List.mem_append.1 hx with hx | hx
          · exact O1.docs x hx
          · rw [List.mem_singleton.1 hx]; exact O3
      · refine ⟨false, Ev.congr (g := fun k => supercargoref31_Few.j0 k (docs ++ [d]) true c.f0 c.f1 c.f2 c.f3 c.f4 c.f5 c.f6 c.f7.f0 c.f7.f1 c.f8 c.f9 c.f10 c.f11 c.f12 c.f13 c.f14 c.f15 c.f16) (fun k => ?_) (Ev.succ (g := fun _ => some false) (fun k => ?_) (Ev.of fun _ => rfl)), fun e => by cases e⟩
        · show supercargoref31_Few.f k _ _ _ _ _ _ _ _ _ _ _ _ _ _ _ _ _ _ _ = _
          unfold supercargoref31_Few.f
          rw [if_neg h1, decide_eq_true (by simp only [List.length_append, List.length_singleton]; omega)]
        · simp only [supercargoref31_Few.j0]
          rw [if_pos trivial]
  obtain ⟨bf, hf, hfew⟩ := hfit
  refine more4 c A n docs A1 n1 d A3 c3 day (docs ++ [d]) bf (exP c docs day) w hC hCn hD hDn hN hNn hG (by omega) rfl hf fun ho => ?_
  have hF := hfew ho
  have hn : (docs ++ [d]).length ≤ 12 := hF.papers
  simp only [List.length_append, List.length_singleton] at hn
  have hm1 : MidP c docs := ⟨hF.mid.needs, by omega, hF.mid.rules, fun x hx => hF.mid.fields x (List.mem_append_left _ hx)⟩
  refine ⟨Nat.le_trans hF.needs (by decide), fun n hn => Nat.le_trans (hF.rules n hn) (by decide), exP_len hm1, fun hask hlk => ?_⟩
  refine ⟨?_, exF_ev c docs day hm1 (wf_of O0 O1)⟩
  rw [← more_law day hask hlk]
  refine exF_ev c (docs ++ [d]) day hF.mid ⟨fun x h => ?_, fun x hx => (O0.needs x hx).1⟩
  rcases List.mem_append.1 h with hx | hx
  · exact (O1.docs x hx).1
  · rw [List.mem_singleton.1 hx]; exact O3.1
end Go.Proofs.YtcibglpbfaffgaaDoor.X
