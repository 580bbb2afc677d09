/- What ExamineTurns calls: Holds, and its own closure. -/
import Derived.Test.YtcibglpbfaffgaaDoorHB
import Derived.Test.YtcibglpbfaffgaaDoorX26
import Derived.Outline
namespace Go.Proofs.YtcibglpbfaffgaaDoor.X
open Go Go.RowKit Go.Proofs.YtcibglpbfaffgaaDoorW.PrintWords Go.Proofs.YtcibglpbfaffgaaDoorW.PrintLast Go.Proofs.YtcibglpbfaffgaaDoorW.PrintMore
set_option linter.unusedVariables false
set_option linter.unusedSimpArgs false
theorem holdsC (p : S43) (A : Option Addr) (n : Nat) (docs : List S37) (A1 : Option Addr) (n1 : Nat) (i : Nat) (w : World) (hi : i < docs.length) (hC : Kd.C k43 w A p.f5.length p.f5) (hn : p.f5.length ≤ n) (hD : Kd.C k37 w A1 docs.length docs) (hDn : docs.length ≤ n1) (hG : Glob w) (hl : docs.length ≤ 1000000) (hs : szP p ≤ 1000000) (hv : shortV docs[i].f3) :
    Calls Tryd.prog 23 #[.agg (pc p A n), .slice A1 docs.length n1, .int .i64 i] w fun e w' => e = .returned (.int .i64 (ruleP docs docs[i] p)) ∧ Below w.heap.size w w' := by
  obtain ⟨k, hk⟩ := (rule_ev docs docs[i] hl hv 1000000 p hs (Nat.le_refl _)).get
  refine examine_Holds.calls k p.f0 p.f1 p.f2 p.f3 p.f4 A n p.f5 A1 n1 docs (i : Int) _ w hC hn hD hDn hG ?_
  unfold examine_Holds.f
  rw [if_neg (by omega), if_neg (by omega), if_pos (by omega), if_pos (by omega), rd37 hi]
  have hk' : examine_rule.f k p.f0 p.f1 p.f2 p.f3 p.f4 p.f5 docs docs[i].f0 docs[i].f1 docs[i].f2 docs[i].f3 = some (ruleP docs docs[i] p) := hk
  rw [hk']
  rfl
set_option maxRecDepth 100000 in
theorem not22 (A : Option Addr) (m n : Nat) (w : World) : Calls Tryd.prog 22 #[.slice A m n] w fun e w' => e = .returned (.agg #[.int .i64 2, .int .i64 0, .string ⟨#[]⟩, .string ⟨#[]⟩, .int .i64 0, .slice A m n]) ∧ Below w.heap.size w w' := by
  go_enter Tryd.func22, Tryd.ntmps22
  go_wp2
  exact bodyPost_ret (v := .agg #[.int .i64 2, .int .i64 0, .string ⟨#[]⟩, .string ⟨#[]⟩, .int .i64 0, .slice A m n]) (by simp [results, Tryd.results22, go_sem]) rfl ⟨rfl, below_alloc (Below.refl _ _) _⟩
end Go.Proofs.YtcibglpbfaffgaaDoor.X
