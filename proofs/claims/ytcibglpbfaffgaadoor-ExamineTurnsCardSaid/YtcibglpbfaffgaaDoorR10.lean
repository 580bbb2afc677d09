/- The row and the card of ExamineTurns. -/
import Derived.Test.YtcibglpbfaffgaaDoorGL
import Derived.Test.YtcibglpbfaffgaaDoorL10
import Derived.Test.YtcibglpbfaffgaaDoorCards
namespace Go.Proofs.YtcibglpbfaffgaaDoor.X
open Go Go.ChangeShapes Go.WideShapes Go.ChangeAt Go.RowKit Go.Proofs.YtcibglpbfaffgaaDoorW.PrintWords Go.Proofs.YtcibglpbfaffgaaDoorW.PrintLast Go.Proofs.YtcibglpbfaffgaaDoorW.PrintMore
set_option linter.unusedVariables false
set_option linter.unusedSimpArgs false

set_option maxRecDepth 100000 in
theorem examineTurns_lifted (os : Os) (started : os.Started) (H : Type) (enc : TypeId × Value → H) :
    ReturnsInHanded {} Tryd.checked os 10 .any (fun w args => (Rows.examineTurnsSpec.pre enc Tryd.prog Tryd.f10 [] false w args ∧ laidMetH Tryd.prog laidL w) ∧ sizedMet enc Tryd.prog Tryd.f10 (OpenSpec.ofChange Rows.examineTurnsSpec) false w args)
      (Rows.examineTurnsSpec.post enc Tryd.prog Tryd.f10 false true false false) := by
  refine returnsInHanded_of_change_and_shaped (C := Tryd.checked) (X := fun w _ => laidMetH Tryd.prog laidL w) (fun _ _ _ hh h => h.of_heap hh) own started (by kernel_rfl) Tryd.func10
    (ChangeSpec.witness_shaped (enc := enc) (C := Tryd.checked) (os := os) (X := fun w _ => laidMetH Tryd.prog laidL w) false (World.doorLaid Tryd.prog 67 os) #[.agg #[.int .i64 0, .int .i64 0, .string ⟨#[]⟩, .string ⟨#[]⟩, .int .i64 0, .slice none 0 0], .agg #[.int .i64 0, .int .i64 0, .string ⟨#[]⟩, .string ⟨#[]⟩, .int .i64 0, .slice none 0 0], .slice none 0 0, .int .i64 0] 8 rfl (World.shaped_of_RefB (by kernel_rfl) (by kernel_rfl)) (by kernel_rfl) (by kernel_rfl) (by kernel_rfl) (door_met os _)) ?_
  intro W base args ds gs before hval0 hW hcnd hwt hL hsh _
  have hval : ∀ (j : Nat) t v, Tryd.f10.params[j]? = some t → args[j]? = some v → Value.okWide Tryd.prog W .any base t v := hval0
  have hW' := hW
  obtain ⟨p, q, hA0, hV, rfl, hfz, hnd⟩ := hW
  have hA : DataW.TrodAll enc Tryd.prog W 0 (fun _ => true) true Tryd.f10.params.toList args.toList ds p := hA0
  have hwt' : (DataW.weightsEach Tryd.prog (Tryd.f10.params.toList ++ Rows.examineTurnsSpec.plain.varTypes Tryd.prog) (ds ++ gs)).all (· ≤ reachBytes) = true := hwt
  rw [Tryd.params10] at hA hval hwt'
  obtain ⟨v0, vs0, d0, ds0, p0, q0, hargs, rfl, rfl, h0, r0⟩ := trodAll_cons hA
  obtain ⟨v1, vs1, d1, ds1, p1, q1, rfl, rfl, rfl, h1, r1⟩ := trodAll_cons r0
  obtain ⟨v2, vs2, d2, ds2, p2, q2, rfl, rfl, rfl, h2, r2⟩ := trodAll_cons r1
  obtain ⟨v3, vs3, d3, ds3, p3, q3, rfl, rfl, rfl, h3, r3⟩ := trodAll_cons r2
  obtain ⟨rfl, rfl, rfl⟩ := trodAll_nil r3
  obtain rfl : args = #[v0, v1, v2, v3] := by cases args; simp_all
  obtain ⟨rfl, rfl⟩ := trodVars_none hV
  simp only [List.all_eq_true, decide_eq_true_eq] at hwt'
  have k0 := h0
  have lt0 : ∀ x ∈ p0, x.block < W.heap.size := by obtain ⟨m, hm⟩ := k0; exact DataW.trod_lt m _ _ _ hm
  have k1 := h1
  have lt1 : ∀ x ∈ p1, x.block < W.heap.size := by obtain ⟨m, hm⟩ := k1; exact DataW.trod_lt m _ _ _ hm
  have k2 := h2
  have lt2 : ∀ x ∈ p2, x.block < W.heap.size := by obtain ⟨m, hm⟩ := k2; exact DataW.trod_lt m _ _ _ hm
  have k3 := h3
  have lt3 : ∀ x ∈ p3, x.block < W.heap.size := by obtain ⟨m, hm⟩ := k3; exact DataW.trod_lt m _ _ _ hm
  have w0 : ∀ n ∈ d0.weights Tryd.prog 43, n ≤ lim47r := fun n hn => hwt' n (weights_each (i := 0) rfl rfl hn)
  obtain ⟨fuel0, hf0⟩ := h0
  obtain ⟨x0, A0, n0, rfl, l0, C0, O0⟩ := open43 hf0 w0 (hval 0 43 v0 rfl rfl)
  have w1 : ∀ n ∈ d1.weights Tryd.prog 43, n ≤ lim47r := fun n hn => hwt' n (weights_each (i := 1) rfl rfl hn)
  obtain ⟨fuel1, hf1⟩ := h1
  obtain ⟨x1, A1, n1, rfl, l1, C1, O1⟩ := open43 hf1 w1 (hval 1 43 v1 rfl rfl)
  have w2 : ∀ n ∈ d2.weights Tryd.prog 34, n ≤ lim47r := fun n hn => hwt' n (weights_each (i := 2) rfl rfl hn)
  obtain ⟨fuel2, hf2⟩ := h2
  obtain ⟨x2, A2, n2, rfl, l2, C2, O2⟩ := open34 hf2 w2 (hval 2 34 v2 rfl rfl)
  have w3 : ∀ n ∈ d3.weights Tryd.prog 3, n ≤ lim47r := fun n hn => hwt' n (weights_each (i := 3) rfl rfl hn)
  obtain ⟨fuel3, hf3⟩ := h3
  obtain ⟨x3, rfl, O3⟩ := open3 hf3 (hval 3 3 v3 rfl rfl)
  have hG := glob_of_laid hL hsh
  clear hA0 hval0
  refine (turns_calls x0 A0 n0 l0 C0 O0 x1 A1 n1 l1 C1 O1 x2 A2 n2 l2 C2 O2 x3 O3 hG).mono fun e W' ⟨he, bel⟩ => ?_
  subst he
  exact ⟨_, rfl, _, _, _, [], _, [], hW', trodAll_mk1 (shut_bool Tryd.underlying4 _), (trodAll_cons_mk (Below.trod laidOut (by kernel_rfl) (of_decide_eq_true (by kernel_rfl)) k0 bel lt0) (trodAll_cons_mk (Below.trod laidOut (by kernel_rfl) (of_decide_eq_true (by kernel_rfl)) k1 bel lt1) (trodAll_cons_mk (Below.trod laidOut (by kernel_rfl) (of_decide_eq_true (by kernel_rfl)) k2 bel lt2) (trodAll_cons_mk (Below.trod laidOut (by kernel_rfl) (of_decide_eq_true (by kernel_rfl)) k3 bel lt3) trodAll_mk0)))), rfl, bel.frame _, fun h => by cases h⟩
theorem examineTurns_holds : Rows.ExamineTurnsSaid :=
  OpenClaim.holds_of_wide 10 Tryd.f10 rfl rfl rfl rfl rfl rfl rfl ⟨rfl, rfl, rfl, rfl, rfl⟩ rfl rfl rfl rfl rfl (by kernel_rfl) Tryd.func10 (by kernel_rfl)
    (of_decide_eq_true (by kernel_rfl)) (by unfold Func.isWrapper; first | (rw [if_pos (by decide +kernel)]; kernel_rfl) | (rw [if_neg (by decide +kernel)]; exact ⟨rfl, rfl⟩))
    (fun os started H enc _ => examineTurns_lifted os started H enc)
end Go.Proofs.YtcibglpbfaffgaaDoor.X
namespace Go.Proofs.YtcibglpbfaffgaaDoor
open Go Go.Proofs.YtcibglpbfaffgaaDoor.X
theorem examineTurns_card : Rows.ExamineTurnsCardSaid :=
  Claim7.holds_tied_plain_at .later [] [.data, .data, .data, .sentinel, .sentinel, .data] true (true, "d75b90e3a55475a2bd39b0bccd58f92fb1dd6aa4258298bc3114d20e934d3b42") true
    examineTurns_holds (fun _ h => by cases h) (by kernel_rfl) (fun _ h => by cases h) examineTurns_row_tie rfl ⟨rfl, rfl⟩ (by kernel_rfl) rfl
    (fun f fn hf hfn => by
      obtain rfl : f = 10 := Option.some.inj ((show Tryd.prog.funcNamed "supercargo/supercargolaw31.ExamineTurns" = some 10 by kernel_rfl).symm.trans hf) |>.symm
      obtain rfl : fn = Tryd.f10 := (Option.some.inj (Tryd.func10.symm.trans hfn)).symm
      exact ⟨by kernel_rfl, fun j t ht => by
        rw [Tryd.params10] at ht
        rcases j with _ | j
        · obtain rfl : t = 43 := by simpa using ht.symm
          exact (show Tryd.prog.wantsStandIn 43 = false by kernel_rfl)
        rcases j with _ | j
        · obtain rfl : t = 43 := by simpa using ht.symm
          exact (show Tryd.prog.wantsStandIn 43 = false by kernel_rfl)
        rcases j with _ | j
        · obtain rfl : t = 34 := by simpa using ht.symm
          exact (show Tryd.prog.wantsStandIn 34 = false by kernel_rfl)
        rcases j with _ | j
        · obtain rfl : t = 3 := by simpa using ht.symm
          exact (show Tryd.prog.wantsStandIn 3 = false by kernel_rfl)
        simp at ht⟩)
    (by kernel_rfl)
end Go.Proofs.YtcibglpbfaffgaaDoor
