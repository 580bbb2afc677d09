/- The plain law of ExamineTurns: turned twice, all, any. -/
import Derived.Test.YtcibglpbfaffgaaDoorHT
namespace Go.Proofs.YtcibglpbfaffgaaDoor.X
open Go Go.RowKit Go.Proofs.YtcibglpbfaffgaaDoorW.PrintWords Go.Proofs.YtcibglpbfaffgaaDoorW.PrintLast Go.Proofs.YtcibglpbfaffgaaDoorW.PrintMore
set_option linter.unusedVariables false
set_option linter.unusedSimpArgs false
def nodeP (k : Int) (l : List S43) : S43 := ⟨k, 0, ⟨#[]⟩, ⟨#[]⟩, 0, l⟩
section
variable (docs : List S37) (d : S37) (a b : S43)
theorem turn_not : ruleP docs d (nodeP 2 [a]) = 2 - ruleP docs d a := by
  have h := ruleP_02 docs d a
  rw [ruleP_eq]
  show 2 - Lib.maxOf ([ruleP docs d a] ++ [0]) = _
  simp only [Lib.maxOf, List.singleton_append, List.headD_cons, List.foldl_cons, List.foldl_nil]
  omega
theorem turn_all : ruleP docs d (nodeP 0 [a, b]) = max (ruleP docs d a) (ruleP docs d b) := by
  have h := ruleP_02 docs d a
  have h' := ruleP_02 docs d b
  rw [ruleP_eq]
  show Lib.maxOf ([ruleP docs d a, ruleP docs d b] ++ [0]) = _
  simp only [Lib.maxOf, List.cons_append, List.nil_append, List.headD_cons, List.foldl_cons, List.foldl_nil]
  omega
theorem turn_any : ruleP docs d (nodeP 1 [a, b]) = min (ruleP docs d a) (ruleP docs d b) := by
  have h := ruleP_02 docs d a
  have h' := ruleP_02 docs d b
  rw [ruleP_eq]
  show Lib.minOf ([ruleP docs d a, ruleP docs d b] ++ [2]) = _
  simp only [Lib.minOf, List.cons_append, List.nil_append, List.headD_cons, List.foldl_cons, List.foldl_nil]
  omega
theorem turn_not2 : ruleP docs d (nodeP 2 [a, b]) = 2 - max (ruleP docs d a) (ruleP docs d b) := by
  have h := ruleP_02 docs d a
  have h' := ruleP_02 docs d b
  rw [ruleP_eq]
  show 2 - Lib.maxOf ([ruleP docs d a, ruleP docs d b] ++ [0]) = _
  simp only [Lib.maxOf, List.cons_append, List.nil_append, List.headD_cons, List.foldl_cons, List.foldl_nil]
  omega
end
theorem sz_node1 (k : Int) (a : S43) : szP (nodeP k [a]) = 1 + szP a := by
  rw [szP_eq]
  show 1 + 0 / 200 + 0 / 200 + szsP [a] = _
  rw [szsP_cons, szsP_nil]
  omega
theorem sz_node2 (k : Int) (a b : S43) : szP (nodeP k [a, b]) = 1 + szP a + szP b := by
  rw [szP_eq]
  show 1 + 0 / 200 + 0 / 200 + szsP [a, b] = _
  rw [szsP_cons, szsP_cons, szsP_nil]
  omega
/-- A row of one rule, of two rules, in a block of their own. -/
theorem C43_one {w : World} {b : Nat} {p : S43} {A : Option Addr} {n : Nat} (h : w.heap[b]? = some (.cells (pc p A n) 43 (0, 0))) (hn : p.f5.length ≤ n) (hC : Kd.C k43 w A p.f5.length p.f5) : Kd.C k43 w (some ⟨b, 0, none⟩) 1 [p] := by
  refine ⟨rfl, by decide, fun _ => ⟨_, rfl, fun j q hq => ?_⟩⟩
  cases j with
  | succ j => simp at hq
  | zero =>
    obtain rfl : p = q := by simpa using hq
    refine ⟨_, rfl, k43_mk w p hn hC, fun i u hu => ?_⟩
    have e : ((⟨b, 0, none⟩ : Addr).add (0 * k43.sz + i)) = ⟨b, i, none⟩ := by
      rw [Nat.zero_mul, Nat.zero_add]
      unfold Addr.add
      split <;> simp_all
    rw [e]
    exact cell_of_blk h (by simpa [pc] using hu)
def pc2 (p q : S43) (A : Option Addr) (n : Nat) (A' : Option Addr) (n' : Nat) : Array Value := #[.int .i64 p.f0, .int .i64 p.f1, .string p.f2, .string p.f3, .int .i64 p.f4, .slice A p.f5.length n, .int .i64 q.f0, .int .i64 q.f1, .string q.f2, .string q.f3, .int .i64 q.f4, .slice A' q.f5.length n']
theorem C43_two {w : World} {b : Nat} {p q : S43} {A A' : Option Addr} {n n' : Nat} (h : w.heap[b]? = some (.cells (pc2 p q A n A' n') 43 (0, 0))) (hn : p.f5.length ≤ n) (hC : Kd.C k43 w A p.f5.length p.f5) (hn' : q.f5.length ≤ n') (hC' : Kd.C k43 w A' q.f5.length q.f5) : Kd.C k43 w (some ⟨b, 0, none⟩) 2 [p, q] := by
  have e : ∀ m : Nat, ((⟨b, 0, none⟩ : Addr).add m) = ⟨b, m, none⟩ := fun m => by
    unfold Addr.add
    split <;> simp_all
  have e6 : k43.sz = 6 := sz43 0
  refine ⟨rfl, by decide, fun _ => ⟨_, rfl, fun j r hr => ?_⟩⟩
  rcases j with _ | _ | j
  · obtain rfl : p = r := by simpa using hr
    refine ⟨_, rfl, k43_mk w p hn hC, fun i u hu => ?_⟩
    rw [e, Nat.zero_mul, Nat.zero_add]
    have hi : i < 6 := by simpa using (List.getElem?_eq_some_iff.1 hu).1
    refine cell_of_blk h ?_
    rcases i with _ | _ | _ | _ | _ | _ | i
    all_goals first | (exact hu) | omega
  · obtain rfl : q = r := by simpa using hr
    refine ⟨_, rfl, k43_mk w q hn' hC', fun i u hu => ?_⟩
    rw [e, e6]
    have hi : i < 6 := by simpa using (List.getElem?_eq_some_iff.1 hu).1
    refine cell_of_blk h ?_
    rcases i with _ | _ | _ | _ | _ | _ | i
    all_goals first | (exact hu) | omega
  · simp at hr
end Go.Proofs.YtcibglpbfaffgaaDoor.X
