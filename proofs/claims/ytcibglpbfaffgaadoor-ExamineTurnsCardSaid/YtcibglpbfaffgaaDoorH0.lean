/- Contracts of the calls that the laws on Examine make: the example, Few, Examine, by plain facts. -/
import Derived.Test.YtcibglpbfaffgaaDoorQ2
import Derived.Test.YtcibglpbfaffgaaDoorG7
import Derived.Test.YtcibglpbfaffgaaDoorX1
namespace Go.Proofs.YtcibglpbfaffgaaDoor.X
open Go Go.RowKit Go.Proofs.YtcibglpbfaffgaaDoorW.PrintWords Go.Proofs.YtcibglpbfaffgaaDoorW.PrintLast Go.Proofs.YtcibglpbfaffgaaDoorW.PrintMore
set_option linter.unusedVariables false
set_option linter.unusedSimpArgs false

theorem awakeC (w : World) (hG : Glob w) : Calls Tryd.prog 11 #[] w fun e w' => e = .returned (.bool true) ∧ Below w.heap.size w w' := awake11 w hG
theorem fewC (c : S33) (A : Option Addr) (n : Nat) (docs : List S37) (A1 : Option Addr) (n1 : Nat) (w : World) (b : Bool) (hC : Kd.C k45 w A c.f16.length c.f16) (hCn : c.f16.length ≤ n) (hD : Kd.C k37 w A1 docs.length docs) (hDn : docs.length ≤ n1) (h : Ev (fewK c docs) b) :
    Calls Tryd.prog 14 #[.agg (cc c A n), .slice A1 docs.length n1] w fun e w' => e = .returned (.bool b) ∧ Below w.heap.size w w' := by
  obtain ⟨k, hk⟩ := h.get
  exact supercargoref31_Few.calls k c.f0 c.f1 c.f2 c.f3 c.f4 c.f5 c.f6 c.f7.f0 c.f7.f1 c.f8 c.f9 c.f10 c.f11 c.f12 c.f13 c.f14 c.f15 A n c.f16 A1 n1 docs b w hC hCn hD hDn hk
theorem examC (c : S33) (A : Option Addr) (n : Nat) (docs : List S37) (A1 : Option Addr) (n1 : Nat) (day : Int) (r : List S25) (w : World) (hC : Kd.C k45 w A c.f16.length c.f16) (hCn : c.f16.length ≤ n) (hD : Kd.C k37 w A1 docs.length docs) (hDn : docs.length ≤ n1) (hG : Glob w) (h : Ev (fun k => exF k c docs day) r) :
    Calls Tryd.prog 18 #[.agg (cc c A n), .slice A1 docs.length n1, .int .i64 day] w fun e w' => ∃ Ar cr, e = .returned (.slice Ar r.length cr) ∧ r.length ≤ cr ∧ Kd.C k25 w' Ar r.length r ∧ Below w.heap.size w w' := by
  obtain ⟨k, hk⟩ := h.get
  refine (examine18 k c A n docs A1 n1 day r w hC hCn hD hDn hG hk).mono ?_
  rintro e w' ⟨v0, rfl, ho, hb⟩
  obtain ⟨Ar, cr, rfl, hle, hR⟩ := Kd.R_reads (own_R25 ho)
  exact ⟨Ar, cr, rfl, hle, hR, hb⟩
/-- A load of a whole row, wherever it may come up. -/
theorem ldRow {P : Program} {o : Oper} {a : Act} {w : World} (ty : TypeId) (x : Operand) (ho : o.op = .load ty x) (g : Nat) (hx : a.eval x = .pointer (some ⟨g, 0, none⟩)) (t : TypeId) (cs : Array Value) (fr : Nat × Nat) (d : TypeDesc) (hg : w.heap[g]? = some (.cells cs t fr))
    (hu : P.underlying ty = some d) (hd : (match d with | .struct _ | .array _ _ => true | _ => false) = true) (hi : (P.info? ty).map (·.size) = some cs.size) : (execOp a.eval o).run P w = .ok (.value (.agg cs)) w := by
  unfold execOp
  simp only [ho, hx, Instr.loadAt, Instr.sureAddr, Sem.run_bind, Sem.run_pure, Result.andThen_ok, run_loadVar_row w g t ty cs fr d hg hu hd hi]
theorem info33 : ∀ (c : S33) (A : Option Addr) (n : Nat), (Tryd.prog.info? 33).map (·.size) = some (cc c A n).size := fun _ _ _ => by kernel_rfl
theorem rd25 {l : List S25} {j : Nat} (h : j < l.length) : rd_T25 l (j : Int) = l[j] := by simp [rd_T25, List.getD_eq_getElem?_getD, h]
theorem at25 {w : World} {A : Option Addr} {xs : List S25} (h : Kd.C k25 w A xs.length xs) {j : Nat} (hj : j < xs.length) : ∃ ad, A = some ad ∧ w.cell? (ad.add (j * 4)) = some (.int .i64 xs[j].f0) ∧ w.cell? ⟨(ad.add (j * 4)).block, (ad.add (j * 4)).off + 1, none⟩ = some (.int .i64 xs[j].f1) ∧
    w.cell? ⟨(ad.add (j * 4)).block, (ad.add (j * 4)).off + 2, none⟩ = some (.string xs[j].f2) ∧ w.cell? ⟨(ad.add (j * 4)).block, (ad.add (j * 4)).off + 3, none⟩ = some (.int .i64 xs[j].f3) := by
  have h1 := at_T25 h (j : Int) (by omega) (by omega)
  rw [rd25 hj] at h1
  simp only [Int.toNat_natCast] at h1
  exact h1
theorem tl_inj {a b : ByteArray} (h : a.toList = b.toList) : a = b := by
  rw [ByteArray.toList_eq, ByteArray.toList_eq] at h
  obtain ⟨⟨a⟩⟩ := a
  obtain ⟨⟨b⟩⟩ := b
  have : a = b := h
  rw [this]
/-- Two faults compared, as one word that the walk leaves alone. -/
def eqB (x0 x1 : Int) (x2 : ByteArray) (x3 : Int) (y0 y1 : Int) (y2 : ByteArray) (y3 : Int) : Bool := decide ((⟨x0, x1, x2, x3⟩ : S25) = ⟨y0, y1, y2, y3⟩)
theorem eqB_is (x y : S25) : eqB x.f0 x.f1 x.f2 x.f3 y.f0 y.f1 y.f2 y.f3 = decide (x = y) := rfl
theorem eqA25o (d : Nat) (w : World) (x0 y0 : Int) (x1 y1 : Int) (x2 y2 : ByteArray) (x3 y3 : Int) :
    (Op.equalIn (d + 2) 25 (.agg #[.int .i64 x0, .int .i64 x1, .string x2, .int .i64 x3]) (.agg #[.int .i64 y0, .int .i64 y1, .string y2, .int .i64 y3])).run Tryd.prog w = .ok (eqB x0 x1 x2 x3 y0 y1 y2 y3) w := by
  rw [eqA25]
  congr 1
  rw [Bool.eq_iff_iff]
  unfold eqB
  rw [decide_eq_true_iff]
  simp only [Bool.and_eq_true, beq_iff_eq]
  constructor
  · rintro ⟨rfl, rfl, h2, rfl⟩
    rw [tl_inj h2]
  · intro h
    injection h with h0 h1 h2 h3
    subst h0 h1 h2 h3
    exact ⟨rfl, rfl, rfl, rfl⟩
end Go.Proofs.YtcibglpbfaffgaaDoor.X
