/- What the rows' condition on the listed variables gives a walk; a world that meets it; and the wrap that keeps both that condition and the world's shape. -/
import Derived.Test.YtcibglpbfaffgaaDoorGP
import Derived.Test.YtcibglpbfaffgaaDoorRows
import Derived.Test.YtcibglpbfaffgaaDoorTie
import Derived.ProofKit
import Derived.LaidMore
import Derived.OpenShut
import Derived.Stop.Joined
import Derived.Stop.LaidErr
import Derived.MakeChecks
import Derived.HandedShaped
import Derived.Shelf.Vars
import Derived.SevenTiedAt
import Derived.ChangeOld
import Derived.Below
import Derived.WalkKit
import Derived.ShutString
namespace Go.Proofs.YtcibglpbfaffgaaDoor.X
open Go Go.ChangeShapes Go.WideShapes Go.ChangeAt Go.RowKit Go.Proofs.YtcibglpbfaffgaaDoorW.PrintWords Go.Proofs.YtcibglpbfaffgaaDoorW.PrintLast Go.Proofs.YtcibglpbfaffgaaDoorW.PrintMore
set_option linter.unusedVariables false

theorem own : ownKnob Tryd.prog.godebug = none := by kernel_rfl
theorem laidOut : laidOutB Tryd.prog = true := by kernel_rfl
/-- The list that all the rows bear. -/
def laidL : List (String × DataW Unit) := [("math/bits.deBruijn32tab", Rows.laid_math_bits_deBruijn32tab), ("math/bits.deBruijn64tab", Rows.laid_math_bits_deBruijn64tab), ("internal/strconv.uint64pow10", Rows.laid_internal_strconv_uint64pow10), ("strconv.ErrRange", Rows.laid_strconv_ErrRange), ("strconv.ErrSyntax", Rows.laid_strconv_ErrSyntax), ("supercargo/examine.shared", Rows.laid_supercargo_examine_shared)]

theorem gShared : Tryd.prog.globalNamed "supercargo/examine.shared" = some 0 := by kernel_rfl
theorem gPow : Tryd.prog.globalNamed "internal/strconv.uint64pow10" = some 1 := by kernel_rfl
theorem gSyn : Tryd.prog.globalNamed "strconv.ErrSyntax" = some 3 := by kernel_rfl
theorem gRng : Tryd.prog.globalNamed "strconv.ErrRange" = some 4 := by kernel_rfl
theorem tShared : (Tryd.prog.globals[0]?).map (·.type) = some 60 := by kernel_rfl
theorem tPow : (Tryd.prog.globals[1]?).map (·.type) = some 126 := by kernel_rfl
theorem tSyn : (Tryd.prog.globals[3]?).map (·.type) = some 87 := by kernel_rfl
theorem tRng : (Tryd.prog.globals[4]?).map (·.type) = some 87 := by kernel_rfl

set_option maxRecDepth 100000 in
/-- A variable of type error holds nil or an error. -/
theorem err_of_laid {W : World} {n : String} {g : Nat} {cs : Array Value} {fuel : Nat} {nm : String} {D : DataW Unit} {p : List MemPlace} (hg : Tryd.prog.globalNamed n = some g) (hv : W.var? Tryd.prog n = some cs)
    (hd : DataW.trod (fun _ => ()) Tryd.prog W 0 (fun _ => true) false fuel 87 cs.toList = some (.iface nm D, p)) : ∃ ev, W.cell? ⟨g, 0, none⟩ = some ev ∧ (ev = Value.nilIface ∨ ∃ te pe, ev = Value.iface te pe) := by
  obtain ⟨f1, u, v, hcs, _, _⟩ := iface_of_trod Tryd.underlying87 hd
  refine ⟨.iface u v, ?_, .inr ⟨u, v, rfl⟩⟩
  have hc := World.var?_cell hg hv 0
  obtain ⟨l⟩ := cs
  have hl : l = [.iface u v] := hcs
  rw [hl] at hc
  exact hc

set_option maxRecDepth 100000 in
theorem strs_of {w : World} {base : Nat} {sp : Nat → Bool} {held : Bool} {n : Nat} {e : TypeId} {cs : List Value} {d : DataW Unit} {p : List MemPlace} {bs : List UInt8} (ht : Tryd.prog.underlying e = some .string) (h : DataW.trod (fun _ => ()) Tryd.prog w base sp held n e cs = some (d, p)) (hd : d = .lit (.string bs)) : cs = [.string ⟨bs.toArray⟩] := by
  obtain ⟨s, rfl, hx, _⟩ := DataW.trod_string ht h
  have h1 : d = .lit (.string s.data.toList) := congrArg Prod.fst hx
  have h2 : (DataW.lit (.string s.data.toList) : DataW Unit) = .lit (.string bs) := h1.symm.trans hd
  have h3 : s.data.toList = bs := Lit.string.inj (DataW.lit.inj h2)
  rw [← h3]

set_option maxRecDepth 100000 in
theorem glob_of_laid {W : World} (h : laidMetH Tryd.prog laidL W) (hsh : W.ShapedOpen Tryd.prog) : Glob W := by
  rw [MakeChecks.laidMetH_plain _ _ _ (by kernel_rfl)] at h
  have h2 := h.tail.tail
  have htab : Lib.TabIs Tryd.prog W "internal/strconv.uint64pow10" .u64 Lib.pow10Tab := Lib.tabIs_of_head (n := 20) gPow tPow Tryd.underlying126 Tryd.underlying108 (by kernel_rfl) (by kernel_rfl) h2
  have h3 := h2.tail
  obtain ⟨ps, ⟨g3, t3, cs3, f3, p3, q3, hg3, ht3, hv3, hd3, ⟨g4, t4, cs4, f4, p4, q4, hg4, ht4, hv4, hd4, ⟨g0, t0, cs0, f0, p0, q0, hg0, ht0, hv0, hd0, _, _⟩, _⟩, _⟩, _, _⟩ := h3
  obtain rfl := Option.some.inj (gRng.symm.trans hg3)
  obtain rfl := Option.some.inj (gSyn.symm.trans hg4)
  obtain rfl := Option.some.inj (gShared.symm.trans hg0)
  obtain rfl := Option.some.inj (tRng.symm.trans ht3)
  obtain rfl := Option.some.inj (tSyn.symm.trans ht4)
  obtain rfl := Option.some.inj (tShared.symm.trans ht0)
  refine ⟨htab, ?_, err_of_laid gSyn hv4 hd4, err_of_laid gRng hv3 hd3, ?_⟩
  · exact Go.Proofs.cell_of_shapedOpen_int (zero := #[.int .i64 0]) hsh (of_decide_eq_true (by kernel_rfl)) (by kernel_rfl) rfl (by kernel_rfl) (by kernel_rfl) Tryd.underlying3
  · have hc := World.var?_cell gShared hv0 0
    rcases DataW.trod_slice Tryd.underlying60 hd0 with ⟨_, hx⟩ | ⟨a, len, cap, elems, rest, m, rfl, hcs, hx, hb, hl, hm, hle, hel, hsp, _⟩
    · exact absurd (congrArg Prod.fst hx) (by intro e; cases e)
    · have hx1 := congrArg Prod.fst hx
      have he : elems.map (·.1) = [.lit (.string [115, 101, 108, 108, 101, 114]), .lit (.string [102, 114, 111, 109]), .lit (.string [116, 111]), .lit (.string [99, 117, 114, 114, 101, 110, 99, 121]), .lit (.string [98, 111, 120, 101, 115]), .lit (.string [109, 97, 114, 107, 115])] := by
        injection hx1 with h1 h2
        exact h1.symm
      have h6 : len = 6 := by
        have := congrArg List.length he
        simp at this
        omega
      subst h6
      have c9' : Tryd.prog.cellsOf 9 = 1 := c9
      have cellAt : ∀ i (bs : List UInt8), i < 6 → (elems.map (·.1))[i]? = some (.lit (.string bs)) → W.cell? (a.add i) = some (.string ⟨bs.toArray⟩) := by
        intro i bs hi hbs
        have h1 := hel i hi
        rw [List.getElem?_eq_getElem (by omega), c9', Nat.mul_one] at h1
        obtain ⟨cs', hcs', htr⟩ := Option.bind_eq_some_iff.1 h1
        have hd : (elems[i]'(by omega)).1 = .lit (.string bs) := by
          rw [List.getElem?_map, List.getElem?_eq_getElem (by omega)] at hbs
          exact Option.some.inj hbs
        have hcs2 := strs_of Tryd.underlying9 htr hd
        obtain ⟨_, _, hcell⟩ := World.cells?_some hcs'
        have := hcell 0 (by omega)
        rw [hcs2, Go.Deep.add_add] at this
        simpa using this
      have e0 := cellAt 0 _ (by omega) (by rw [he]; rfl)
      have e1 := cellAt 1 _ (by omega) (by rw [he]; rfl)
      have e2 := cellAt 2 _ (by omega) (by rw [he]; rfl)
      have e3 := cellAt 3 _ (by omega) (by rw [he]; rfl)
      have e4 := cellAt 4 _ (by omega) (by rw [he]; rfl)
      have e5 := cellAt 5 _ (by omega) (by rw [he]; rfl)
      obtain ⟨ha, _⟩ := cell_lt e0
      have ha' : a = ⟨a.block, a.off, none⟩ := by
        have : a.add 0 = a := by unfold Addr.add; simp
        rw [this] at ha
        exact ha
      obtain ⟨l⟩ := cs0
      have hl0 : l = [.slice (some a) 6 cap] := hcs
      rw [hl0] at hc
      rw [ha'] at hc e0 e1 e2 e3 e4 e5
      simp only [Go.WideShapes.add_plain, Nat.add_zero] at e0 e1 e2 e3 e4 e5
      refine ⟨a.block, a.off, cap, by simpa using hc, fun i s hs => ?_⟩
      match i, hs with
      | 0, hs => obtain rfl := Option.some.inj hs; exact e0
      | 1, hs => obtain rfl := Option.some.inj hs; exact e1
      | 2, hs => obtain rfl := Option.some.inj hs; exact e2
      | 3, hs => obtain rfl := Option.some.inj hs; exact e3
      | 4, hs => obtain rfl := Option.some.inj hs; exact e4
      | 5, hs => obtain rfl := Option.some.inj hs; exact e5
      | n + 6, hs => simp [sharedNames] at hs

/-- The door's own heap meets the condition. -/
theorem door_met (os : Os) (args : Array Value) : laidMetH Tryd.prog laidL ((World.doorLaid Tryd.prog 67 os).forCall (fun _ _ => 0) ⟨#[], args, []⟩).memory :=
  laidMetH_of_parts3 (fuel := 8) (laidMet_of_run' 8 (by kernel_rfl) (by kernel_rfl)) (by kernel_rfl) (by kernel_rfl)

theorem returnsInHanded_of_change_and_shaped {H : Type} {enc : TypeId × Value → H} {a : Assume} {C : Checked} {os : Os} {f : FuncId} {fn : Func} {s : ChangeSpec} {conds : List PathCond} {apart fresh handsOn again : Bool} {X : World → Array Value → Prop}
    (hX : ∀ (w w' : World) (args : Array Value), w.heap = w'.heap → X w args → X w' args)
    (own : ownKnob C.prog.godebug = none) (started : os.Started) (noInit : C.prog.inits.idxOf? f = none) (hfn : C.prog.funcs[f]? = some fn)
    (witness : ∃ (w : World) (tape : Tape) (i : Input), w.os = os ∧ (w.forCall tape i).Shaped C.prog ∧ i.vars = [] ∧ Input.okWide C.prog (w.forCall tape i) .any w.heap.size f i ∧
      ((s.pre enc C.prog fn conds apart (w.forCall tape i).memory i.args ∧ X (w.forCall tape i).memory i.args) ∧ sizedMet enc C.prog fn (OpenSpec.ofChange s) apart (w.forCall tape i).memory i.args) ∧ a.holds C.prog (lone (Frame.enter C.prog f i.args .normal) [] (w.forCall tape i)))
    (contract : ∀ (W : World) (base : Nat) (args : Array Value) (ds gs : List (DataW H)) (before : List MemPlace),
      (∀ (j : Nat) t v, fn.params[j]? = some t → args[j]? = some v → Value.okWide C.prog W .any base t v) →
      DataW.Whole enc C.prog fn.params.toList s.vars apart W args.toList ds gs before →
      conds.all (PathCond.test C.prog ⟨fn.params.toList, ds, s.plain.varTypes C.prog, gs⟩) = true →
      (DataW.weightsEach C.prog (fn.params.toList ++ s.plain.varTypes C.prog) (ds ++ gs)).all (· ≤ reachBytes) = true → X W args → W.ShapedOpen C.prog →
      a.holds C.prog (lone (Frame.enter C.prog f args .normal) [] W) →
      Calls C.prog f args W fun e W' => ∃ v, e = .returned v ∧ s.post enc C.prog fn apart fresh handsOn again W args v W') :
    ReturnsInHanded a C os f .any (fun w args => (s.pre enc C.prog fn conds apart w args ∧ X w args) ∧ sizedMet enc C.prog fn (OpenSpec.ofChange s) apart w args) (s.post enc C.prog fn apart fresh handsOn again) := by
  refine returnsInHanded_of_calls own started noInit witness ?_
  intro w tape i _ hsh _ hok hpre hholds
  obtain ⟨_, _, _, fn', hfn', _, _, _, _, hval⟩ := hok
  have e : fn' = fn := Option.some.inj (hfn'.symm.trans hfn)
  subst e
  obtain ⟨⟨⟨ds, gs, before, hw, hc⟩, hx⟩, hz⟩ := hpre
  have hw' := DataW.Whole.of_heap (w' := w.forCall tape i) (by rfl) hw
  refine (contract (w.forCall tape i) w.heap.size i.args ds gs before hval hw' hc (hz.weights hw) (hX _ _ _ (by rfl) hx) hsh hholds).mono fun e W' ⟨v, he, hp⟩ => ?_
  subst he
  exact ChangeSpec.post_blind hp
end Go.Proofs.YtcibglpbfaffgaaDoor.X
