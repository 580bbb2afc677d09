/- The way in, with the bulk of what is read: for the statements of the second form. -/
import Derived.Test.YtcibglpbfaffgaaDoorGL
import Derived.JoinedCond
namespace Go.Proofs.YtcibglpbfaffgaaDoor.X
open Go Go.ChangeShapes Go.WideShapes Go.ChangeAt Go.RowKit Go.Proofs.YtcibglpbfaffgaaDoorW.PrintWords Go.Proofs.YtcibglpbfaffgaaDoorW.PrintLast Go.Proofs.YtcibglpbfaffgaaDoorW.PrintMore
set_option linter.unusedVariables false

theorem bulk_mem {H : Type} {d : DataW H} : ∀ {l : List (DataW H)}, d ∈ l → Rows.uptoBulk d ≤ Rows.uptoBulkAll l
  | x :: r, h => by
    unfold Rows.uptoBulkAll
    rcases List.mem_cons.1 h with rfl | h
    · omega
    · have := bulk_mem h
      omega

section
variable {P : Program} {α β : Type}
/-- A reading of type t, of fuel n at the most, gives a value of kind d of which ok holds, at the reading's bulk. -/
def OpensB (P : Program) (d : Kd α) (ok : Nat → α → Prop) (t : TypeId) (n : Nat) : Prop :=
  d.sz = P.cellsOf t ∧ ∀ (H : Type) (enc : TypeId × Value → H) (w : World) (base : Nat) (sp : Nat → Bool) (held : Bool) (fuel : Nat) (cs : List Value) (x : DataW H × List MemPlace), fuel ≤ n → DataW.trod enc P w base sp held fuel t cs = some x → ∃ a, d.K w a cs ∧ ∀ B, Rows.uptoBulk x.1 ≤ B → ok B a
def OpensFsB (P : Program) (d : Kd α) (ok : Nat → α → Prop) (fs : List Field) (off n : Nat) : Prop :=
  ∀ (H : Type) (enc : TypeId × Value → H) (w : World) (base : Nat) (sp : Nat → Bool) (held : Bool) (m : Nat) (cs : List Value) (B : Nat), m ≤ n → (∀ f, f ∈ fs → ∃ y, DataW.trod enc P w base sp held m f.type ((cs.drop f.offset).take (P.cellsOf f.type)) = some y ∧ Rows.uptoBulk y.1 ≤ B) → ∃ a, d.K w a ((cs.drop off).take d.sz) ∧ ∀ B', B ≤ B' → ok B' a

theorem opensB_of {d : Kd α} {ok : α → Prop} {t : TypeId} {n : Nat} (h : Opens P d ok t n) : OpensB P d (fun _ a => ok a) t n :=
  ⟨h.1, fun H enc w base sp held fuel cs x hn hx => by
    obtain ⟨a, hk, ho⟩ := h.2 H enc w base sp held fuel cs x hn hx
    exact ⟨a, hk, fun _ _ => ho⟩⟩
theorem opensB_string {t : TypeId} {n : Nat} (ht : P.underlying t = some .string) (hc : P.cellsOf t = 1) : OpensB P Kd.string (fun B s => s.size ≤ B) t n :=
  ⟨hc.symm, fun H enc w base sp held fuel cs x _ h => by
    obtain ⟨z, rfl, hx, hs⟩ := DataW.trod_string ht h
    refine ⟨z, rfl, fun B hB => ?_⟩
    rw [hx] at hB
    simp only [Rows.uptoBulk] at hB
    have : z.size = z.data.toList.length := Array.length_toList.symm
    omega⟩
theorem opensB_slice {d : Kd α} {ok : Nat → α → Prop} {t e : TypeId} {n : Nat} (E : Nat) (ht : P.underlying t = some (.slice e)) (hc : P.cellsOf t = 1) (h : OpensB P d ok e n) : OpensB P (Kd.slice E d) (fun B l => l.length ≤ maxLen ∧ ∀ x ∈ l, ok B x) t (n + 1) :=
  ⟨hc.symm, fun H enc w base sp held fuel cs x hn hx => by
    rcases DataW.trod_slice ht hx with ⟨rfl, _⟩ | ⟨a, len, cap, elems, rest, m, rfl, rfl, hxe, _, hl, hm, hle, hel, _⟩
    · exact ⟨[], ⟨none, 0, rfl, Nat.le_refl _, rfl, Nat.zero_le _, fun h => absurd h (Nat.lt_irrefl 0)⟩, fun _ _ => ⟨Nat.zero_le _, fun x hx => by cases hx⟩⟩
    · have key : ∀ i, i < len → ∃ v c, (c.length = d.sz ∧ d.K w v c ∧ ∀ j u, c[j]? = some u → w.cell? (a.add (i * d.sz + j)) = some u) ∧ ∀ B, Rows.uptoBulk x.1 ≤ B → ok B v := by
        intro i hi
        have h1 := hel i hi
        rw [List.getElem?_eq_getElem (by omega)] at h1
        obtain ⟨cs', hcs, htr⟩ := Option.bind_eq_some_iff.1 h1
        obtain ⟨v, hk, ho⟩ := h.2 H enc w base sp held m cs' _ (by omega) htr
        obtain ⟨_, hlen, hcell⟩ := World.cells?_some hcs
        refine ⟨v, cs', ⟨hlen.trans h.1.symm, hk, fun j u hu => ?_⟩, fun B hB => ho B ?_⟩
        · have hj : j < P.cellsOf e := by rw [← hlen]; exact (List.getElem?_eq_some_iff.1 hu).1
          have h2 := hcell j hj
          rw [Go.Deep.add_add, ← h.1] at h2
          exact h2.trans hu
        · rw [hxe] at hB
          simp only [Rows.uptoBulk] at hB
          have := bulk_mem (List.mem_map.2 ⟨elems[i]'(by omega), List.getElem_mem _, rfl⟩ : (elems[i]'(by omega)).1 ∈ elems.map (·.1))
          omega
      obtain ⟨l, rfl, hq⟩ := list_of key
      refine ⟨l, ⟨some a, cap, rfl, hl, rfl, ?_, fun _ => ⟨a, rfl, fun j p hp => ?_⟩⟩, fun B hB => ⟨Nat.le_trans hl hm, fun x hx => ?_⟩⟩
      · have : maxLen = 9223372036854775807 := rfl
        omega
      · obtain ⟨c, ⟨h1, h2, h3⟩, _⟩ := hq j p hp
        exact ⟨c, h1, h2, h3⟩
      · obtain ⟨j, hj⟩ := List.getElem?_of_mem hx
        obtain ⟨c, _, ho⟩ := hq j x hj
        exact ho B hB⟩
theorem opensFsB_last {d : Kd α} {ok : Nat → α → Prop} {f : Field} {off n : Nat} (ho : f.offset = off) (h : OpensB P d ok f.type n) : OpensFsB P d ok [f] off n :=
  fun H enc w base sp held m cs B hm hx => by
    obtain ⟨y, hy, hB⟩ := hx f (List.mem_cons_self ..)
    obtain ⟨a, hk, h1⟩ := h.2 H enc w base sp held m _ y hm hy
    subst ho
    exact ⟨a, by rw [h.1]; exact hk, fun B' hB' => h1 B' (Nat.le_trans hB hB')⟩
theorem opensFsB_cons {d : Kd α} {d' : Kd β} {ok : Nat → α → Prop} {ok' : Nat → β → Prop} {f : Field} {fs : List Field} {off n : Nat} (ho : f.offset = off) (h : OpensB P d ok f.type n) (h' : OpensFsB P d' ok' fs (off + d.sz) n) : OpensFsB P (Kd.pair d d') (fun B x => ok B x.1 ∧ ok' B x.2) (f :: fs) off n :=
  fun H enc w base sp held m cs B hm hx => by
    obtain ⟨y, hy, hB⟩ := hx f (List.mem_cons_self ..)
    obtain ⟨a, hk, h1⟩ := h.2 H enc w base sp held m _ y hm hy
    obtain ⟨b, hkb, h2⟩ := h' H enc w base sp held m cs B hm (fun g hg => hx g (List.mem_cons_of_mem _ hg))
    subst ho
    refine ⟨(a, b), ⟨(cs.drop f.offset).take d.sz, (cs.drop (f.offset + d.sz)).take d'.sz, ?_, by rw [h.1]; exact hk, hkb⟩, fun B' hB' => ⟨h1 B' (Nat.le_trans hB hB'), h2 B' hB'⟩⟩
    show (cs.drop f.offset).take (d.sz + d'.sz) = _
    rw [List.take_add, List.drop_drop]
theorem opensFsB_iso {d : Kd α} {ok : Nat → α → Prop} {fs : List Field} {off n : Nat} (f : β → α) (g : α → β) (hfg : ∀ a, f (g a) = a) (h : OpensFsB P d ok fs off n) : OpensFsB P (Kd.iso d f) (fun B b => ok B (f b)) fs off n :=
  fun H enc w base sp held m cs B hm hx => by
    obtain ⟨a, hk, ho⟩ := h H enc w base sp held m cs B hm hx
    exact ⟨g a, by show d.K w (f (g a)) _; rw [hfg]; exact hk, fun B' hB' => by show ok B' (f (g a)); rw [hfg]; exact ho B' hB'⟩
theorem opensB_struct {d : Kd α} {ok : Nat → α → Prop} {t : TypeId} {fs : Array Field} {n : Nat} (ht : P.underlying t = some (.struct fs)) (hc : d.sz = P.cellsOf t) (h : OpensFsB P d ok fs.toList 0 n) : OpensB P d ok t (n + 1) :=
  ⟨hc, fun H enc w base sp held fuel cs x hn hx => by
    obtain ⟨xs, m, rfl, hxe, hl, hs, hf⟩ := DataW.trod_struct ht hx
    obtain ⟨a, hk, ho⟩ := h H enc w base sp held m cs (Rows.uptoBulk x.1) (by omega) (fun f hf' => by
      obtain ⟨i, hi⟩ := List.getElem?_of_mem hf'
      have hi' : fs[i]? = some f := by simpa using hi
      have hlt : i < fs.size := (Array.getElem?_eq_some_iff.1 hi').1
      refine ⟨xs[i]'(by omega), by rw [hf i f hi', List.getElem?_eq_getElem (by omega)], ?_⟩
      rw [hxe]
      simp only [Rows.uptoBulk]
      have := bulk_mem (List.mem_map.2 ⟨xs[i]'(by omega), List.getElem_mem _, rfl⟩ : (xs[i]'(by omega)).1 ∈ xs.map (·.1))
      omega)
    rw [List.drop_zero, List.take_of_length_le (by rw [hl, hc]; exact Nat.le_refl _)] at hk
    exact ⟨a, hk, ho⟩⟩
end

def ok25B (B : Nat) (x : S25) : Prop := wf64 x.f0 ∧ wf64 x.f1 ∧ x.f2.size ≤ B ∧ wf64 x.f3
set_option maxRecDepth 100000 in
theorem opens25B (n : Nat) : OpensB Tryd.prog k25 ok25B 25 (n + 1) :=
  opensB_struct Tryd.underlying25 (by kernel_rfl)
    (opensFsB_iso _ (fun x : Int × Int × ByteArray × Int => S25.mk x.1 x.2.1 x.2.2.1 x.2.2.2) (fun _ => rfl)
      (opensFsB_cons rfl (opensB_of (opens_int Tryd.underlying3 c3)) (opensFsB_cons rfl (opensB_of (opens_int Tryd.underlying3 c3)) (opensFsB_cons rfl (opensB_string Tryd.underlying9 c9) (opensFsB_last rfl (opensB_of (opens_int Tryd.underlying3 c3)))))))
theorem opens22B (n : Nat) : OpensB Tryd.prog (Kd.slice 25 k25) (fun B l => l.length ≤ maxLen ∧ ∀ x ∈ l, ok25B B x) 22 (n + 2) := opensB_slice 25 Tryd.underlying22 (by kernel_rfl) (opens25B n)

/-- The wrap for a condition of the specification's own, the listed variables and the world's shape kept. -/
theorem returnsInHanded_of_cond_and_shaped {H : Type} {enc : TypeId × Value → H} {a : Assume} {C : Checked} {os : Os} {f : FuncId} {fn : Func} {s : OpenSpec} {k : (H : Type) → List (DataW H) → Bool} (hk : s.cond = some k) {F : Stop.Interp} {conds : List PathCond} {apart fresh handsOn again : Bool} {X : World → Array Value → Prop}
    (hX : ∀ (w w' : World) (args : Array Value), w.heap = w'.heap → X w args → X w' args)
    (own : ownKnob C.prog.godebug = none) (started : os.Started) (noInit : C.prog.inits.idxOf? f = none) (hfn : C.prog.funcs[f]? = some fn)
    (witness : ∃ (w : World) (tape : Tape) (i : Input), w.os = os ∧ (w.forCall tape i).Shaped C.prog ∧ i.vars = [] ∧ Input.okWide C.prog (w.forCall tape i) .any w.heap.size f i ∧
      ((s.pre enc C.prog fn conds apart (w.forCall tape i).memory i.args ∧ X (w.forCall tape i).memory i.args) ∧ sizedMet enc C.prog fn s apart (w.forCall tape i).memory i.args) ∧ a.holds C.prog (lone (Frame.enter C.prog f i.args .normal) [] (w.forCall tape i)))
    (contract : ∀ (W : World) (base : Nat) (args : Array Value) (ds gs : List (DataW H)) (before : List MemPlace),
      (∀ (j : Nat) t v, fn.params[j]? = some t → args[j]? = some v → Value.okWide C.prog W .any base t v) →
      DataW.Whole enc C.prog fn.params.toList s.vars apart W args.toList ds gs before →
      k H (ds ++ gs) = true → X W args → W.ShapedOpen C.prog →
      a.holds C.prog (lone (Frame.enter C.prog f args .normal) [] W) →
      Calls C.prog f args W fun e W' => ∃ v, e = .returned v ∧ (s.at F).post enc C.prog fn apart fresh handsOn again W args v W') :
    ReturnsInHanded a C os f .any (fun w args => (s.pre enc C.prog fn conds apart w args ∧ X w args) ∧ sizedMet enc C.prog fn s apart w args) ((s.at F).post enc C.prog fn apart fresh handsOn again) := by
  refine returnsInHanded_of_calls own started noInit witness ?_
  intro w tape i _ hsh _ hok hpre hholds
  obtain ⟨_, _, _, fn', hfn', _, _, _, _, hval⟩ := hok
  have e : fn' = fn := Option.some.inj (hfn'.symm.trans hfn)
  subst e
  obtain ⟨⟨hp, hx⟩, hz⟩ := hpre
  obtain ⟨ds, gs, before, hw, hc, hkk⟩ := (OpenSpec.pre_some hk conds apart _ _).1 hp
  have hw' := DataW.Whole.of_heap (w' := w.forCall tape i) (by rfl) hw
  refine (contract (w.forCall tape i) w.heap.size i.args ds gs before hval hw' hkk (hX _ _ _ (by rfl) hx) hsh hholds).mono fun e W' ⟨v, he, hp⟩ => ?_
  subst he
  exact ChangeSpec.post_blind hp
end Go.Proofs.YtcibglpbfaffgaaDoor.X
