/- The way in: a reading of an argument gives the value that its cells hold, kind by kind; and what the listed variables hold. -/
import Derived.Test.YtcibglpbfaffgaaDoorG0
import Derived.ChangeArms
import Derived.DataReads
import Derived.Deep.Slices
namespace Go.Proofs.YtcibglpbfaffgaaDoor.X
open Go Go.RowKit Go.Proofs.YtcibglpbfaffgaaDoorW.PrintWords Go.Proofs.YtcibglpbfaffgaaDoorW.PrintLast Go.Proofs.YtcibglpbfaffgaaDoorW.PrintMore
set_option linter.unusedVariables false

section
variable {P : Program} {α β : Type}
/-- A reading of type t, of fuel n at the most, gives a value of kind d of which ok holds. -/
def Opens (P : Program) (d : Kd α) (ok : α → Prop) (t : TypeId) (n : Nat) : Prop :=
  d.sz = P.cellsOf t ∧ ∀ (H : Type) (enc : TypeId × Value → H) (w : World) (base : Nat) (sp : Nat → Bool) (held : Bool) (fuel : Nat) (cs : List Value) (x : DataW H × List MemPlace), fuel ≤ n → DataW.trod enc P w base sp held fuel t cs = some x → ∃ a, d.K w a cs ∧ ok a
/-- .. of a struct's fields, from a place on. -/
def OpensFs (P : Program) (d : Kd α) (ok : α → Prop) (fs : List Field) (off n : Nat) : Prop :=
  ∀ (H : Type) (enc : TypeId × Value → H) (w : World) (base : Nat) (sp : Nat → Bool) (held : Bool) (m : Nat) (cs : List Value), m ≤ n → (∀ f, f ∈ fs → ∃ y, DataW.trod enc P w base sp held m f.type ((cs.drop f.offset).take (P.cellsOf f.type)) = some y) → ∃ a, d.K w a ((cs.drop off).take d.sz) ∧ ok a

theorem opens_int {k : IntKind} {t : TypeId} {n : Nat} (ht : P.underlying t = some (.int k)) (hc : P.cellsOf t = 1) : Opens P (Kd.int k) (fun z => (Lit.int k z).wf = true) t n :=
  ⟨hc.symm, fun H enc w base sp held fuel cs x _ h => by
    obtain ⟨z, rfl, _, hw⟩ := DataW.trod_int ht h
    exact ⟨z, rfl, hw⟩⟩
theorem opens_bool {t : TypeId} {n : Nat} (ht : P.underlying t = some .bool) (hc : P.cellsOf t = 1) : Opens P Kd.bool (fun _ => True) t n :=
  ⟨hc.symm, fun H enc w base sp held fuel cs x _ h => by
    obtain ⟨z, rfl, _⟩ := DataW.trod_bool ht h
    exact ⟨z, rfl, trivial⟩⟩
theorem opens_string {t : TypeId} {n : Nat} (ht : P.underlying t = some .string) (hc : P.cellsOf t = 1) : Opens P Kd.string (fun s => s.size ≤ maxLen) t n :=
  ⟨hc.symm, fun H enc w base sp held fuel cs x _ h => by
    obtain ⟨z, rfl, _, hs⟩ := DataW.trod_string ht h
    exact ⟨z, rfl, hs⟩⟩
theorem opens_iso {d : Kd α} {ok : α → Prop} {t : TypeId} {n : Nat} (f : β → α) (g : α → β) (hfg : ∀ a, f (g a) = a) (h : Opens P d ok t n) : Opens P (Kd.iso d f) (fun b => ok (f b)) t n :=
  ⟨h.1, fun H enc w base sp held fuel cs x hn hx => by
    obtain ⟨a, hk, ho⟩ := h.2 H enc w base sp held fuel cs x hn hx
    exact ⟨g a, by show d.K w (f (g a)) cs; rw [hfg]; exact hk, by show ok (f (g a)); rw [hfg]; exact ho⟩⟩
theorem opens_mono {d : Kd α} {ok ok' : α → Prop} {t : TypeId} {n : Nat} (ho : ∀ a, ok a → ok' a) (h : Opens P d ok t n) : Opens P d ok' t n :=
  ⟨h.1, fun H enc w base sp held fuel cs x hn hx => by
    obtain ⟨a, hk, h1⟩ := h.2 H enc w base sp held fuel cs x hn hx
    exact ⟨a, hk, ho a h1⟩⟩
theorem list_of {Q : Nat → α → List Value → Prop} {ok : α → Prop} : ∀ {len : Nat}, (∀ i, i < len → ∃ v c, Q i v c ∧ ok v) → ∃ l : List α, l.length = len ∧ ∀ i v, l[i]? = some v → ∃ c, Q i v c ∧ ok v
  | 0, _ => ⟨[], rfl, fun i v h => by simp at h⟩
  | len + 1, h => by
    obtain ⟨l, hl, hq⟩ := list_of (len := len) fun i hi => h i (by omega)
    obtain ⟨v, c, h1⟩ := h len (by omega)
    refine ⟨l ++ [v], by simp [hl], fun i u hu => ?_⟩
    by_cases hi : i < len
    · rw [List.getElem?_append_left (by omega)] at hu
      exact hq i u hu
    · rw [List.getElem?_append_right (by omega)] at hu
      have h0 : i - l.length = 0 := by
        have := (List.getElem?_eq_some_iff.1 hu).1
        simp at this
        omega
      rw [h0] at hu
      obtain rfl : v = u := by simpa using hu
      obtain rfl : i = len := by omega
      exact ⟨c, h1⟩
theorem opens_slice {d : Kd α} {ok : α → Prop} {t e : TypeId} {n : Nat} (E : Nat) (ht : P.underlying t = some (.slice e)) (hc : P.cellsOf t = 1) (h : Opens P d ok e n) : Opens P (Kd.slice E d) (fun l => l.length ≤ maxLen ∧ ∀ x ∈ l, ok x) t (n + 1) :=
  ⟨hc.symm, fun H enc w base sp held fuel cs x hn hx => by
    rcases DataW.trod_slice ht hx with ⟨rfl, _⟩ | ⟨a, len, cap, elems, rest, m, rfl, rfl, _, _, hl, hm, hle, hel, _⟩
    · exact ⟨[], ⟨none, 0, rfl, Nat.le_refl _, rfl, Nat.zero_le _, fun h => absurd h (Nat.lt_irrefl 0)⟩, Nat.zero_le _, fun x hx => by cases hx⟩
    · have key : ∀ i, i < len → ∃ v c, (c.length = d.sz ∧ d.K w v c ∧ ∀ j u, c[j]? = some u → w.cell? (a.add (i * d.sz + j)) = some u) ∧ ok v := by
        intro i hi
        have h1 := hel i hi
        rw [List.getElem?_eq_getElem (by omega)] at h1
        obtain ⟨cs', hcs, htr⟩ := Option.bind_eq_some_iff.1 h1
        obtain ⟨v, hk, ho⟩ := h.2 H enc w base sp held m cs' _ (by omega) htr
        obtain ⟨_, hlen, hcell⟩ := World.cells?_some hcs
        refine ⟨v, cs', ⟨hlen.trans h.1.symm, hk, fun j u hu => ?_⟩, ho⟩
        have hj : j < P.cellsOf e := by rw [← hlen]; exact (List.getElem?_eq_some_iff.1 hu).1
        have h2 := hcell j hj
        rw [Go.Deep.add_add, ← h.1] at h2
        exact h2.trans hu
      obtain ⟨l, rfl, hq⟩ := list_of key
      refine ⟨l, ⟨some a, cap, rfl, hl, rfl, ?_, fun _ => ⟨a, rfl, fun j p hp => ?_⟩⟩, Nat.le_trans hl hm, fun x hx => ?_⟩
      · have : maxLen = 9223372036854775807 := rfl
        omega
      · obtain ⟨c, ⟨h1, h2, h3⟩, _⟩ := hq j p hp
        exact ⟨c, h1, h2, h3⟩
      · obtain ⟨j, hj⟩ := List.getElem?_of_mem hx
        obtain ⟨c, _, ho⟩ := hq j x hj
        exact ho⟩
theorem opensFs_last {d : Kd α} {ok : α → Prop} {f : Field} {off n : Nat} (ho : f.offset = off) (h : Opens P d ok f.type n) : OpensFs P d ok [f] off n :=
  fun H enc w base sp held m cs hm hx => by
    obtain ⟨y, hy⟩ := hx f (List.mem_cons_self ..)
    obtain ⟨a, hk, h1⟩ := h.2 H enc w base sp held m _ y hm hy
    subst ho
    exact ⟨a, by rw [h.1]; exact hk, h1⟩
theorem opensFs_cons {d : Kd α} {d' : Kd β} {ok : α → Prop} {ok' : β → Prop} {f : Field} {fs : List Field} {off n : Nat} (ho : f.offset = off) (h : Opens P d ok f.type n) (h' : OpensFs P d' ok' fs (off + d.sz) n) : OpensFs P (Kd.pair d d') (fun x => ok x.1 ∧ ok' x.2) (f :: fs) off n :=
  fun H enc w base sp held m cs hm hx => by
    obtain ⟨y, hy⟩ := hx f (List.mem_cons_self ..)
    obtain ⟨a, hk, h1⟩ := h.2 H enc w base sp held m _ y hm hy
    obtain ⟨b, hkb, h2⟩ := h' H enc w base sp held m cs hm (fun g hg => hx g (List.mem_cons_of_mem _ hg))
    subst ho
    refine ⟨(a, b), ⟨(cs.drop f.offset).take d.sz, (cs.drop (f.offset + d.sz)).take d'.sz, ?_, by rw [h.1]; exact hk, hkb⟩, h1, h2⟩
    show (cs.drop f.offset).take (d.sz + d'.sz) = _
    rw [List.take_add, List.drop_drop]
theorem opensFs_iso {d : Kd α} {ok : α → Prop} {fs : List Field} {off n : Nat} (f : β → α) (g : α → β) (hfg : ∀ a, f (g a) = a) (h : OpensFs P d ok fs off n) : OpensFs P (Kd.iso d f) (fun b => ok (f b)) fs off n :=
  fun H enc w base sp held m cs hm hx => by
    obtain ⟨a, hk, ho⟩ := h H enc w base sp held m cs hm hx
    exact ⟨g a, by show d.K w (f (g a)) _; rw [hfg]; exact hk, by show ok (f (g a)); rw [hfg]; exact ho⟩
theorem opens_struct {d : Kd α} {ok : α → Prop} {t : TypeId} {fs : Array Field} {n : Nat} (ht : P.underlying t = some (.struct fs)) (hc : d.sz = P.cellsOf t) (h : OpensFs P d ok fs.toList 0 n) : Opens P d ok t (n + 1) :=
  ⟨hc, fun H enc w base sp held fuel cs x hn hx => by
    obtain ⟨xs, m, rfl, _, hl, hs, hf⟩ := DataW.trod_struct ht hx
    obtain ⟨a, hk, ho⟩ := h H enc w base sp held m cs (by omega) (fun f hf' => by
      obtain ⟨i, hi⟩ := List.getElem?_of_mem hf'
      have hi' : fs[i]? = some f := by simpa using hi
      have hlt : i < fs.size := (Array.getElem?_eq_some_iff.1 hi').1
      exact ⟨xs[i]'(by omega), by rw [hf i f hi', List.getElem?_eq_getElem (by omega)]⟩)
    rw [List.drop_zero, List.take_of_length_le (by rw [hl, hc]; exact Nat.le_refl _)] at hk
    exact ⟨a, hk, ho⟩⟩
end

/-! The seat's types -/
abbrev wf64 (z : Int) : Prop := (Lit.int .i64 z).wf = true
def ok25 (x : S25) : Prop := wf64 x.f0 ∧ wf64 x.f1 ∧ x.f2.size ≤ maxLen ∧ wf64 x.f3
theorem c3 : Tryd.prog.cellsOf 3 = 1 := by kernel_rfl
theorem c9 : Tryd.prog.cellsOf 9 = 1 := by kernel_rfl
set_option maxRecDepth 100000 in
theorem opens25 (n : Nat) : Opens Tryd.prog k25 ok25 25 (n + 1) :=
  opens_struct Tryd.underlying25 (by kernel_rfl)
    (opensFs_iso _ (fun x : Int × Int × ByteArray × Int => S25.mk x.1 x.2.1 x.2.2.1 x.2.2.2) (fun _ => rfl)
      (opensFs_cons rfl (opens_int Tryd.underlying3 c3) (opensFs_cons rfl (opens_int Tryd.underlying3 c3) (opensFs_cons rfl (opens_string Tryd.underlying9 c9) (opensFs_last rfl (opens_int Tryd.underlying3 c3))))))
theorem opens22 (n : Nat) : Opens Tryd.prog (Kd.slice 25 k25) (fun l => l.length ≤ maxLen ∧ ∀ x ∈ l, ok25 x) 22 (n + 2) := opens_slice 25 Tryd.underlying22 (by kernel_rfl) (opens25 n)
end Go.Proofs.YtcibglpbfaffgaaDoor.X
