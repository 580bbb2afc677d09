/- Maps that a call makes, told as Lean functions from keys: made, looked up, stored into, moved from world to world; and the three key types of the layer. -/
import Derived.Test.YtcibglpbfaffgaaDoorX0
import Derived.Maps.OwnSet
import Derived.Maps.OwnOps
import Derived.DeepKeys4
import Derived.Lib.Hide
import Derived.WalkSpells
namespace Go.Proofs.YtcibglpbfaffgaaDoor.X
open Go.RowKit Go.Proofs.YtcibglpbfaffgaaDoorW.PrintWords Go.Proofs.YtcibglpbfaffgaaDoorW.PrintLast Go.Proofs.YtcibglpbfaffgaaDoorW.PrintMore
open Go.Maps (Keyed)
set_option linter.unusedVariables false

instance : DecidableEq S25 := fun a b =>
  if h : a.f0 = b.f0 ∧ a.f1 = b.f1 ∧ a.f2 = b.f2 ∧ a.f3 = b.f3 then isTrue (by cases a; cases b; simp_all) else isFalse (fun e => h (by subst e; exact ⟨rfl, rfl, rfl, rfl⟩))

def MapA {α β : Type} (w : World) (k e : TypeId) (enc : α → Value) (venc : β → Value) (M n : Nat) (f : α → Option β) : Prop :=
  ∃ D : DataW Unit, w.ownsMap Tryd.prog k (plainElem Tryd.prog e) M n D ∧ ∀ a kl, keyOf Tryd.prog k (enc a) = some kl → Maps.has D kl = (f a).isSome ∧ ∀ b, f a = some b → ∃ d, plainElem (H := Unit) Tryd.prog e (venc b) = some (d, []) ∧ ∀ z, D.atKey kl z = d

section
variable {α β : Type} {w w1 : World} {k e t : TypeId} {enc : α → Value} {venc : β → Value} {M n : Nat} {f : α → Option β}

theorem MapA_made (w : World) (k e : TypeId) (enc : α → Value) (venc : β → Value) : MapA (w.alloc (.map #[] 0)) k e enc venc w.heap.size 0 (fun _ : α => (none : Option β)) :=
  ⟨_, World.ownsMap_made w Tryd.prog k _, fun a kl _ => ⟨rfl, fun b hb => by simp at hb⟩⟩
theorem MapA_lt (h : MapA w k e enc venc M n f) : M < w.heap.size := by obtain ⟨D, h, _⟩ := h; exact h.lt
theorem MapA_move (h : MapA w k e enc venc M n f) (hm : w1.heap[M]? = w.heap[M]?) : MapA w1 k e enc venc M n f := by
  obtain ⟨D, ⟨es, clock, hb, r⟩, h2⟩ := h
  exact ⟨D, ⟨es, clock, hm.trans hb, r⟩, h2⟩
theorem MapA_below (h : MapA w k e enc venc M n f) (hb : Below w.heap.size w w1) : MapA w1 k e enc venc M n f := MapA_move h (hb.block M (MapA_lt h))
theorem MapA_more (h : MapA w k e enc venc M n f) {n' : Nat} (hn : n ≤ n') : MapA w k e enc venc M n' f := by
  obtain ⟨D, h, h2⟩ := h
  exact ⟨D, h.mono hn, h2⟩

theorem plain_eq_bool {P : Program} {e : TypeId} (he : P.underlying e = some .bool) {v v' : Value} {d : DataW Unit} {ps ps' : List MemPlace} (h : plainElem P e v = some (d, ps)) (h' : plainElem P e v' = some (d, ps')) : v = v' := by
  unfold plainElem at h h'
  rw [he] at h h'
  cases v <;> simp at h
  cases v' <;> simp at h'
  obtain ⟨rfl, _⟩ := h
  obtain ⟨h', _⟩ := h'
  injection h' with h'
  injection h' with h'
  rw [h']
theorem plain_eq_int {P : Program} {e : TypeId} {q : IntKind} (he : P.underlying e = some (.int q)) {v v' : Value} {d : DataW Unit} {ps ps' : List MemPlace} (h : plainElem P e v = some (d, ps)) (h' : plainElem P e v' = some (d, ps')) : v = v' := by
  obtain ⟨a, rfl, e1, _⟩ := plainElem_int_inv he h
  obtain ⟨b, rfl, e2, _⟩ := plainElem_int_inv he h'
  injection e1 with e1
  injection e2 with e2
  have e3 := e1.symm.trans e2
  injection e3 with e3
  injection e3 with _ e3
  rw [e3]
theorem plain_eq_str {P : Program} {e : TypeId} (he : P.underlying e = some .string) {v v' : Value} {d : DataW Unit} {ps ps' : List MemPlace} (h : plainElem P e v = some (d, ps)) (h' : plainElem P e v' = some (d, ps')) : v = v' := by
  obtain ⟨a, rfl, e1, _⟩ := plainElem_string_inv he h
  obtain ⟨b, rfl, e2, _⟩ := plainElem_string_inv he h'
  injection e1 with e1
  injection e2 with e2
  have e3 := e1.symm.trans e2
  injection e3 with e3
  injection e3 with e3
  cases a; cases b
  simp only at e3
  rw [Array.toList_inj] at e3
  rw [e3]

/-- What a look-up, a store do. -/
structure KV (k e t : TypeId) (zero : Value) : Prop where
  keyed : Keyed Tryd.prog k
  under : Tryd.prog.underlying t = some (.map k e)
  zer : ∀ w, (zeroValue e).run Tryd.prog w = .ok zero w
  plain : ∃ zd, plainElem (H := Unit) Tryd.prog e zero = some (zd, [])
  inj : ∀ {v v' : Value} {d : DataW Unit} {ps ps'}, plainElem Tryd.prog e v = some (d, ps) → plainElem Tryd.prog e v' = some (d, ps') → v = v'

def orZero {β : Type} (venc : β → Value) (zero : Value) : Option β → Value
  | some b => venc b
  | none => zero
theorem MapA_look {zero : Value} (K : KV k e t zero) (h : MapA w k e enc venc M n f) {a : α} {kl : Lit} (hk : keyOf Tryd.prog k (enc a) = some kl) :
    (Instr.lookup t (.map (some M)) (enc a) false).run Tryd.prog w = .ok (orZero venc zero (f a)) w := by
  obtain ⟨D, hown, hf⟩ := h
  obtain ⟨zd, hzd⟩ := K.plain
  obtain ⟨v, ps, hrun, hv⟩ := hown.lookup K.keyed K.under (K.zer w) hzd hk
  obtain ⟨h1, h2⟩ := hf a kl hk
  rw [hrun]
  have : v = orZero venc zero (f a) := by
    cases hfa : f a with
    | none =>
      rw [hfa] at h1
      rw [Maps.atKey_of_not_has h1] at hv
      exact K.inj hv hzd
    | some b =>
      obtain ⟨d, hd, hat⟩ := h2 b hfa
      rw [hat] at hv
      exact K.inj hv hd
  rw [this]
theorem MapA_lookOk {zero : Value} (K : KV k e t zero) (h : MapA w k e enc venc M n f) {a : α} {kl : Lit} (hk : keyOf Tryd.prog k (enc a) = some kl) :
    (Instr.lookup t (.map (some M)) (enc a) true).run Tryd.prog w = .ok (.tuple #[orZero venc zero (f a), .bool (f a).isSome]) w := by
  obtain ⟨D, hown, hf⟩ := h
  obtain ⟨zd, hzd⟩ := K.plain
  obtain ⟨v, ps, hrun, hv⟩ := hown.look_ok K.keyed K.under (K.zer w) hzd hk
  obtain ⟨h1, h2⟩ := hf a kl hk
  rw [hrun, h1]
  have : v = orZero venc zero (f a) := by
    cases hfa : f a with
    | none =>
      rw [hfa] at h1
      rw [Maps.atKey_of_not_has h1] at hv
      exact K.inj hv hzd
    | some b =>
      obtain ⟨d, hd, hat⟩ := h2 b hfa
      rw [hat] at hv
      exact K.inj hv hd
  rw [this]
theorem MapA_put [DecidableEq α] {zero : Value} (K : KV k e t zero) (hinj : ∀ a b, enc a = enc b → a = b) (h : MapA w k e enc venc M n f) (hn : n < maxLen) {a : α} {kl : Lit} (hk : keyOf Tryd.prog k (enc a) = some kl)
    {b : β} {d : DataW Unit} (hd : plainElem Tryd.prog e (venc b) = some (d, [])) :
    ∃ w', (Instr.mapUpdate t (.map (some M)) (enc a) (venc b)).run Tryd.prog w = .ok () w' ∧ MapA w' k e enc venc M (n + 1) (fun x => if x = a then some b else f x) ∧ w.grownBy w' (some M) := by
  obtain ⟨D, hown, hf⟩ := h
  obtain ⟨w', hrun, hown', hg⟩ := hown.update K.keyed K.under hn hk hd
  refine ⟨w', hrun, ⟨_, hown', fun x kx hx => ?_⟩, hg⟩
  by_cases hxa : x = a
  · subst hxa
    obtain rfl : kx = kl := Option.some.inj (hx.symm.trans hk)
    have hki := K.keyed.key hk
    simp only [if_true]
    refine ⟨Maps.has_put_same hown.isMap hki d, fun b' hb' => ?_⟩
    obtain rfl := Option.some.inj hb'
    exact ⟨d, hd, fun z => Maps.atKey_put_same hown.isMap hki d z⟩
  · have hne : kx ≠ kl := by
      rintro rfl
      exact hxa (hinj _ _ (K.keyed.inj hx hk))
    simp only [if_neg hxa]
    obtain ⟨h1, h2⟩ := hf x kx hx
    refine ⟨by rw [Maps.has_put_other hne]; exact h1, fun b' hb' => ?_⟩
    obtain ⟨d', hd', hat⟩ := h2 b' hb'
    exact ⟨d', hd', fun z => by rw [Maps.atKey_put_other hne]; exact hat z⟩
end

theorem laidOut_ : laidOutB Tryd.prog = true := by kernel_rfl
theorem kv68 : KV 25 4 68 (.bool false) where
  keyed := Keyed.of_law (deep_law_laid laidOut_ (m := 20) (by omega) (of_decide_eq_true (by kernel_rfl)) (by kernel_rfl) (by kernel_rfl))
  under := Tryd.underlying68
  zer := fun w => by kernel_rfl
  plain := ⟨_, plainElem_bool Tryd.underlying4 false⟩
  inj := plain_eq_bool Tryd.underlying4
theorem kv73 : KV 3 3 73 (.int .i64 0) where
  keyed := Maps.int_keyed Tryd.underlying3
  under := Tryd.underlying73
  zer := fun w => by kernel_rfl
  plain := ⟨_, plainElem_int Tryd.underlying3 (by decide)⟩
  inj := plain_eq_int Tryd.underlying3
theorem kv74 : KV 3 4 74 (.bool false) where
  keyed := Maps.int_keyed Tryd.underlying3
  under := Tryd.underlying74
  zer := fun w => by kernel_rfl
  plain := ⟨_, plainElem_bool Tryd.underlying4 false⟩
  inj := plain_eq_bool Tryd.underlying4
theorem kv75 : KV 9 9 75 (.string ByteArray.empty) where
  keyed := Maps.string_keyed Tryd.underlying9
  under := Tryd.underlying75
  zer := fun w => by kernel_rfl
  plain := ⟨_, plainElem_string Tryd.underlying9 (by decide)⟩
  inj := plain_eq_str Tryd.underlying9
theorem size_ : ∃ m, Tryd.prog.types.size + 1 = m + 2 := ⟨Tryd.prog.types.size - 1, by have : 2 ≤ Tryd.prog.types.size := of_decide_eq_true (by kernel_rfl); omega⟩
theorem kt25 : Tryd.prog.keyType 25 = true := by kernel_rfl
theorem cellsOf25 : Tryd.prog.cellsOf 25 = 4 := by kernel_rfl
theorem cellsOf3 : Tryd.prog.cellsOf 3 = 1 := by kernel_rfl
theorem cellsOf9 : Tryd.prog.cellsOf 9 = 1 := by kernel_rfl
theorem key25 {a b c : Int} {s : ByteArray} (ha : (Lit.int .i64 a).wf = true) (hb : (Lit.int .i64 b).wf = true) (hc : (Lit.int .i64 c).wf = true) (hs : s.size ≤ maxLen) :
    ∃ kl, keyOf Tryd.prog 25 (.agg #[.int .i64 a, .int .i64 b, .string s, .int .i64 c]) = some kl := by
  obtain ⟨m, hm⟩ := size_
  unfold keyOf
  rw [Tryd.underlying25]
  simp only
  rw [kt25, hm]
  have hf : (Value.agg #[.int .i64 a, .int .i64 b, .string s, .int .i64 c]).formed Tryd.prog 25 = true := by
    simp [Value.formed, Tryd.underlying25, cellsOf25]
  rw [hf]
  simp [Program.keyLits, Tryd.underlying25, Tryd.underlying3, Tryd.underlying9, cellsOf25, cellsOf3, cellsOf9, Value.cells, ha, hb, hc, hs]
end Go.Proofs.YtcibglpbfaffgaaDoor.X
