/- The way in, with the reach of what is read: how long each text is at the most. -/
import Derived.Test.YtcibglpbfaffgaaDoorGL
import Derived.Test.YtcibglpbfaffgaaDoorG4
namespace Go.Proofs.YtcibglpbfaffgaaDoor.X
open Go Go.ChangeShapes Go.WideShapes Go.ChangeAt Go.RowKit Go.Proofs.YtcibglpbfaffgaaDoorW.PrintWords Go.Proofs.YtcibglpbfaffgaaDoorW.PrintLast Go.Proofs.YtcibglpbfaffgaaDoorW.PrintMore
set_option linter.unusedVariables false
set_option linter.unusedSimpArgs false

theorem weights_all {H : Type} {P : Program} {e : TypeId} {d : DataW H} {n : Nat} : ∀ {l : List (DataW H)}, d ∈ l → n ∈ d.weights P e → n ∈ DataW.weightsAll P e l
  | x :: r, h, hn => by
    unfold DataW.weightsAll
    rcases List.mem_cons.1 h with rfl | h
    · exact List.mem_append_left _ hn
    · exact List.mem_append_right _ (weights_all h hn)
theorem weights_each {H : Type} {P : Program} {n : Nat} {t : TypeId} {d : DataW H} : ∀ {i : Nat} {ts : List TypeId} {l : List (DataW H)}, ts[i]? = some t → l[i]? = some d → n ∈ d.weights P t → n ∈ DataW.weightsEach P ts l
  | _, [], _, h, _, _ => by simp at h
  | _, _ :: _, [], _, h, _ => by simp at h
  | 0, u :: ts, x :: r, h, h', hn => by
    obtain rfl : u = t := by simpa using h
    obtain rfl : x = d := by simpa using h'
    unfold DataW.weightsEach
    exact List.mem_append_left _ hn
  | i + 1, u :: ts, x :: r, h, h', hn => by
    unfold DataW.weightsEach
    exact List.mem_append_right _ (weights_each (i := i) (by simpa using h) (by simpa using h') hn)

section
variable {P : Program} {α β : Type}
/-- A reading of type t, of fuel n at the most, gives a value of kind d of which ok holds, at the weights' bound. -/
def OpensW (P : Program) (d : Kd α) (ok : Nat → α → Prop) (t : TypeId) (n : Nat) : Prop :=
  d.sz = P.cellsOf t ∧ ∀ (H : Type) (enc : TypeId × Value → H) (w : World) (base : Nat) (sp : Nat → Bool) (held : Bool) (fuel : Nat) (cs : List Value) (x : DataW H × List MemPlace), fuel ≤ n → DataW.trod enc P w base sp held fuel t cs = some x → ∃ a, d.K w a cs ∧ ∀ B, (∀ n ∈ x.1.weights P t, n ≤ B) → ok B a
def OpensFsW (P : Program) (d : Kd α) (ok : Nat → α → Prop) (fs : List Field) (off n : Nat) : Prop :=
  ∀ (H : Type) (enc : TypeId × Value → H) (w : World) (base : Nat) (sp : Nat → Bool) (held : Bool) (m : Nat) (cs : List Value) (V : Nat → Prop), m ≤ n → (∀ f, f ∈ fs → ∃ y, DataW.trod enc P w base sp held m f.type ((cs.drop f.offset).take (P.cellsOf f.type)) = some y ∧ ∀ B, V B → ∀ n ∈ y.1.weights P f.type, n ≤ B) → ∃ a, d.K w a ((cs.drop off).take d.sz) ∧ ∀ B, V B → ok B a

theorem opensW_of {d : Kd α} {ok : α → Prop} {t : TypeId} {n : Nat} (h : Opens P d ok t n) : OpensW P d (fun _ a => ok a) t n :=
  ⟨h.1, fun H enc w base sp held fuel cs x hn hx => by
    obtain ⟨a, hk, ho⟩ := h.2 H enc w base sp held fuel cs x hn hx
    exact ⟨a, hk, fun _ _ => ho⟩⟩
theorem opensW_string {t : TypeId} {n : Nat} (ht : P.underlying t = some .string) (hc : P.cellsOf t = 1) : OpensW P Kd.string (fun B s => s.size ≤ B) t n :=
  ⟨hc.symm, fun H enc w base sp held fuel cs x _ h => by
    obtain ⟨z, rfl, hx, hs⟩ := DataW.trod_string ht h
    refine ⟨z, rfl, fun B hB => ?_⟩
    rw [hx] at hB
    have : z.size = z.data.toList.length := Array.length_toList.symm
    rw [this]
    exact hB _ (by simp [DataW.weights])⟩
theorem opensW_slice {d : Kd α} {ok : Nat → α → Prop} {t e : TypeId} {n : Nat} (E : Nat) (ht : P.underlying t = some (.slice e)) (hc : P.cellsOf t = 1) (h : OpensW P d ok e n) : OpensW P (Kd.slice E d) (fun B l => l.length ≤ maxLen ∧ ∀ x ∈ l, ok B x) t (n + 1) :=
  ⟨hc.symm, fun H enc w base sp held fuel cs x hn hx => by
    rcases DataW.trod_slice ht hx with ⟨rfl, _⟩ | ⟨a, len, cap, elems, rest, m, rfl, rfl, hxe, _, hl, hm, hle, hel, _⟩
    · exact ⟨[], ⟨none, 0, rfl, Nat.le_refl _, rfl, Nat.zero_le _, fun h => absurd h (Nat.lt_irrefl 0)⟩, fun _ _ => ⟨Nat.zero_le _, fun x hx => by cases hx⟩⟩
    · have key : ∀ i, i < len → ∃ v c, (c.length = d.sz ∧ d.K w v c ∧ ∀ j u, c[j]? = some u → w.cell? (a.add (i * d.sz + j)) = some u) ∧ ∀ B, (∀ n ∈ x.1.weights P t, n ≤ B) → ok B v := by
        intro i hi
        have h1 := hel i hi
        rw [List.getElem?_eq_getElem (by omega)] at h1
        obtain ⟨cs', hcs, htr⟩ := Option.bind_eq_some_iff.1 h1
        obtain ⟨v, hk, ho⟩ := h.2 H enc w base sp held m cs' _ (by omega) htr
        obtain ⟨_, hlen, hcell⟩ := World.cells?_some hcs
        refine ⟨v, cs', ⟨hlen.trans h.1.symm, hk, fun j u hu => ?_⟩, fun B hB => ho B fun n hn' => hB n ?_⟩
        · have hj : j < P.cellsOf e := by rw [← hlen]; exact (List.getElem?_eq_some_iff.1 hu).1
          have h2 := hcell j hj
          rw [Go.Deep.add_add, ← h.1] at h2
          exact h2.trans hu
        · rw [hxe]
          simp only [DataW.weights, ht]
          exact List.mem_cons_of_mem _ (List.mem_append_left _ (weights_all (List.mem_map.2 ⟨elems[i]'(by omega), List.getElem_mem _, rfl⟩ : (elems[i]'(by omega)).1 ∈ elems.map (·.1)) hn'))
      obtain ⟨l, rfl, hq⟩ := list_of key
      refine ⟨l, ⟨some a, cap, rfl, hl, rfl, ?_, fun _ => ⟨a, rfl, fun j p hp => ?_⟩⟩, fun B hB => ⟨Nat.le_trans hl hm, fun x hx => ?_⟩⟩
      · have : maxLen = 9223372036854775807 := rfl
        omega
      · obtain ⟨c, ⟨h1, h2, h3⟩, _⟩ := hq j p hp
        exact ⟨c, h1, h2, h3⟩
      · obtain ⟨j, hj⟩ := List.getElem?_of_mem hx
        obtain ⟨c, _, ho⟩ := hq j x hj
        exact ho B hB⟩
/-- .. and how much the row takes. -/
theorem opensW_sliceB {d : Kd α} {ok : Nat → α → Prop} {t e : TypeId} {n : Nat} (E : Nat) (ht : P.underlying t = some (.slice e)) (hc : P.cellsOf t = 1) (h : OpensW P d ok e n) : OpensW P (Kd.slice E d) (fun B l => (l.length ≤ maxLen ∧ ∀ x ∈ l, ok B x) ∧ l.length * P.bytesOf e ≤ B) t (n + 1) :=
  ⟨hc.symm, fun H enc w base sp held fuel cs x hn hx => by
    obtain ⟨l, hk, ho⟩ := (opensW_slice E ht hc h).2 H enc w base sp held fuel cs x hn hx
    refine ⟨l, hk, fun B hB => ⟨ho B hB, ?_⟩⟩
    rcases DataW.trod_slice ht hx with ⟨rfl, _⟩ | ⟨a, len, cap, elems, rest, m, rfl, rfl, hxe, _, hl, hm, hle, hel, _⟩
    · obtain ⟨A, c, hcs, _, _⟩ := hk
      have hcs' : [Value.slice none 0 0] = [Value.slice A l.length c] := hcs
      injection hcs' with hcs'
      injection hcs' with _ h0 _
      rw [← h0, Nat.zero_mul]
      exact Nat.zero_le _
    · obtain ⟨A, c, hcs, _, _⟩ := hk
      have hcs' : [Value.slice (some a) len cap] = [Value.slice A l.length c] := hcs
      injection hcs' with hcs'
      injection hcs' with _ h0 _
      subst h0
      have h1 := hB (((elems.map (·.1)).length + (rest.map (·.1)).length) * P.bytesOf e) (by
        rw [hxe]
        simp only [DataW.weights, ht]
        exact List.mem_cons_self ..)
      have h2 : l.length ≤ (elems.map (·.1)).length + (rest.map (·.1)).length := by simp only [List.length_map]; omega
      exact Nat.le_trans (Nat.mul_le_mul_right _ h2) h1⟩
theorem opensFsW_last {d : Kd α} {ok : Nat → α → Prop} {f : Field} {off n : Nat} (ho : f.offset = off) (h : OpensW P d ok f.type n) : OpensFsW P d ok [f] off n :=
  fun H enc w base sp held m cs V hm hx => by
    obtain ⟨y, hy, hB⟩ := hx f (List.mem_cons_self ..)
    obtain ⟨a, hk, h1⟩ := h.2 H enc w base sp held m _ y hm hy
    subst ho
    exact ⟨a, by rw [h.1]; exact hk, fun B' hB' => h1 B' (hB B' hB')⟩
theorem opensFsW_cons {d : Kd α} {d' : Kd β} {ok : Nat → α → Prop} {ok' : Nat → β → Prop} {f : Field} {fs : List Field} {off n : Nat} (ho : f.offset = off) (h : OpensW P d ok f.type n) (h' : OpensFsW P d' ok' fs (off + d.sz) n) : OpensFsW P (Kd.pair d d') (fun B x => ok B x.1 ∧ ok' B x.2) (f :: fs) off n :=
  fun H enc w base sp held m cs V hm hx => by
    obtain ⟨y, hy, hB⟩ := hx f (List.mem_cons_self ..)
    obtain ⟨a, hk, h1⟩ := h.2 H enc w base sp held m _ y hm hy
    obtain ⟨b, hkb, h2⟩ := h' H enc w base sp held m cs V hm (fun g hg => hx g (List.mem_cons_of_mem _ hg))
    subst ho
    refine ⟨(a, b), ⟨(cs.drop f.offset).take d.sz, (cs.drop (f.offset + d.sz)).take d'.sz, ?_, by rw [h.1]; exact hk, hkb⟩, fun B' hB' => ⟨h1 B' (hB B' hB'), h2 B' hB'⟩⟩
    show (cs.drop f.offset).take (d.sz + d'.sz) = _
    rw [List.take_add, List.drop_drop]
theorem opensFsW_iso {d : Kd α} {ok : Nat → α → Prop} {fs : List Field} {off n : Nat} (f : β → α) (g : α → β) (hfg : ∀ a, f (g a) = a) (h : OpensFsW P d ok fs off n) : OpensFsW P (Kd.iso d f) (fun B b => ok B (f b)) fs off n :=
  fun H enc w base sp held m cs V hm hx => by
    obtain ⟨a, hk, ho⟩ := h H enc w base sp held m cs V hm hx
    exact ⟨g a, by show d.K w (f (g a)) _; rw [hfg]; exact hk, fun B' hB' => by show ok B' (f (g a)); rw [hfg]; exact ho B' hB'⟩
theorem opensW_struct {d : Kd α} {ok : Nat → α → Prop} {t : TypeId} {fs : Array Field} {n : Nat} (ht : P.underlying t = some (.struct fs)) (hc : d.sz = P.cellsOf t) (h : OpensFsW P d ok fs.toList 0 n) : OpensW P d ok t (n + 1) :=
  ⟨hc, fun H enc w base sp held fuel cs x hn hx => by
    obtain ⟨xs, m, rfl, hxe, hl, hs, hf⟩ := DataW.trod_struct ht hx
    obtain ⟨a, hk, ho⟩ := h H enc w base sp held m cs (fun B => ∀ n ∈ x.1.weights P t, n ≤ B) (by omega) (fun f hf' => by
      obtain ⟨i, hi⟩ := List.getElem?_of_mem hf'
      have hi' : fs[i]? = some f := by simpa using hi
      have hlt : i < fs.size := (Array.getElem?_eq_some_iff.1 hi').1
      refine ⟨xs[i]'(by omega), by rw [hf i f hi', List.getElem?_eq_getElem (by omega)], fun B hB n hn' => hB n ?_⟩
      rw [hxe]
      simp only [DataW.weights, ht]
      exact weights_each (i := i) (by rw [List.getElem?_map, hi]; rfl) (by rw [List.getElem?_map, List.getElem?_eq_getElem (by omega)]; rfl) hn')
    rw [List.drop_zero, List.take_of_length_le (by rw [hl, hc]; exact Nat.le_refl _)] at hk
    exact ⟨a, hk, fun B hB => ho B hB⟩⟩
theorem opensW_iso {d : Kd α} {ok : Nat → α → Prop} {t : TypeId} {n : Nat} (f : β → α) (g : α → β) (hfg : ∀ a, f (g a) = a) (h : OpensW P d ok t n) : OpensW P (Kd.iso d f) (fun B b => ok B (f b)) t n :=
  ⟨h.1, fun H enc w base sp held fuel cs x hn hx => by
    obtain ⟨a, hk, ho⟩ := h.2 H enc w base sp held fuel cs x hn hx
    exact ⟨g a, by show d.K w (f (g a)) _; rw [hfg]; exact hk, fun B' hB' => by show ok B' (f (g a)); rw [hfg]; exact ho B' hB'⟩⟩
end

theorem trod_zero {H : Type} {enc : TypeId × Value → H} {P : Program} {w : World} {base : Nat} {sp : Nat → Bool} {held : Bool} {t : TypeId} {cs : List Value} : DataW.trod enc P w base sp held 0 t cs = none := rfl
inductive Ok43 (B : Nat) : S43 → Prop
  | mk {x : S43} : wf64 x.f0 → wf64 x.f1 → x.f2.size ≤ B → x.f3.size ≤ B → wf64 x.f4 → x.f5.length ≤ maxLen → (∀ y ∈ x.f5, Ok43 B y) → Ok43 B x
theorem c2 : Tryd.prog.cellsOf 2 = 1 := by kernel_rfl
theorem c4 : Tryd.prog.cellsOf 4 = 1 := by kernel_rfl
set_option maxRecDepth 100000 in
theorem opens43W : ∀ n : Nat, OpensW Tryd.prog k43 Ok43 43 n
  | 0 => ⟨by kernel_rfl, fun H enc w base sp held fuel cs x hn hx => by
      obtain rfl : fuel = 0 := by omega
      rw [trod_zero] at hx
      exact absurd hx (by simp)⟩
  | n + 1 => by
    have ih : OpensW Tryd.prog k43 Ok43 43 (n - 1) := opens43W (n - 1)
    have hs : OpensW Tryd.prog (Kd.slice 43 k43) (fun B l => l.length ≤ maxLen ∧ ∀ x ∈ l, Ok43 B x) 41 n := by
      cases n with
      | zero => exact ⟨by kernel_rfl, fun H enc w base sp held fuel cs x hn hx => by
          obtain rfl : fuel = 0 := by omega
          rw [trod_zero] at hx
          exact absurd hx (by simp)⟩
      | succ n => exact opensW_slice 43 Tryd.underlying41 (by kernel_rfl) ih
    have h := opensW_struct (n := n) (d := F43 k43) Tryd.underlying43 (by kernel_rfl)
      (opensFsW_iso _ (fun x : Int × Int × ByteArray × ByteArray × Int × List S43 => S43.mk x.1 x.2.1 x.2.2.1 x.2.2.2.1 x.2.2.2.2.1 x.2.2.2.2.2) (fun _ => rfl)
        (opensFsW_cons rfl (opensW_of (opens_int Tryd.underlying3 c3)) (opensFsW_cons rfl (opensW_of (opens_int Tryd.underlying3 c3)) (opensFsW_cons rfl (opensW_string Tryd.underlying9 c9) (opensFsW_cons rfl (opensW_string Tryd.underlying9 c9)
          (opensFsW_cons rfl (opensW_of (opens_int Tryd.underlying2 c2)) (opensFsW_last rfl hs)))))))
    refine ⟨by kernel_rfl, fun H enc w base sp held fuel cs x hn hx => ?_⟩
    obtain ⟨a, hk, ho⟩ := h.2 H enc w base sp held fuel cs x hn hx
    refine ⟨a, ?_, fun B hB => ?_⟩
    · obtain ⟨_, _, rfl, rfl, ⟨_, _, rfl, rfl, ⟨_, _, rfl, rfl, ⟨_, _, rfl, rfl, ⟨_, _, rfl, rfl, ⟨A5, c5, rfl, l5, g5⟩⟩⟩⟩⟩⟩ := hk
      exact k43_mk w a l5 g5
    · obtain ⟨h0, h1, h2, h3, h4, h5, h6⟩ := ho B hB
      exact .mk h0 h1 h2 h3 h4 h5 h6
def Ok45 (B : Nat) (x : S45) : Prop := wf64 x.f0 ∧ wf64 x.f1 ∧ Ok43 B x.f2
set_option maxRecDepth 100000 in
theorem opens45W (n : Nat) : OpensW Tryd.prog k45 Ok45 45 (n + 1) :=
  opensW_struct Tryd.underlying45 (by kernel_rfl)
    (opensFsW_iso _ (fun x : Int × Int × S43 => S45.mk x.1 x.2.1 x.2.2) (fun _ => rfl)
      (opensFsW_cons rfl (opensW_of (opens_int Tryd.underlying3 c3)) (opensFsW_cons rfl (opensW_of (opens_int Tryd.underlying3 c3)) (opensFsW_last rfl (opens43W n)))))
def Ok66 (B : Nat) (x : S66) : Prop := x.f0.size ≤ B ∧ x.f1.size ≤ B
set_option maxRecDepth 100000 in
theorem opens66W (n : Nat) : OpensW Tryd.prog k66 Ok66 66 (n + 1) :=
  opensW_struct Tryd.underlying66 (by kernel_rfl)
    (opensFsW_iso _ (fun x : ByteArray × ByteArray => S66.mk x.1 x.2) (fun _ => rfl)
      (opensFsW_cons rfl (opensW_string Tryd.underlying9 c9) (opensFsW_last rfl (opensW_string Tryd.underlying9 c9))))
def lim47r : Nat := 140737488351232
theorem reach_lim : reachBytes = lim47r := rfl
def Ok30 (B : Nat) (x : S30) : Prop := x.f0.size ≤ B ∧ wf64 x.f1
set_option maxRecDepth 100000 in
theorem opens30W (n : Nat) : OpensW Tryd.prog k30 Ok30 30 (n + 1) :=
  opensW_struct Tryd.underlying30 (by kernel_rfl)
    (opensFsW_iso _ (fun x : ByteArray × Int => S30.mk x.1 x.2) (fun _ => rfl)
      (opensFsW_cons rfl (opensW_string Tryd.underlying9 c9) (opensFsW_last rfl (opensW_of (opens_int Tryd.underlying2 c2)))))
def Ok37 (B : Nat) (d : S37) : Prop := wf64 d.f0 ∧ d.f1.size ≤ B ∧ d.f2.size ≤ B ∧ d.f3.length ≤ maxLen ∧ ∀ f ∈ d.f3, Ok66 B f
set_option maxRecDepth 100000 in
theorem opens37W (n : Nat) : OpensW Tryd.prog k37 Ok37 37 (n + 3) :=
  opensW_struct Tryd.underlying37 (by kernel_rfl)
    (opensFsW_iso _ (fun x : Int × ByteArray × ByteArray × List S66 => S37.mk x.1 x.2.1 x.2.2.1 x.2.2.2) (fun _ => rfl)
      (opensFsW_cons rfl (opensW_of (opens_int Tryd.underlying3 c3)) (opensFsW_cons rfl (opensW_string Tryd.underlying9 c9) (opensFsW_cons rfl (opensW_string Tryd.underlying9 c9)
        (opensFsW_last rfl (opensW_slice 66 Tryd.underlying35 (by kernel_rfl) (opens66W n)))))))
theorem b37 : Tryd.prog.bytesOf 37 = 64 := by kernel_rfl
theorem b45 : Tryd.prog.bytesOf 45 = 96 := by kernel_rfl
theorem opens34W (n : Nat) : OpensW Tryd.prog (Kd.slice 37 k37) (fun B l => (l.length ≤ maxLen ∧ ∀ x ∈ l, Ok37 B x) ∧ l.length * Tryd.prog.bytesOf 37 ≤ B) 34 (n + 4) := opensW_sliceB 37 Tryd.underlying34 (by kernel_rfl) (opens37W n)
theorem opens31W (n : Nat) : OpensW Tryd.prog (Kd.slice 45 k45) (fun B l => (l.length ≤ maxLen ∧ ∀ x ∈ l, Ok45 B x) ∧ l.length * Tryd.prog.bytesOf 45 ≤ B) 31 (n + 2) := opensW_sliceB 45 Tryd.underlying31 (by kernel_rfl) (opens45W n)
/-- What is read of a credit, and of papers. -/
structure Ok33 (c : S33) : Prop where
  strs : c.f0.size ≤ lim47r ∧ c.f1.size ≤ lim47r ∧ c.f2.size ≤ lim47r ∧ c.f3.size ≤ lim47r ∧ c.f4.size ≤ lim47r ∧ c.f5.size ≤ lim47r ∧ c.f6.size ≤ lim47r ∧ c.f7.f0.size ≤ lim47r
  ints : wf64 c.f7.f1 ∧ wf64 c.f8 ∧ wf64 c.f9 ∧ wf64 c.f10 ∧ wf64 c.f11 ∧ wf64 c.f12 ∧ wf64 c.f13
  len : c.f16.length ≤ maxLen
  needs : ∀ n ∈ c.f16, Ok45 lim47r n
  bytes : c.f16.length * 96 ≤ lim47r
structure OkDs (docs : List S37) : Prop where
  len : docs.length ≤ maxLen
  bytes : docs.length * 64 ≤ lim47r
  docs : ∀ d ∈ docs, Ok37 lim47r d
set_option maxRecDepth 100000 in
theorem opens33W (n : Nat) : ∃ ok : Nat → S33 → Prop, OpensW Tryd.prog k33 ok 33 (n + 4) ∧ ∀ c, ok lim47r c → Ok33 c :=
  ⟨_, opensW_struct Tryd.underlying33 (by kernel_rfl)
    (opensFsW_iso _ (fun x : ByteArray × ByteArray × ByteArray × ByteArray × ByteArray × ByteArray × ByteArray × S30 × Int × Int × Int × Int × Int × Int × Bool × Bool × List S45 =>
        S33.mk x.1 x.2.1 x.2.2.1 x.2.2.2.1 x.2.2.2.2.1 x.2.2.2.2.2.1 x.2.2.2.2.2.2.1 x.2.2.2.2.2.2.2.1 x.2.2.2.2.2.2.2.2.1 x.2.2.2.2.2.2.2.2.2.1 x.2.2.2.2.2.2.2.2.2.2.1 x.2.2.2.2.2.2.2.2.2.2.2.1 x.2.2.2.2.2.2.2.2.2.2.2.2.1 x.2.2.2.2.2.2.2.2.2.2.2.2.2.1 x.2.2.2.2.2.2.2.2.2.2.2.2.2.2.1 x.2.2.2.2.2.2.2.2.2.2.2.2.2.2.2.1 x.2.2.2.2.2.2.2.2.2.2.2.2.2.2.2.2) (fun _ => rfl)
      (opensFsW_cons rfl (opensW_string Tryd.underlying9 c9) (opensFsW_cons rfl (opensW_string Tryd.underlying9 c9) (opensFsW_cons rfl (opensW_string Tryd.underlying9 c9) (opensFsW_cons rfl (opensW_string Tryd.underlying9 c9) (opensFsW_cons rfl (opensW_string Tryd.underlying9 c9)
        (opensFsW_cons rfl (opensW_string Tryd.underlying9 c9) (opensFsW_cons rfl (opensW_string Tryd.underlying9 c9) (opensFsW_cons rfl (opens30W _)
          (opensFsW_cons rfl (opensW_of (opens_int Tryd.underlying3 c3)) (opensFsW_cons rfl (opensW_of (opens_int Tryd.underlying3 c3)) (opensFsW_cons rfl (opensW_of (opens_int Tryd.underlying3 c3)) (opensFsW_cons rfl (opensW_of (opens_int Tryd.underlying3 c3)) (opensFsW_cons rfl (opensW_of (opens_int Tryd.underlying3 c3)) (opensFsW_cons rfl (opensW_of (opens_int Tryd.underlying3 c3))
            (opensFsW_cons rfl (opensW_of (opens_bool Tryd.underlying4 c4)) (opensFsW_cons rfl (opensW_of (opens_bool Tryd.underlying4 c4)) (opensFsW_last rfl (opens31W _))))))))))))))))))),
    fun c h => by
      obtain ⟨h0, h1, h2, h3, h4, h5, h6, ⟨h7, h8⟩, h9, h10, h11, h12, h13, h14, _, _, ⟨h15, h16⟩, h17⟩ := h
      exact ⟨⟨h0, h1, h2, h3, h4, h5, h6, h7⟩, ⟨h8, h9, h10, h11, h12, h13, h14⟩, h15, h16, by rw [← b45]; exact h17⟩⟩

/-- The cells of a need, of a paper, of a rule. -/
def nc (x : S45) (A : Option Addr) (n : Nat) : Array Value := #[.int .i64 x.f0, .int .i64 x.f1, .int .i64 x.f2.f0, .int .i64 x.f2.f1, .string x.f2.f2, .string x.f2.f3, .int .i64 x.f2.f4, .slice A x.f2.f5.length n]
def dc (d : S37) (A : Option Addr) (n : Nat) : Array Value := #[.int .i64 d.f0, .string d.f1, .string d.f2, .slice A d.f3.length n]
def pc (p : S43) (A : Option Addr) (n : Nat) : Array Value := #[.int .i64 p.f0, .int .i64 p.f1, .string p.f2, .string p.f3, .int .i64 p.f4, .slice A p.f5.length n]

section
variable {H : Type} {enc : TypeId × Value → H} {W : World} {b base : Nat} {sp : Nat → Bool} {held : Bool} {fuel : Nat} {v : Value} {x : DataW H × List MemPlace}
set_option maxRecDepth 100000 in
theorem open33 (hf : DataW.trod enc Tryd.prog W b sp held fuel 33 v.cells.toList = some x) (hw : ∀ n ∈ x.1.weights Tryd.prog 33, n ≤ lim47r) (hv : Value.okWide Tryd.prog W .any base 33 v) :
    ∃ c A n, v = .agg (cc c A n) ∧ c.f16.length ≤ n ∧ Kd.C k45 W A c.f16.length c.f16 ∧ Ok33 c := by
  obtain ⟨cs, rfl, _⟩ := okWide_struct Tryd.underlying33 hv
  obtain ⟨ok, h1, h2⟩ := opens33W fuel
  obtain ⟨c, hk, ho⟩ := h1.2 H enc W b sp held fuel _ x (by omega) hf
  obtain ⟨A, n, he, hl, hC⟩ := k33_open hk
  refine ⟨c, A, n, ?_, hl, hC, h2 c (ho _ hw)⟩
  have he' : cs.toList = _ := he
  rw [show cs = cs.toList.toArray by simp, he']
  rfl
set_option maxRecDepth 100000 in
theorem open34 (hf : DataW.trod enc Tryd.prog W b sp held fuel 34 v.cells.toList = some x) (hw : ∀ n ∈ x.1.weights Tryd.prog 34, n ≤ lim47r) (hv : Value.okWide Tryd.prog W .any base 34 v) :
    ∃ (docs : List S37) (A : Option Addr) (n : Nat), v = .slice A docs.length n ∧ docs.length ≤ n ∧ Kd.C k37 W A docs.length docs ∧ OkDs docs := by
  obtain ⟨a0, len0, cap0, rfl⟩ := okWide_slice Tryd.underlying34 hv
  obtain ⟨l, ⟨A, n, hcs, hle, hC⟩, ho⟩ := (opens34W fuel).2 H enc W b sp held fuel _ x (by omega) hf
  simp [Value.cells] at hcs
  obtain ⟨rfl, rfl, rfl⟩ := hcs
  exact ⟨l, a0, cap0, rfl, hle, hC, ⟨(ho _ hw).1.1, by rw [← b37]; exact (ho _ hw).2, (ho _ hw).1.2⟩⟩
set_option maxRecDepth 100000 in
theorem open3 (hf : DataW.trod enc Tryd.prog W b sp held fuel 3 v.cells.toList = some x) (hv : Value.okWide Tryd.prog W .any base 3 v) : ∃ n : Int, v = .int .i64 n ∧ wf64 n := by
  obtain ⟨n, rfl⟩ := okWide_int Tryd.underlying3 hv
  obtain ⟨a, hk, ho⟩ := (opens_int (n := fuel) Tryd.underlying3 c3).2 H enc W b sp held fuel _ x (Nat.le_refl _) hf
  obtain rfl : a = n := by
    have : [Value.int .i64 n] = [Value.int .i64 a] := hk
    injection this with this
    injection this with _ this
    exact this.symm
  exact ⟨a, rfl, ho⟩
set_option maxRecDepth 100000 in
theorem open45 (hf : DataW.trod enc Tryd.prog W b sp held fuel 45 v.cells.toList = some x) (hw : ∀ n ∈ x.1.weights Tryd.prog 45, n ≤ lim47r) (hv : Value.okWide Tryd.prog W .any base 45 v) :
    ∃ (nd : S45) (A : Option Addr) (n : Nat), v = .agg (nc nd A n) ∧ nd.f2.f5.length ≤ n ∧ Kd.C k43 W A nd.f2.f5.length nd.f2.f5 ∧ Ok45 lim47r nd := by
  obtain ⟨cs, rfl, _⟩ := okWide_struct Tryd.underlying45 hv
  obtain ⟨c, hk, ho⟩ := (opens45W fuel).2 H enc W b sp held fuel _ x (by omega) hf
  obtain ⟨A, n, he, hl, hC⟩ := k45_open hk
  refine ⟨c, A, n, ?_, hl, hC, ho _ hw⟩
  have he' : cs.toList = _ := he
  rw [show cs = cs.toList.toArray by simp, he']
  rfl
set_option maxRecDepth 100000 in
theorem open37 (hf : DataW.trod enc Tryd.prog W b sp held fuel 37 v.cells.toList = some x) (hw : ∀ n ∈ x.1.weights Tryd.prog 37, n ≤ lim47r) (hv : Value.okWide Tryd.prog W .any base 37 v) :
    ∃ (d : S37) (A : Option Addr) (n : Nat), v = .agg (dc d A n) ∧ d.f3.length ≤ n ∧ Kd.C k66 W A d.f3.length d.f3 ∧ Ok37 lim47r d := by
  obtain ⟨cs, rfl, _⟩ := okWide_struct Tryd.underlying37 hv
  obtain ⟨c, hk, ho⟩ := (opens37W fuel).2 H enc W b sp held fuel _ x (by omega) hf
  obtain ⟨A, n, he, hl, hC⟩ := k37_open hk
  refine ⟨c, A, n, ?_, hl, hC, ho _ hw⟩
  have he' : cs.toList = _ := he
  rw [show cs = cs.toList.toArray by simp, he']
  rfl
set_option maxRecDepth 100000 in
theorem open43 (hf : DataW.trod enc Tryd.prog W b sp held fuel 43 v.cells.toList = some x) (hw : ∀ n ∈ x.1.weights Tryd.prog 43, n ≤ lim47r) (hv : Value.okWide Tryd.prog W .any base 43 v) :
    ∃ (p : S43) (A : Option Addr) (n : Nat), v = .agg (pc p A n) ∧ p.f5.length ≤ n ∧ Kd.C k43 W A p.f5.length p.f5 ∧ Ok43 lim47r p := by
  obtain ⟨cs, rfl, _⟩ := okWide_struct Tryd.underlying43 hv
  obtain ⟨c, hk, ho⟩ := (opens43W fuel).2 H enc W b sp held fuel _ x (Nat.le_refl _) hf
  obtain ⟨A, n, he, hl, hC⟩ := k43_open hk
  refine ⟨c, A, n, ?_, hl, hC, ho _ hw⟩
  have he' : cs.toList = _ := he
  rw [show cs = cs.toList.toArray by simp, he']
  rfl
set_option maxRecDepth 100000 in
theorem open9 (hf : DataW.trod enc Tryd.prog W b sp held fuel 9 v.cells.toList = some x) (hw : ∀ n ∈ x.1.weights Tryd.prog 9, n ≤ lim47r) (hv : Value.okWide Tryd.prog W .any base 9 v) : ∃ s : ByteArray, v = .string s ∧ s.size ≤ lim47r := by
  obtain ⟨s, rfl⟩ := okWide_string Tryd.underlying9 hv
  obtain ⟨a, hk, ho⟩ := (opensW_string (n := fuel) Tryd.underlying9 c9).2 H enc W b sp held fuel _ x (Nat.le_refl _) hf
  obtain rfl : a = s := by
    have : [Value.string s] = [Value.string a] := hk
    injection this with this
    injection this with this
    exact this.symm
  exact ⟨a, rfl, ho _ hw⟩
end
end Go.Proofs.YtcibglpbfaffgaaDoor.X
