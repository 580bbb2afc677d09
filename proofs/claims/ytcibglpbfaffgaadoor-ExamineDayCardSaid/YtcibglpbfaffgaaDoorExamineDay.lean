/- Presented earlier, papers have no fault that they would not have later, and what is told besides later is too late; for credits and papers that Few lets in, days within 2^30, each input of the given kinds. -/
import Derived.Test.YtcibglpbfaffgaaDoorGE
import Derived.Test.YtcibglpbfaffgaaDoorX9
import Derived.Test.YtcibglpbfaffgaaDoorGW
import Derived.Test.YtcibglpbfaffgaaDoorG7
import Derived.Test.YtcibglpbfaffgaaDoorX1
import Derived.Deep.RegionHeld3
import Derived.Outline
import Derived.Test.YtcibglpbfaffgaaDoorGL
import Derived.Test.YtcibglpbfaffgaaDoorCards
namespace Go.Proofs.YtcibglpbfaffgaaDoor.X
open Go.RowKit Go.Proofs.YtcibglpbfaffgaaDoorW.PrintWords Go.Proofs.YtcibglpbfaffgaaDoorW.PrintLast Go.Proofs.YtcibglpbfaffgaaDoorW.PrintMore
set_option linter.unusedVariables false

/-- What it comes to from some round on. -/
def Ev {α : Type} (g : Nat → Option α) (v : α) : Prop := ∃ k0, ∀ k, k0 ≤ k → g k = some v
theorem Ev.of {α : Type} {g : Nat → Option α} {v : α} (h : ∀ k, g k = some v) : Ev g v := ⟨0, fun k _ => h k⟩
theorem Ev.bind {α β : Type} {g : Nat → Option α} {h : Nat → α → Option β} {a : α} {b : β} (h1 : Ev g a) (h2 : Ev (fun k => h k a) b) : Ev (fun k => (g k).bind (h k)) b := by
  obtain ⟨k1, h1⟩ := h1
  obtain ⟨k2, h2⟩ := h2
  exact ⟨max k1 k2, fun k hk => by show (g k).bind (h k) = _; rw [h1 k (by omega)]; exact h2 k (by omega)⟩
theorem Ev.succ {α : Type} {g f : Nat → Option α} {v : α} (hf : ∀ k, f (k + 1) = g k) (h : Ev g v) : Ev f v := by
  obtain ⟨k0, h⟩ := h
  refine ⟨k0 + 1, fun k hk => ?_⟩
  obtain ⟨j, rfl⟩ : ∃ j, k = j + 1 := ⟨k - 1, by omega⟩
  rw [hf]
  exact h j (by omega)
theorem Ev.congr {α : Type} {g f : Nat → Option α} {v : α} (hf : ∀ k, f k = g k) (h : Ev g v) : Ev f v := by
  obtain ⟨k0, h⟩ := h
  exact ⟨k0, fun k hk => (hf k).trans (h k hk)⟩
theorem Ev.get {α : Type} {g : Nat → Option α} {v : α} (h : Ev g v) : ∃ k, g k = some v := by
  obtain ⟨k0, h⟩ := h
  exact ⟨k0, h k0 (Nat.le_refl _)⟩
theorem w64i {n : Int} (h0 : -9223372036854775808 ≤ n) (h1 : n ≤ 9223372036854775807) : wrap64 n = n := by unfold wrap64; omega
theorem w64s {j : Nat} (h : j < 9223372036854775807) : wrap64 ((j : Int) + 1) = ((j + 1 : Nat) : Int) := by rw [w64i (by omega) (by omega)]; omega

/-! ### A field of the first paper of a kind -/
def fieldP : List S37 → Int → ByteArray → ByteArray × Bool
  | [], _, _ => (⟨#[]⟩, false)
  | d :: ds, kd, n => if d.f0 = kd then getOf d.f3 n else fieldP ds kd n
theorem field_l0 (kd : Int) (n : ByteArray) (docs : List S37) (hl : docs.length ≤ 1000000) : ∀ (m j : Nat), j + m = docs.length → Ev (fun k => examine_Field.l0 k kd n docs (docs.length : Int) (j : Int)) (fieldP (docs.drop j) kd n)
  | 0, j, h => by
    rw [List.drop_eq_nil_of_le (by omega)]
    exact Ev.succ (g := fun _ => some (⟨#[]⟩, false)) (fun k => by simp only [examine_Field.l0]; rw [if_neg (by omega)]) (Ev.of fun _ => rfl)
  | m + 1, j, h => by
    have hj : j < docs.length := by omega
    rw [List.drop_eq_getElem_cons hj, fieldP]
    by_cases hk : docs[j].f0 = kd
    · rw [if_pos hk]
      refine Ev.succ (g := fun _ => some (getOf docs[j].f3 n)) (fun k => ?_) (Ev.of fun _ => rfl)
      simp only [examine_Field.l0]
      rw [if_pos (by omega), if_pos (by omega), if_pos (by omega), rd37 hj, if_pos hk]
      rfl
    · rw [if_neg hk]
      refine Ev.succ (fun k => ?_) (field_l0 kd n docs hl m (j + 1) (by omega))
      simp only [examine_Field.l0]
      rw [if_pos (by omega), if_pos (by omega), if_pos (by omega), rd37 hj, if_neg hk, w64s (by omega)]
theorem field_ev (kd : Int) (n : ByteArray) (docs : List S37) (hl : docs.length ≤ 1000000) : Ev (fun k => examine_Field.f k docs kd n) (fieldP docs kd n) :=
  field_l0 kd n docs hl docs.length 0 (Nat.zero_add _)

/-! ### Atoms -/
def so (b : Bool) : Int := if b = true then 0 else 2
theorem stands_so (b : Bool) : examine_stands.f b = some (so b) := by cases b <;> rfl
def numB (p : S43) (n : Int) : Bool := (decide (p.f0 = 5) && decide (n ≤ p.f4)) || (decide (p.f0 = 6) && decide (n ≥ p.f4))
def atomP (docs : List S37) (d : S37) (p : S43) : Int :=
  if (getOf d.f3 p.f2).2 = true then
    (if p.f0 = 3 then so ((getOf d.f3 p.f2).1.toList == p.f3.toList)
     else if p.f0 = 4 then so (Lib.contains (getOf d.f3 p.f2).1.data.toList p.f3.data.toList)
     else if p.f0 = 7 then (if (fieldP docs p.f1 p.f3).2 = true then so ((getOf d.f3 p.f2).1.toList == (fieldP docs p.f1 p.f3).1.toList) else 1)
     else so ((numOf (getOf d.f3 p.f2).1).2 && numB p (numOf (getOf d.f3 p.f2).1).1))
  else 1
/-- All values are short. -/
def shortV (l : List S66) : Prop := ∀ f ∈ l, f.f1.size ≤ 20000
theorem shortV_get {l : List S66} (h : shortV l) (n : ByteArray) : (getOf l n).1.size ≤ 20000 := by
  induction l with
  | nil => exact Nat.zero_le _
  | cons x xs ih =>
    unfold getOf
    split
    · exact h x (List.mem_cons_self ..)
    · exact ih fun f hf => h f (List.mem_cons_of_mem _ hf)
theorem atom_ev (docs : List S37) (d : S37) (p : S43) (hl : docs.length ≤ 1000000) (hs : shortV d.f3) :
    Ev (fun k => examine_atom.f k p.f0 p.f1 p.f2 p.f3 p.f4 p.f5 docs d.f0 d.f1 d.f2 d.f3) (atomP docs d p) := by
  have hsz := shortV_get hs p.f2
  unfold atomP
  unfold examine_atom.f field_Get.f
  simp only [Option.bind_some, stands_so]
  by_cases h1 : (getOf d.f3 p.f2).2 = true
  · simp only [if_pos h1]
    by_cases h3 : p.f0 = 3
    · simp only [if_pos h3]
      exact Ev.of fun _ => rfl
    · simp only [if_neg h3]
      by_cases h4 : p.f0 = 4
      · simp only [if_pos h4]
        refine Ev.of fun _ => ?_
        unfold strings_Contains.f
        rw [if_pos (Nat.lt_of_le_of_lt hsz (by decide))]
        rfl
      · simp only [if_neg h4]
        by_cases h7 : p.f0 = 7
        · simp only [if_pos h7]
          refine Ev.bind (field_ev _ _ _ hl) ?_
          by_cases h8 : (fieldP docs p.f1 p.f3).2 = true
          · simp only [if_pos h8]
            exact Ev.of fun _ => rfl
          · simp only [if_neg h8]
            exact Ev.of fun _ => rfl
        · simp only [if_neg h7]
          refine Ev.of fun _ => ?_
          unfold field_Number.f
          rw [if_pos (Nat.le_trans hsz (by decide))]
          simp only [Option.bind_some]
          unfold numB
          by_cases h8 : (numOf (getOf d.f3 p.f2).1).2 = true
          · rw [if_pos h8, h8]
            by_cases h5 : p.f0 = 5
            · rw [if_pos h5]
              have h6 : ¬ p.f0 = 6 := by omega
              by_cases h9 : (numOf (getOf d.f3 p.f2).1).1 ≤ p.f4
              · simp [if_pos h9, h5, h9]
              · simp [if_neg h9, h5, h9]
            · rw [if_neg h5]
              by_cases h6 : p.f0 = 6
              · simp [h6]
              · simp [h5, h6]
          · rw [if_neg h8]
            simp [Bool.eq_false_iff.2 h8]
  · simp only [if_neg h1]
    exact Ev.of fun _ => rfl

/-! ### Rules -/
mutual
/-- How a rule stands. -/
def ruleP (docs : List S37) (d : S37) : S43 → Int
  | ⟨f0, f1, f2, f3, f4, l⟩ =>
    if f0 = 0 then Lib.maxOf (rulesP docs d l ++ [0]) else if f0 = 1 then Lib.minOf (rulesP docs d l ++ [2]) else if f0 = 2 then 2 - Lib.maxOf (rulesP docs d l ++ [0])
    else if 3 ≤ f0 ∧ f0 ≤ 7 then atomP docs d ⟨f0, f1, f2, f3, f4, l⟩ else 2
def rulesP (docs : List S37) (d : S37) : List S43 → List Int
  | [] => []
  | x :: xs => ruleP docs d x :: rulesP docs d xs
end
theorem rulesP_map (docs : List S37) (d : S37) : ∀ l, rulesP docs d l = l.map (ruleP docs d)
  | [] => by rw [rulesP]; rfl
  | x :: xs => by rw [rulesP, rulesP_map docs d xs]; rfl
theorem ruleP_eq (docs : List S37) (d : S37) (p : S43) : ruleP docs d p = if p.f0 = 0 then Lib.maxOf (p.f5.map (ruleP docs d) ++ [0]) else if p.f0 = 1 then Lib.minOf (p.f5.map (ruleP docs d) ++ [2]) else if p.f0 = 2 then 2 - Lib.maxOf (p.f5.map (ruleP docs d) ++ [0])
    else if 3 ≤ p.f0 ∧ p.f0 ≤ 7 then atomP docs d p else 2 := by
  obtain ⟨f0, f1, f2, f3, f4, l⟩ := p
  rw [ruleP, rulesP_map]
mutual
/-- How much there is of a rule. -/
def szP : S43 → Nat
  | ⟨f0, f1, f2, f3, f4, l⟩ => 1 + f2.size / 200 + f3.size / 200 + szsP l
def szsP : List S43 → Nat
  | [] => 0
  | x :: xs => szP x + szsP xs
end
theorem szP_eq (p : S43) : szP p = 1 + p.f2.size / 200 + p.f3.size / 200 + szsP p.f5 := by
  obtain ⟨f0, f1, f2, f3, f4, l⟩ := p
  rw [szP]
theorem szP_pos (p : S43) : 1 ≤ szP p := by rw [szP_eq]; omega
theorem szsP_cons (x : S43) (xs : List S43) : szsP (x :: xs) = szP x + szsP xs := by rw [szsP]
theorem szsP_nil : szsP [] = 0 := by rw [szsP]
theorem szsP_len : ∀ l, l.length ≤ szsP l
  | [] => Nat.zero_le _
  | x :: xs => by
    rw [szsP_cons]
    have h1 := szP_pos x
    have h2 := szsP_len xs
    simp only [List.length_cons]
    omega
theorem szsP_mem {x : S43} : ∀ {l}, x ∈ l → szP x ≤ szsP l
  | [], h => absurd h (by simp)
  | y :: ys, h => by
    rw [szsP_cons]
    rcases List.mem_cons.1 h with rfl | h
    · omega
    · have := szsP_mem h
      omega
theorem szP_kid {p x : S43} (h : x ∈ p.f5) : szP x < szP p := by
  have h1 := szsP_mem h
  have h2 := szP_eq p
  omega
theorem szP_len (p : S43) : p.f5.length < szP p := by
  have h1 := szsP_len p.f5
  have h2 := szP_eq p
  omega

abbrev ruleK (docs : List S37) (d : S37) (p : S43) (k : Nat) : Option Int := examine_rule.f k p.f0 p.f1 p.f2 p.f3 p.f4 p.f5 docs d.f0 d.f1 d.f2 d.f3
abbrev ruleJ (docs : List S37) (d : S37) (p : S43) (acc : List Int) (k : Nat) : Option Int := examine_rule.j2 k docs acc p.f0 p.f1 p.f2 p.f3 p.f4 p.f5 d.f0 d.f1 d.f2 d.f3
theorem rule_l0 (docs : List S37) (d : S37) (p : S43) (l : List S43) (hl : l.length ≤ 1000000) (ih : ∀ x ∈ l, Ev (ruleK docs d x) (ruleP docs d x)) {v : Int} :
    ∀ (m j : Nat) (acc : List Int), j + m = l.length → acc.length ≤ j → Ev (ruleJ docs d p (acc ++ (l.drop j).map (ruleP docs d))) v →
      Ev (fun k => examine_rule.l0 k docs acc l (l.length : Int) (j : Int) p.f0 p.f1 p.f2 p.f3 p.f4 p.f5 d.f0 d.f1 d.f2 d.f3) v
  | 0, j, acc, h, ha, hv => by
    rw [List.drop_eq_nil_of_le (by omega), List.map_nil, List.append_nil] at hv
    refine Ev.succ (fun k => ?_) hv
    simp only [examine_rule.l0]
    rw [if_neg (by omega)]
  | m + 1, j, acc, h, ha, hv => by
    have hj : j < l.length := by omega
    rw [List.drop_eq_getElem_cons hj, List.map_cons] at hv
    have h1 := rule_l0 docs d p l hl ih (v := v) m (j + 1) (acc ++ [ruleP docs d l[j]]) (by omega) (by simp; omega) (by rw [List.append_assoc]; exact hv)
    refine Ev.succ (fun k => ?_) (Ev.bind (h := fun k t => if acc.length < 17592186044416 then examine_rule.l0 k docs (acc ++ [t]) l (l.length : Int) ((j + 1 : Nat) : Int) p.f0 p.f1 p.f2 p.f3 p.f4 p.f5 d.f0 d.f1 d.f2 d.f3 else none) (ih l[j] (List.getElem_mem hj)) ?_)
    · simp only [examine_rule.l0]
      rw [if_pos (by omega), if_pos (by omega), if_pos (by omega), rd43 hj, w64s (by omega)]
    · simp only [if_pos (show acc.length < 17592186044416 by omega)]
      exact h1
theorem maxO (l : List Int) (x : Int) : slices_Max_int_int.f (l ++ [x]) = some (Lib.maxOf (l ++ [x])) := by
  unfold slices_Max_int_int.f
  rw [if_neg (by simp)]
theorem minO (l : List Int) (x : Int) : slices_Min_int_int.f (l ++ [x]) = some (Lib.minOf (l ++ [x])) := by
  unfold slices_Min_int_int.f
  rw [if_neg (by simp)]
theorem foldl_max_in {lo hi : Int} : ∀ {l : List Int} {a : Int}, (∀ y ∈ l, lo ≤ y ∧ y ≤ hi) → lo ≤ a ∧ a ≤ hi → lo ≤ l.foldl max a ∧ l.foldl max a ≤ hi
  | [], a, _, ha => ha
  | x :: xs, a, h, ha => foldl_max_in (l := xs) (fun y hy => h y (List.mem_cons_of_mem _ hy)) (by have := h x (List.mem_cons_self ..); show _ ≤ max a x ∧ max a x ≤ _; omega)
theorem foldl_min_in {lo hi : Int} : ∀ {l : List Int} {a : Int}, (∀ y ∈ l, lo ≤ y ∧ y ≤ hi) → lo ≤ a ∧ a ≤ hi → lo ≤ l.foldl min a ∧ l.foldl min a ≤ hi
  | [], a, _, ha => ha
  | x :: xs, a, h, ha => foldl_min_in (l := xs) (fun y hy => h y (List.mem_cons_of_mem _ hy)) (by have := h x (List.mem_cons_self ..); show _ ≤ min a x ∧ min a x ≤ _; omega)
theorem headD_in {lo hi : Int} {l : List Int} {x : Int} (h : ∀ y ∈ l, lo ≤ y ∧ y ≤ hi) (hx : lo ≤ x ∧ x ≤ hi) : lo ≤ (l ++ [x]).headD 0 ∧ (l ++ [x]).headD 0 ≤ hi := by
  cases l with
  | nil => exact hx
  | cons y ys => exact h y (List.mem_cons_self ..)
theorem all_in {lo hi : Int} {l : List Int} {x : Int} (h : ∀ y ∈ l, lo ≤ y ∧ y ≤ hi) (hx : lo ≤ x ∧ x ≤ hi) : ∀ y ∈ l ++ [x], lo ≤ y ∧ y ≤ hi := by
  intro y hy
  rcases List.mem_append.1 hy with hy | hy
  · exact h y hy
  · rw [List.mem_singleton.1 hy]; exact hx
theorem maxOf_in {lo hi : Int} {l : List Int} {x : Int} (h : ∀ y ∈ l, lo ≤ y ∧ y ≤ hi) (hx : lo ≤ x ∧ x ≤ hi) : lo ≤ Lib.maxOf (l ++ [x]) ∧ Lib.maxOf (l ++ [x]) ≤ hi :=
  foldl_max_in (all_in h hx) (headD_in h hx)
theorem minOf_in {lo hi : Int} {l : List Int} {x : Int} (h : ∀ y ∈ l, lo ≤ y ∧ y ≤ hi) (hx : lo ≤ x ∧ x ≤ hi) : lo ≤ Lib.minOf (l ++ [x]) ∧ Lib.minOf (l ++ [x]) ≤ hi :=
  foldl_min_in (all_in h hx) (headD_in h hx)
theorem so_in (b : Bool) : 0 ≤ so b ∧ so b ≤ 2 := by cases b <;> decide
theorem atomP_in (docs : List S37) (d : S37) (p : S43) : 0 ≤ atomP docs d p ∧ atomP docs d p ≤ 2 := by
  unfold atomP
  repeat' split
  all_goals first | exact so_in _ | decide
theorem ruleP_in (docs : List S37) (d : S37) : ∀ (n : Nat) (p : S43), szP p ≤ n → 0 ≤ ruleP docs d p ∧ ruleP docs d p ≤ 2
  | 0, p, h => absurd (szP_pos p) (by omega)
  | n + 1, p, h => by
    have hk : ∀ y ∈ p.f5.map (ruleP docs d), 0 ≤ y ∧ y ≤ 2 := by
      intro y hy
      obtain ⟨x, hx, rfl⟩ := List.mem_map.1 hy
      exact ruleP_in docs d n x (by have := szP_kid hx; omega)
    rw [ruleP_eq]
    split
    · exact maxOf_in hk (by decide)
    · split
      · exact minOf_in hk (by decide)
      · split
        · have := maxOf_in hk (x := 0) (by decide)
          omega
        · split
          · exact atomP_in _ _ _
          · decide
theorem ruleP_02 (docs : List S37) (d : S37) (p : S43) : 0 ≤ ruleP docs d p ∧ ruleP docs d p ≤ 2 := ruleP_in docs d _ p (Nat.le_refl _)

theorem rule_j2 (docs : List S37) (d : S37) (p : S43) (hl : docs.length ≤ 1000000) (hp : p.f5.length ≤ 1000000) (hs : shortV d.f3) (acc : List Int) (ha : acc = if p.f0 = 0 ∨ p.f0 = 1 ∨ p.f0 = 2 then p.f5.map (ruleP docs d) else []) :
    Ev (ruleJ docs d p acc) (ruleP docs d p) := by
  have hin := ruleP_02 docs d p
  rw [ruleP_eq] at hin ⊢
  by_cases h0 : p.f0 = 0
  · rw [if_pos (Or.inl h0)] at ha
    rw [if_pos h0]
    refine Ev.succ (g := fun _ => some (Lib.maxOf (p.f5.map (ruleP docs d) ++ [0]))) (fun k => ?_) (Ev.of fun _ => rfl)
    show examine_rule.j2 (k + 1) docs acc p.f0 p.f1 p.f2 p.f3 p.f4 p.f5 d.f0 d.f1 d.f2 d.f3 = _
    simp only [examine_rule.j2]
    rw [if_pos h0, if_pos (by rw [ha, List.length_map]; omega), maxO, ha]
    rfl
  · rw [if_neg h0] at hin ⊢
    by_cases h1 : p.f0 = 1
    · rw [if_pos (Or.inr (Or.inl h1))] at ha
      rw [if_pos h1]
      refine Ev.succ (g := fun _ => some (Lib.minOf (p.f5.map (ruleP docs d) ++ [2]))) (fun k => ?_) (Ev.of fun _ => rfl)
      show examine_rule.j2 (k + 1) docs acc p.f0 p.f1 p.f2 p.f3 p.f4 p.f5 d.f0 d.f1 d.f2 d.f3 = _
      simp only [examine_rule.j2]
      rw [if_neg h0, if_pos h1, if_pos (by rw [ha, List.length_map]; omega), minO, ha]
      rfl
    · rw [if_neg h1] at hin ⊢
      by_cases h2 : p.f0 = 2
      · rw [if_pos (Or.inr (Or.inr h2))] at ha
        rw [if_pos h2] at hin ⊢
        refine Ev.succ (g := fun _ => some (2 - Lib.maxOf (p.f5.map (ruleP docs d) ++ [0]))) (fun k => ?_) (Ev.of fun _ => rfl)
        show examine_rule.j2 (k + 1) docs acc p.f0 p.f1 p.f2 p.f3 p.f4 p.f5 d.f0 d.f1 d.f2 d.f3 = _
        simp only [examine_rule.j2]
        rw [if_neg h0, if_neg h1, if_pos h2, if_pos (by rw [ha, List.length_map]; omega), maxO, ha, Option.bind_some, w64i (by omega) (by omega)]
      · rw [if_neg h2]
        by_cases h3 : 3 ≤ p.f0 ∧ p.f0 ≤ 7
        · rw [if_pos h3]
          refine Ev.succ (fun k => ?_) (atom_ev docs d p hl hs)
          show examine_rule.j2 (k + 1) docs acc p.f0 p.f1 p.f2 p.f3 p.f4 p.f5 d.f0 d.f1 d.f2 d.f3 = _
          simp only [examine_rule.j2]
          rw [if_neg h0, if_neg h1, if_neg h2]
          obtain ⟨h3a, h3b⟩ := h3
          rcases (by omega : p.f0 = 3 ∨ p.f0 = 4 ∨ p.f0 = 5 ∨ p.f0 = 6 ∨ p.f0 = 7) with h | h | h | h | h <;> (simp only [h]; simp)
        · rw [if_neg h3]
          refine Ev.succ (g := fun _ => some 2) (fun k => ?_) (Ev.of fun _ => rfl)
          show examine_rule.j2 (k + 1) docs acc p.f0 p.f1 p.f2 p.f3 p.f4 p.f5 d.f0 d.f1 d.f2 d.f3 = _
          simp only [examine_rule.j2]
          rw [if_neg h0, if_neg h1, if_neg h2, if_neg (by omega), if_neg (by omega), if_neg (by omega), if_neg (by omega), if_neg (by omega)]
theorem rule_ev (docs : List S37) (d : S37) (hl : docs.length ≤ 1000000) (hs : shortV d.f3) : ∀ (n : Nat) (p : S43), szP p ≤ n → n ≤ 1000000 → Ev (ruleK docs d p) (ruleP docs d p)
  | 0, p, h, _ => absurd (szP_pos p) (by omega)
  | n + 1, p, h, hn => by
    have hlen := szP_len p
    by_cases hc : p.f0 = 0 ∨ p.f0 = 1 ∨ p.f0 = 2
    · have hj := rule_j2 docs d p hl (by omega) hs (p.f5.map (ruleP docs d)) (by rw [if_pos hc])
      have h0 := rule_l0 docs d p p.f5 (by omega) (fun x hx => rule_ev docs d hl hs n x (by have := szP_kid hx; omega) (by omega)) p.f5.length 0 [] (Nat.zero_add _) (Nat.le_refl _) (by rw [List.drop_zero, List.nil_append]; exact hj)
      refine Ev.succ (g := fun k => examine_rule.j0 k docs ([] : List Int) true p.f0 p.f1 p.f2 p.f3 p.f4 p.f5 d.f0 d.f1 d.f2 d.f3) (fun k => ?_) (Ev.succ (fun k => ?_) h0)
      · show examine_rule.f (k + 1) p.f0 p.f1 p.f2 p.f3 p.f4 p.f5 docs d.f0 d.f1 d.f2 d.f3 = _
        simp only [examine_rule.f]
        rcases hc with h | h | h <;> simp [h]
      · simp only [examine_rule.j0]
        rw [if_pos trivial]
        rfl
    · have hj := rule_j2 docs d p hl (by omega) hs [] (by rw [if_neg hc])
      refine Ev.succ (g := fun k => examine_rule.j0 k docs ([] : List Int) false p.f0 p.f1 p.f2 p.f3 p.f4 p.f5 d.f0 d.f1 d.f2 d.f3) (fun k => ?_) (Ev.succ (fun k => ?_) hj)
      · show examine_rule.f (k + 1) p.f0 p.f1 p.f2 p.f3 p.f4 p.f5 docs d.f0 d.f1 d.f2 d.f3 = _
        simp only [examine_rule.f]
        rw [if_neg (by omega), if_neg (by omega), show (p.f0 == 2) = false from beq_eq_false_iff_ne.2 (by omega)]
      · simp only [examine_rule.j0]
        rw [if_neg (by decide)]

/-! ### Parts -/
mutual
def partsP : S43 → List S43
  | ⟨f0, f1, f2, f3, f4, l⟩ => if f0 = 0 then partssP l else [⟨f0, f1, f2, f3, f4, l⟩]
def partssP : List S43 → List S43
  | [] => []
  | x :: xs => partsP x ++ partssP xs
end
theorem partssP_flat : ∀ l, partssP l = l.flatMap partsP
  | [] => by rw [partssP]; rfl
  | x :: xs => by rw [partssP, partssP_flat xs]; rfl
theorem partsP_eq (p : S43) : partsP p = if p.f0 = 0 then p.f5.flatMap partsP else [p] := by
  obtain ⟨f0, f1, f2, f3, f4, l⟩ := p
  rw [partsP, partssP_flat]
theorem flat_len {f : S43 → List S43} : ∀ {l : List S43}, (∀ x ∈ l, (f x).length ≤ szP x) → (l.flatMap f).length ≤ szsP l
  | [], _ => Nat.zero_le _
  | x :: xs, h => by
    rw [List.flatMap_cons, List.length_append, szsP_cons]
    have h1 := h x (List.mem_cons_self ..)
    have h2 := flat_len (l := xs) fun y hy => h y (List.mem_cons_of_mem _ hy)
    omega
theorem partsP_len' : ∀ (n : Nat) (p : S43), szP p ≤ n → (partsP p).length ≤ szP p
  | 0, p, h => absurd (szP_pos p) (by omega)
  | n + 1, p, h => by
    rw [partsP_eq]
    split
    · have h1 := flat_len (f := partsP) (l := p.f5) fun x hx => partsP_len' n x (by have := szP_kid hx; omega)
      have h2 := szP_eq p
      omega
    · exact szP_pos p
theorem partsP_len (p : S43) : (partsP p).length ≤ szP p := partsP_len' _ p (Nat.le_refl _)
theorem partsP_mem' : ∀ (n : Nat) (p : S43), szP p ≤ n → ∀ q ∈ partsP p, szP q ≤ szP p ∧ q.f0 ≠ 0
  | 0, p, h => absurd (szP_pos p) (by omega)
  | n + 1, p, h => by
    intro q hq
    rw [partsP_eq] at hq
    split at hq
    · obtain ⟨x, hx, hqx⟩ := List.mem_flatMap.1 hq
      have h1 := szP_kid hx
      have h2 := partsP_mem' n x (by omega) q hqx
      exact ⟨by omega, h2.2⟩
    · rename_i h0
      rw [List.mem_singleton.1 hq]
      exact ⟨Nat.le_refl _, h0⟩
theorem partsP_mem {p q : S43} (h : q ∈ partsP p) : szP q ≤ szP p ∧ q.f0 ≠ 0 := partsP_mem' _ p (Nat.le_refl _) q h
abbrev partsK (p : S43) (k : Nat) : Option (List S43) := examine_parts.f k p.f0 p.f1 p.f2 p.f3 p.f4 p.f5
theorem parts_l0 (l : List S43) (hl : szsP l ≤ 1000000) (ih : ∀ x ∈ l, Ev (partsK x) (partsP x)) :
    ∀ (m j : Nat) (acc : List S43), j + m = l.length → acc.length ≤ 1000000 - szsP (l.drop j) →
      Ev (fun k => examine_parts.l0 k acc l (l.length : Int) (j : Int)) (acc ++ (l.drop j).flatMap partsP)
  | 0, j, acc, h, ha => by
    rw [List.drop_eq_nil_of_le (by omega), List.flatMap_nil, List.append_nil]
    refine Ev.succ (g := fun _ => some acc) (fun k => ?_) (Ev.of fun _ => rfl)
    simp only [examine_parts.l0]
    rw [if_neg (by omega)]
  | m + 1, j, acc, h, ha => by
    have hj : j < l.length := by omega
    have hlen := szsP_len l
    have hd : szsP (l.drop j) ≤ 1000000 := by
      have : ∀ (i : Nat) (l : List S43), szsP (l.drop i) ≤ szsP l := by
        intro i
        induction i with
        | zero => intro l; exact Nat.le_refl _
        | succ i ih =>
          intro l
          cases l with
          | nil => exact Nat.le_refl _
          | cons x xs =>
            rw [List.drop_succ_cons, szsP_cons]
            have := ih xs
            omega
      have := this j l
      omega
    rw [List.drop_eq_getElem_cons hj, szsP_cons] at ha hd
    have hx := partsP_len l[j]
    rw [List.drop_eq_getElem_cons hj, List.flatMap_cons, ← List.append_assoc]
    have h1 := parts_l0 l hl ih m (j + 1) (acc ++ partsP l[j]) (by omega) (by rw [List.length_append]; omega)
    refine Ev.succ (fun k => ?_) (Ev.bind (h := fun k t => if acc.length + t.length < 1759218604441 then examine_parts.l0 k (acc ++ t) l (l.length : Int) ((j + 1 : Nat) : Int) else none) (ih l[j] (List.getElem_mem hj)) ?_)
    · simp only [examine_parts.l0]
      rw [if_pos (by omega), if_pos (by omega), if_pos (by omega), rd43 hj, w64s (by omega)]
    · simp only [if_pos (show acc.length + (partsP l[j]).length < 1759218604441 by omega)]
      exact h1
theorem parts_ev : ∀ (n : Nat) (p : S43), szP p ≤ n → n ≤ 1000000 → Ev (partsK p) (partsP p)
  | 0, p, h, _ => absurd (szP_pos p) (by omega)
  | n + 1, p, h, hn => by
    have hlen := szP_len p
    have hsz := szP_eq p
    rw [partsP_eq]
    by_cases h0 : p.f0 = 0
    · rw [if_pos h0]
      have h1 := parts_l0 p.f5 (by omega) (fun x hx => parts_ev n x (by have := szP_kid hx; omega) (by omega)) p.f5.length 0 [] (Nat.zero_add _) (by simp)
      rw [List.drop_zero, List.nil_append] at h1
      refine Ev.succ (fun k => ?_) h1
      show examine_parts.f (k + 1) p.f0 p.f1 p.f2 p.f3 p.f4 p.f5 = _
      simp only [examine_parts.f]
      rw [if_pos h0]
      rfl
    · rw [if_neg h0]
      refine Ev.succ (g := fun _ => some [p]) (fun k => ?_) (Ev.of fun _ => rfl)
      show examine_parts.f (k + 1) p.f0 p.f1 p.f2 p.f3 p.f4 p.f5 = _
      simp only [examine_parts.f]
      rw [if_neg h0]
      cases p
      rfl
end Go.Proofs.YtcibglpbfaffgaaDoor.X

namespace Go.Proofs.YtcibglpbfaffgaaDoor.X
open Go.RowKit Go.Proofs.YtcibglpbfaffgaaDoorW.PrintWords Go.Proofs.YtcibglpbfaffgaaDoorW.PrintLast Go.Proofs.YtcibglpbfaffgaaDoorW.PrintMore
set_option linter.unusedVariables false

/-! ### Telling one after the other -/
def told (L : List S25) (xs : List S25) : List S25 := xs.foldl tellF L
theorem told_nil (L : List S25) : told L [] = L := rfl
theorem told_cons (L : List S25) (x : S25) (xs : List S25) : told L (x :: xs) = told (tellF L x) xs := rfl
theorem told_append (L xs ys : List S25) : told L (xs ++ ys) = told (told L xs) ys := List.foldl_append
theorem mem_tellF {L : List S25} {x y : S25} : y ∈ tellF L x ↔ y ∈ L ∨ (y = x ∧ x.f3 ≠ 0) := by
  unfold tellF
  by_cases h : x.f3 = 0
  · rw [if_pos h]; simp [h]
  · rw [if_neg h]
    by_cases h2 : x ∈ L
    · rw [if_pos h2]
      constructor
      · exact .inl
      · rintro (h3 | ⟨rfl, _⟩)
        · exact h3
        · exact h2
    · rw [if_neg h2, List.mem_append, List.mem_singleton]
      simp [h]
theorem mem_told {y : S25} : ∀ {xs L : List S25}, y ∈ told L xs ↔ y ∈ L ∨ (y ∈ xs ∧ y.f3 ≠ 0)
  | [], L => by simp [told_nil]
  | x :: xs, L => by
    rw [told_cons, mem_told (xs := xs), mem_tellF, List.mem_cons]
    constructor
    · rintro ((h | ⟨rfl, h⟩) | ⟨h, h'⟩)
      · exact .inl h
      · exact .inr ⟨.inl rfl, h⟩
      · exact .inr ⟨.inr h, h'⟩
    · rintro (h | ⟨rfl | h, h'⟩)
      · exact .inl (.inl h)
      · exact .inl (.inr ⟨rfl, h'⟩)
      · exact .inr ⟨h, h'⟩
theorem nodup_tellF {L : List S25} (h : L.Nodup) (x : S25) : (tellF L x).Nodup := by
  unfold tellF
  split
  · exact h
  · split
    · exact h
    · rename_i h2
      rw [List.nodup_append]
      refine ⟨h, by simp, ?_⟩
      rintro a ha b hb rfl
      rw [List.mem_singleton.1 hb] at ha
      exact h2 ha
theorem nodup_told : ∀ {xs L : List S25}, L.Nodup → (told L xs).Nodup
  | [], _, h => h
  | x :: xs, L, h => nodup_told (xs := xs) (nodup_tellF h x)
theorem told_len : ∀ (xs L : List S25), L.length ≤ (told L xs).length ∧ (told L xs).length ≤ L.length + xs.length
  | [], L => ⟨Nat.le_refl _, Nat.le_refl _⟩
  | x :: xs, L => by
    have h1 := tellF_len L x
    have h2 := told_len xs (tellF L x)
    rw [told_cons, List.length_cons]
    omega

/-! ### What may be told -/
def expC (c : S33) (day : Int) : List S25 := if day > c.f11 then [⟨-1, -1, nExpiry, 4⟩] else []
def needC (docs : List S37) (ns : List S45) : List S25 := ns.flatMap fun n => if (cnt docs n.f0 : Int) < n.f1 then [⟨-1, n.f0, ⟨#[]⟩, 1⟩] else []
def invC (c : S33) (l : List S66) (a k : Int) : List S25 := [⟨a, k, nSeller, partyWhy l nSeller c.f2⟩, ⟨a, k, nBuyer, partyWhy l nBuyer c.f1⟩, ⟨a, k, nCurrency, partyWhy l nCurrency c.f7.f0⟩, ⟨a, k, nSum, sumWhy c l⟩]
def fixC (c : S33) (d : S37) (a day : Int) : List S25 := if d.f0 = 0 then invC c d.f3 a d.f0 else if d.f0 = 2 then [⟨a, d.f0, nIssued, ladWhy c d.f3 day⟩] else []
def partC (docs : List S37) (d : S37) (a : Int) (p : S43) : S25 := ⟨a, d.f0, nameP p, whyP p (ruleP docs d p)⟩
def ruledC (docs : List S37) (d : S37) (a : Int) (ns : List S45) : List S25 := ns.flatMap fun n => if n.f0 = d.f0 then (partsP n.f2).map (partC docs d a) else []
def shareOne (l : List S66) (a k : Int) (m : ByteArray → Option ByteArray) (n : ByteArray) : List S25 :=
  if (getOf l n).2 = false then [] else match m n with
    | none => []
    | some u => if (getOf l n).1.toList = u.toList then [] else [⟨a, k, n, 3⟩]
def shareC (l : List S66) (a k : Int) (m : ByteArray → Option ByteArray) (names : List ByteArray) : List S25 := names.flatMap (shareOne l a k m)
def upd (l : List S66) (m : ByteArray → Option ByteArray) (names : List ByteArray) : ByteArray → Option ByteArray :=
  fun x => if (names.any fun n => decide (x = n)) = true ∧ (getOf l x).2 = true ∧ (m x).isNone = true then some (getOf l x).1 else m x
def docsC (c : S33) (docs : List S37) (day : Int) : List S37 → Nat → (ByteArray → Option ByteArray) → List S25
  | [], _, _ => []
  | d :: ds, a, m => if askedB c d.f0 = true then fixC c d a day ++ (ruledC docs d a c.f16 ++ (shareC d.f3 a d.f0 m sharedNames ++ docsC c docs day ds (a + 1) (upd d.f3 m sharedNames))) else docsC c docs day ds (a + 1) m
def exC (c : S33) (docs : List S37) (day : Int) : List S25 := expC c day ++ (needC docs c.f16 ++ docsC c docs day docs 0 (fun _ => none))
/-- What Examine answers. -/
def exP (c : S33) (docs : List S37) (day : Int) : List S25 := told [] (exC c docs day)
theorem mem_exP {c : S33} {docs : List S37} {day : Int} {x : S25} : x ∈ exP c docs day ↔ x ∈ exC c docs day ∧ x.f3 ≠ 0 := by
  unfold exP
  rw [mem_told]
  simp
theorem nodup_exP (c : S33) (docs : List S37) (day : Int) : (exP c docs day).Nodup := nodup_told List.nodup_nil

theorem expF_told (c : S33) (day : Int) : expF c day = told [] (expC c day) := by
  unfold expF expC
  split <;> rfl
theorem needF_told (docs : List S37) : ∀ (ns : List S45) (L : List S25), needF docs ns L = told L (needC docs ns)
  | [], L => rfl
  | n :: ns, L => by
    rw [needF, needF_told docs ns]
    unfold needC
    rw [List.flatMap_cons, told_append]
    split <;> rfl
theorem invF_told (c : S33) (l : List S66) (a k : Int) (L : List S25) : invF c l a k L = told L (invC c l a k) := rfl
theorem fixF_told (c : S33) (d : S37) (a day : Int) (L : List S25) : fixF c d a day L = told L (fixC c d a day) := by
  unfold fixF fixC
  split
  · exact invF_told ..
  · split <;> rfl
theorem shareC_congr (l : List S66) (a k : Int) {m m' : ByteArray → Option ByteArray} {names : List ByteArray} (h : ∀ n ∈ names, m n = m' n) : shareC l a k m names = shareC l a k m' names := by
  unfold shareC
  induction names with
  | nil => rfl
  | cons n ns ih =>
    rw [List.flatMap_cons, List.flatMap_cons, ih fun x hx => h x (List.mem_cons_of_mem _ hx)]
    have : shareOne l a k m n = shareOne l a k m' n := by unfold shareOne; rw [h n (List.mem_cons_self ..)]
    rw [this]
theorem shareF_told (l : List S66) (a k : Int) : ∀ (names : List ByteArray) (L : List S25) (m : ByteArray → Option ByteArray), names.Nodup → shareF l a k names (L, m) = (told L (shareC l a k m names), upd l m names)
  | [], L, m, _ => by
    rw [shareF]
    refine Prod.ext rfl ?_
    funext x
    simp [upd]
  | n :: ns, L, m, hn => by
    rw [List.nodup_cons] at hn
    have hc : shareC l a k m (n :: ns) = shareOne l a k m n ++ shareC l a k m ns := rfl
    rw [shareF, hc, told_append]
    by_cases hg : (getOf l n).2 = false
    · rw [if_pos hg, shareF_told l a k ns L m hn.2]
      have h1 : shareOne l a k m n = [] := by unfold shareOne; rw [if_pos hg]
      rw [h1]
      refine Prod.ext rfl ?_
      funext x
      unfold upd
      by_cases hx : x = n
      · subst hx; simp [hg]
      · have hdx : decide (x = n) = false := decide_eq_false hx
        simp only [List.any_cons, hdx, Bool.false_or, if_neg hx]
    · rw [if_neg hg]
      have hg' : (getOf l n).2 = true := by simpa using hg
      cases hm : m n with
      | none =>
        simp only [hm]
        rw [shareF_told l a k ns L _ hn.2]
        have h1 : shareOne l a k m n = [] := by unfold shareOne; rw [if_neg hg, hm]
        rw [h1]
        refine Prod.ext ?_ ?_
        · show told L _ = told (told L []) _
          rw [told_nil, shareC_congr l a k (m := fun x => if x = n then some (getOf l n).1 else m x) (m' := m) (names := ns) fun x hx => if_neg fun e => hn.1 (by rw [← e]; exact hx)]
        · funext x
          show upd l (fun x => if x = n then some (getOf l n).1 else m x) ns x = upd l m (n :: ns) x
          unfold upd
          by_cases hx : x = n
          · subst hx; simp [hg', hm]
          · have hdx : decide (x = n) = false := decide_eq_false hx
            simp only [List.any_cons, hdx, Bool.false_or, if_neg hx]
      | some u =>
        simp only [hm]
        have hu : upd l m ns = upd l m (n :: ns) := by
          funext x
          unfold upd
          by_cases hx : x = n
          · subst hx; simp [hm]
          · have hdx : decide (x = n) = false := decide_eq_false hx
            simp only [List.any_cons, hdx, Bool.false_or, if_neg hx]
        by_cases he : (getOf l n).1.toList = u.toList
        · rw [if_pos he, shareF_told l a k ns L m hn.2]
          have h1 : shareOne l a k m n = [] := by unfold shareOne; rw [if_neg hg, hm]; exact if_pos he
          rw [h1, hu]
          rfl
        · rw [if_neg he, shareF_told l a k ns _ m hn.2]
          have h1 : shareOne l a k m n = [⟨a, k, n, 3⟩] := by unfold shareOne; rw [if_neg hg, hm]; exact if_neg he
          rw [h1, hu]
          rfl
theorem names_nodup : sharedNames.Nodup := by decide

/-! ### Bounds -/
structure MidP (c : S33) (docs : List S37) : Prop where
  needs : c.f16.length ≤ 20
  papers : docs.length ≤ 20
  rules : ∀ n ∈ c.f16, szP n.f2 ≤ 500
  fields : ∀ d ∈ docs, shortV d.f3
structure WfP (c : S33) (docs : List S37) : Prop where
  docs : ∀ d ∈ docs, wfI d.f0 = true
  needs : ∀ n ∈ c.f16, wfI n.f0 = true
theorem name_size (p : S43) : (nameP p).size ≤ 200 * szP p := by
  unfold nameP
  have := szP_eq p
  split
  · omega
  · exact Nat.zero_le _
theorem why_in (p : S43) {r : Int} (h : 0 ≤ r ∧ r ≤ 2) : 0 ≤ whyP p r ∧ whyP p r ≤ 3 := by
  unfold whyP
  split <;> omega
theorem partsF_ev (docs : List S37) (d : S37) (a : Int) (hl : docs.length ≤ 1000000) (hs : shortV d.f3) : ∀ (ps : List S43) (L : List S25), (∀ p ∈ ps, szP p ≤ 1000) → L.length + ps.length < 1000000 →
    Ev (fun k => partsF k docs d a ps L) (told L (ps.map (partC docs d a)))
  | [], L, _, _ => Ev.of fun _ => rfl
  | p :: ps, L, hp, hL => by
    have h1 := hp p (List.mem_cons_self ..)
    have h2 := why_in p (ruleP_02 docs d p)
    have h3 := name_size p
    simp only [List.length_cons] at hL
    have hok : okT L (nameP p) (whyP p (ruleP docs d p)) = true := by
      unfold okT
      rw [Bool.and_eq_true, Bool.and_eq_true]
      exact ⟨WalkArith.wf_i64 (by omega), decide_eq_true (by unfold maxLen; omega), decide_eq_true (by omega)⟩
    refine Ev.congr (fun k => by rw [partsF]) (Ev.bind (rule_ev docs d hl hs 1000 p h1 (by omega)) ?_)
    simp only [if_pos hok]
    have h4 := (tellF_len L (partC docs d a p)).2
    exact partsF_ev docs d a hl hs ps _ (fun q hq => hp q (List.mem_cons_of_mem _ hq)) (by unfold partC at h4; omega)
theorem ruledC_len (docs : List S37) (d : S37) (a : Int) : ∀ ns : List S45, (∀ n ∈ ns, szP n.f2 ≤ 500) → (ruledC docs d a ns).length ≤ 500 * ns.length
  | [], _ => Nat.le_refl _
  | n :: ns, h => by
    have h1 := h n (List.mem_cons_self ..)
    have h2 := ruledC_len docs d a ns fun x hx => h x (List.mem_cons_of_mem _ hx)
    have h3 := partsP_len n.f2
    have e : ruledC docs d a (n :: ns) = (if n.f0 = d.f0 then (partsP n.f2).map (partC docs d a) else []) ++ ruledC docs d a ns := rfl
    rw [e, List.length_append, List.length_cons]
    split
    · rw [List.length_map]; omega
    · simp only [List.length_nil]; omega
theorem ruledF_ev (docs : List S37) (d : S37) (a : Int) (hl : docs.length ≤ 1000000) (hs : shortV d.f3) : ∀ (ns : List S45) (L : List S25), (∀ n ∈ ns, szP n.f2 ≤ 500) → L.length + 500 * ns.length < 1000000 →
    Ev (fun k => ruledF k docs d a ns L) (told L (ruledC docs d a ns))
  | [], L, _, _ => Ev.of fun _ => rfl
  | n :: ns, L, hn, hL => by
    have h1 := hn n (List.mem_cons_self ..)
    have e : ruledC docs d a (n :: ns) = (if n.f0 = d.f0 then (partsP n.f2).map (partC docs d a) else []) ++ ruledC docs d a ns := rfl
    have h3 := partsP_len n.f2
    rw [List.length_cons] at hL
    rw [e, told_append]
    by_cases hk : n.f0 = d.f0
    · rw [if_pos hk]
      have h4 := (told_len ((partsP n.f2).map (partC docs d a)) L).2
      rw [List.length_map] at h4
      refine Ev.congr (fun k => by rw [ruledF, if_pos hk]) (Ev.bind (parts_ev 500 n.f2 h1 (by omega)) ?_)
      refine Ev.bind (partsF_ev docs d a hl hs (partsP n.f2) L (fun p hp => by have := (partsP_mem hp).1; omega) (by omega)) ?_
      exact ruledF_ev docs d a hl hs ns _ (fun x hx => hn x (List.mem_cons_of_mem _ hx)) (by omega)
    · rw [if_neg hk]
      refine Ev.congr (fun k => by rw [ruledF, if_neg hk]) ?_
      exact ruledF_ev docs d a hl hs ns L (fun x hx => hn x (List.mem_cons_of_mem _ hx)) (by omega)
theorem fixC_len (c : S33) (d : S37) (a day : Int) : (fixC c d a day).length ≤ 4 := by
  unfold fixC
  split
  · exact Nat.le_refl _
  · split
    · exact (by decide : 1 ≤ 4)
    · exact Nat.zero_le _
theorem shareOne_len (l : List S66) (a k : Int) (m : ByteArray → Option ByteArray) (n : ByteArray) : (shareOne l a k m n).length ≤ 1 := by
  unfold shareOne
  split
  · exact Nat.zero_le _
  · split
    · exact Nat.zero_le _
    · split
      · exact Nat.zero_le _
      · exact Nat.le_refl _
theorem shareC_len (l : List S66) (a k : Int) (m : ByteArray → Option ByteArray) : ∀ names, (shareC l a k m names).length ≤ names.length
  | [] => Nat.le_refl _
  | n :: ns => by
    have h1 := shareOne_len l a k m n
    have h2 := shareC_len l a k m ns
    have e : shareC l a k m (n :: ns) = shareOne l a k m n ++ shareC l a k m ns := rfl
    rw [e, List.length_append, List.length_cons]
    omega
theorem docF_ev (c : S33) (docs : List S37) (day : Int) (hn : c.f16.length ≤ 20) (hr : ∀ n ∈ c.f16, szP n.f2 ≤ 500) (hl : docs.length ≤ 1000000) : ∀ (ds : List S37) (j : Nat) (L : List S25) (m : ByteArray → Option ByteArray), (∀ d ∈ ds, shortV d.f3) → L.length + 20000 * ds.length ≤ 800000 →
    Ev (fun k => docF k c docs day ds j (L, m)) (told L (docsC c docs day ds j m))
  | [], j, L, m, _, _ => Ev.of fun _ => rfl
  | d :: ds, j, L, m, hs, hL => by
    rw [docsC]
    rw [List.length_cons] at hL
    by_cases hk : askedB c d.f0 = true
    · rw [if_pos hk, told_append, told_append, told_append]
      have h1 := (told_len (fixC c d j day) L).2
      have h2 := fixC_len c d j day
      have h3 := (told_len (ruledC docs d j c.f16) (told L (fixC c d j day))).2
      have h4 := ruledC_len docs d j c.f16 hr
      have h5 := (told_len (shareC d.f3 j d.f0 m sharedNames) (told (told L (fixC c d j day)) (ruledC docs d j c.f16))).2
      have h6 := shareC_len d.f3 j d.f0 m sharedNames
      have h7 : sharedNames.length = 6 := rfl
      refine Ev.congr (fun k => by rw [docF, if_pos hk, if_pos (show L.length < 900000 by omega), fixF_told]) (Ev.bind (ruledF_ev docs d j hl (hs d (List.mem_cons_self ..)) c.f16 (told L (fixC c d j day)) hr (by omega)) ?_)
      simp only [if_pos (show (told (told L (fixC c d j day)) (ruledC docs d j c.f16)).length < 900000 by omega)]
      simp only [shareF_told d.f3 j d.f0 sharedNames _ m names_nodup]
      exact docF_ev c docs day hn hr hl ds (j + 1) _ _ (fun x hx => hs x (List.mem_cons_of_mem _ hx)) (by omega)
    · rw [if_neg hk]
      refine Ev.congr (fun k => by rw [docF, if_neg hk]) ?_
      exact docF_ev c docs day hn hr hl ds (j + 1) L m (fun x hx => hs x (List.mem_cons_of_mem _ hx)) (by omega)
theorem needC_len (docs : List S37) : ∀ ns, (needC docs ns).length ≤ ns.length
  | [] => Nat.le_refl _
  | n :: ns => by
    have h2 := needC_len docs ns
    have e : needC docs (n :: ns) = (if (cnt docs n.f0 : Int) < n.f1 then [⟨-1, n.f0, ⟨#[]⟩, 1⟩] else []) ++ needC docs ns := rfl
    rw [e, List.length_append, List.length_cons]
    split
    · simp only [List.length_singleton]; omega
    · simp only [List.length_nil]; omega
theorem exF_ev (c : S33) (docs : List S37) (day : Int) (hm : MidP c docs) (hw : WfP c docs) : Ev (fun k => exF k c docs day) (exP c docs day) := by
  have hd := hm.papers
  have hn := hm.needs
  have hok : okE c docs = true := by
    simp only [okE, Bool.and_eq_true, List.all_eq_true, decide_eq_true_eq]
    refine ⟨fun d hd => ⟨hw.docs d hd, ?_⟩, fun n hn => hw.needs n hn, by omega, by omega⟩
    simp only [shortF, List.all_eq_true, decide_eq_true_eq]
    intro f hf
    exact Nat.le_trans (hm.fields d hd f hf) (by decide)
  unfold exP exC
  rw [told_append, told_append]
  refine Ev.congr (fun k => by rw [exF, if_pos hok, needF_told, expF_told]) ?_
  have h1 := (told_len (expC c day) []).2
  have h2 : (expC c day).length ≤ 1 := by unfold expC; split <;> simp
  have h3 := (told_len (needC docs c.f16) (told [] (expC c day))).2
  have h4 := needC_len docs c.f16
  simp only [List.length_nil] at h1
  exact docF_ev c docs day hm.needs hm.rules (by omega) docs 0 _ _ hm.fields (by omega)
end Go.Proofs.YtcibglpbfaffgaaDoor.X

namespace Go.Proofs.YtcibglpbfaffgaaDoor.X
open Go.RowKit Go.Proofs.YtcibglpbfaffgaaDoorW.PrintWords Go.Proofs.YtcibglpbfaffgaaDoorW.PrintLast Go.Proofs.YtcibglpbfaffgaaDoorW.PrintMore
set_option linter.unusedVariables false

theorem rd66 {l : List S66} {j : Nat} (h : j < l.length) : rd_T66 l (j : Int) = l[j] := by simp [rd_T66, List.getD_eq_getElem?_getD, h]
abbrev sizeK (p : S43) (m : Int) (k : Nat) : Option Int := supercargoref31_Size.f k p.f0 p.f1 p.f2 p.f3 p.f4 p.f5 m
def SizeIs (p : S43) (m : Int) : Prop := ∃ r, Ev (sizeK p m) r ∧ 1 ≤ r ∧ r ≤ 4398046511104 + max m 1 ∧ (r < m → r = szP p)
theorem size_l0 (p : S43) (m : Int) (hm : m ≤ 200) (hl : p.f5.length ≤ 9223372036854775807) (ih : ∀ x ∈ p.f5, ∀ m' : Int, m' ≤ 200 → SizeIs x m') : ∀ (n j : Nat) (acc : Int), j + n = p.f5.length → 1 ≤ acc → acc ≤ 4398046511104 + max m 1 →
    ∃ r, Ev (fun k => supercargoref31_Size.l0 k m acc (j : Int) p.f0 p.f1 p.f2 p.f3 p.f4 p.f5) r ∧ 1 ≤ r ∧ r ≤ 4398046511104 + max m 1 ∧ (r < m → r = acc + szsP (p.f5.drop j))
  | 0, j, acc, h, h0, h1 => by
    refine ⟨acc, Ev.succ (g := fun _ => some acc) (fun k => ?_) (Ev.of fun _ => rfl), h0, h1, fun _ => ?_⟩
    · simp only [supercargoref31_Size.l0]
      rw [if_neg (by omega)]
    · rw [List.drop_eq_nil_of_le (by omega), szsP_nil]; omega
  | n + 1, j, acc, h, h0, h1 => by
    have hj : j < p.f5.length := by omega
    by_cases ha : acc < m
    · obtain ⟨t, ht, t0, t1, t2⟩ := ih p.f5[j] (List.getElem_mem hj) (m - acc) (by omega)
      obtain ⟨r, hr, r0, r1, r2⟩ := size_l0 p m hm hl ih n (j + 1) (acc + t) (by omega) (by omega) (by omega)
      refine ⟨r, Ev.succ (fun k => ?_) (Ev.bind (h := fun k t => supercargoref31_Size.l0 k m (wrap64 (acc + t)) ((j + 1 : Nat) : Int) p.f0 p.f1 p.f2 p.f3 p.f4 p.f5) ht ?_), r0, r1, fun hlt => ?_⟩
      · simp only [supercargoref31_Size.l0]
        rw [if_pos (by omega), if_pos ha, if_pos (by omega), rd43 hj, w64s (by omega), w64i (show -9223372036854775808 ≤ m - acc by omega) (by omega)]
      · rw [w64i (by omega) (by omega)]
        exact hr
      · have e := r2 hlt
        rw [List.drop_eq_getElem_cons hj, szsP_cons]
        have hn : (0 : Int) ≤ szsP (p.f5.drop (j + 1)) := by omega
        have := t2 (by omega)
        omega
    · refine ⟨acc, Ev.succ (g := fun _ => some acc) (fun k => ?_) (Ev.of fun _ => rfl), h0, h1, fun hlt => absurd hlt ha⟩
      simp only [supercargoref31_Size.l0]
      rw [if_pos (by omega), if_neg ha]
theorem size_head {a b : Nat} (ha : a ≤ lim47r) (hb : b ≤ lim47r) : wrap64 (wrap64 (1 + wrap64 ((a : Int) / 200)) + wrap64 ((b : Int) / 200)) = 1 + (a : Int) / 200 + (b : Int) / 200 := by
  have e2 : lim47r = 140737488351232 := rfl
  rw [w64i (n := (a : Int) / 200) (by omega) (by omega), w64i (n := (b : Int) / 200) (by omega) (by omega), w64i (n := 1 + (a : Int) / 200) (by omega) (by omega), w64i (n := 1 + (a : Int) / 200 + (b : Int) / 200) (by omega) (by omega)]
theorem size_is : ∀ (n : Nat) (p : S43), szP p ≤ n → Ok43 lim47r p → ∀ m : Int, m ≤ 200 → SizeIs p m
  | 0, p, h, _, _, _ => absurd (szP_pos p) (by omega)
  | n + 1, p, h, hp, m, hm => by
    cases hp with
    | mk o0 o1 o2 o3 o4 o5 o6 =>
    by_cases h0 : m ≤ 0
    · refine ⟨1, Ev.succ (g := fun _ => some 1) (fun k => ?_) (Ev.of fun _ => rfl), by omega, by omega, fun hlt => by omega⟩
      show supercargoref31_Size.f (k + 1) p.f0 p.f1 p.f2 p.f3 p.f4 p.f5 m = _
      simp only [supercargoref31_Size.f]
      rw [if_pos h0]
    · have e2 : lim47r = 140737488351232 := rfl
      obtain ⟨r, hr, r0, r1, r2⟩ := size_l0 p m hm o5 (fun x hx m' hm' => size_is n x (by have := szP_kid hx; omega) (o6 x hx) m' hm') p.f5.length 0 (1 + (p.f2.size : Int) / 200 + (p.f3.size : Int) / 200) (Nat.zero_add _) (by omega) (by omega)
      refine ⟨r, Ev.succ (fun k => ?_) hr, r0, r1, fun hlt => ?_⟩
      · show supercargoref31_Size.f (k + 1) p.f0 p.f1 p.f2 p.f3 p.f4 p.f5 m = _
        simp only [supercargoref31_Size.f]
        rw [if_neg h0, size_head o2 o3]
        rfl
      · have e := r2 hlt
        rw [List.drop_zero] at e
        rw [e, szP_eq]
        omega

/-- What Few lets in. -/
structure FewP (c : S33) (docs : List S37) : Prop where
  needs : c.f16.length ≤ 12
  papers : docs.length ≤ 12
  rules : ∀ n ∈ c.f16, szP n.f2 ≤ 60
  fields : ∀ d ∈ docs, d.f3.length ≤ 30 ∧ ∀ f ∈ d.f3, f.f0.size + f.f1.size ≤ 300
theorem FewP.mid {c : S33} {docs : List S37} (h : FewP c docs) : MidP c docs :=
  ⟨Nat.le_trans h.needs (by decide), Nat.le_trans h.papers (by decide), fun n hn => Nat.le_trans (h.rules n hn) (by decide), fun d hd f hf => by have := (h.fields d hd).2 f hf; omega⟩
theorem wf_of {c : S33} {docs : List S37} (hc : Ok33 c) (hd : OkDs docs) : WfP c docs := ⟨fun d h => (hd.docs d h).1, fun n h => (hc.needs n h).1⟩

theorem few_l2 {docs : List S37} (hd : OkDs docs) {i : Nat} (hi : i < docs.length) (hf : docs[i].f3.length ≤ 1000) (hi2 : docs.length ≤ 1000) {b : Bool} (hb : Ev (fun k => supercargoref31_Few.l1 k docs ((i + 1 : Nat) : Int)) b) : ∀ (n j : Nat), j + n = docs[i].f3.length →
    ∃ b', Ev (fun k => supercargoref31_Few.l2 k docs (i : Int) (j : Int)) b' ∧ (b' = true → b = true ∧ ∀ f ∈ docs[i].f3.drop j, f.f0.size + f.f1.size ≤ 300)
  | 0, j, h => by
    refine ⟨b, Ev.succ (fun k => ?_) hb, fun e => ⟨e, ?_⟩⟩
    · simp only [supercargoref31_Few.l2]
      rw [if_pos (by omega), if_pos (by omega), rd37 hi, if_neg (by omega), w64s (by omega)]
    · rw [List.drop_eq_nil_of_le (by omega)]
      intro f hf
      cases hf
  | n + 1, j, h => by
    have hj : j < docs[i].f3.length := by omega
    have hm := (hd.docs docs[i] (List.getElem_mem hi)).2.2.2.2 docs[i].f3[j] (List.getElem_mem hj)
    have e2 : lim47r = 140737488351232 := rfl
    have hw : wrap64 ((docs[i].f3[j].f0.size : Int) + (docs[i].f3[j].f1.size : Int)) = (docs[i].f3[j].f0.size : Int) + (docs[i].f3[j].f1.size : Int) := w64i (by omega) (by have := hm.1; have := hm.2; omega)
    by_cases hgt : (docs[i].f3[j].f0.size : Int) + (docs[i].f3[j].f1.size : Int) > 300
    · refine ⟨false, Ev.succ (g := fun _ => some false) (fun k => ?_) (Ev.of fun _ => rfl), fun e => by cases e⟩
      simp only [supercargoref31_Few.l2]
      rw [if_pos (by omega), if_pos (by omega), rd37 hi, if_pos (by omega), if_pos (by omega), rd66 hj, hw, if_pos hgt]
    · obtain ⟨b', hb', hp⟩ := few_l2 hd hi hf hi2 hb n (j + 1) (by omega)
      refine ⟨b', Ev.succ (fun k => ?_) hb', fun e => ⟨(hp e).1, ?_⟩⟩
      · simp only [supercargoref31_Few.l2]
        rw [if_pos (by omega), if_pos (by omega), rd37 hi, if_pos (by omega), if_pos (by omega), rd66 hj, hw, if_neg hgt, w64s (by omega)]
      · rw [List.drop_eq_getElem_cons hj]
        intro f hf
        rcases List.mem_cons.1 hf with rfl | hf
        · omega
        · exact (hp e).2 f hf
theorem few_l1 {docs : List S37} (hd : OkDs docs) (hi2 : docs.length ≤ 1000) : ∀ (n i : Nat), i + n = docs.length →
    ∃ b, Ev (fun k => supercargoref31_Few.l1 k docs (i : Int)) b ∧ (b = true → ∀ d ∈ docs.drop i, d.f3.length ≤ 30 ∧ ∀ f ∈ d.f3, f.f0.size + f.f1.size ≤ 300)
  | 0, i, h => by
    refine ⟨true, Ev.succ (g := fun _ => some true) (fun k => ?_) (Ev.of fun _ => rfl), fun e => ?_⟩
    · simp only [supercargoref31_Few.l1]
      rw [if_neg (by omega)]
    · rw [List.drop_eq_nil_of_le (by omega)]
      intro f hf
      cases hf
  | n + 1, i, h => by
    have hi : i < docs.length := by omega
    by_cases hgt : (docs[i].f3.length : Int) > 30
    · refine ⟨false, Ev.succ (g := fun _ => some false) (fun k => ?_) (Ev.of fun _ => rfl), fun e => by cases e⟩
      simp only [supercargoref31_Few.l1]
      rw [if_pos (by omega), if_pos (by omega), rd37 hi, if_pos hgt]
    · obtain ⟨b, hb, hp⟩ := few_l1 hd hi2 n (i + 1) (by omega)
      obtain ⟨b', hb', hp'⟩ := few_l2 hd hi (by omega) hi2 hb docs[i].f3.length 0 (Nat.zero_add _)
      refine ⟨b', Ev.succ (fun k => ?_) hb', fun e => ?_⟩
      · simp only [supercargoref31_Few.l1]
        rw [if_pos (by omega), if_pos (by omega), rd37 hi, if_neg hgt]
        rfl
      · rw [List.drop_eq_getElem_cons hi]
        intro d hd
        rcases List.mem_cons.1 hd with rfl | hd
        · have := (hp' e).2
          rw [List.drop_zero] at this
          exact ⟨by omega, this⟩
        · exact hp (hp' e).1 d hd
abbrev fewK (c : S33) (docs : List S37) (k : Nat) : Option Bool := supercargoref31_Few.f k c.f0 c.f1 c.f2 c.f3 c.f4 c.f5 c.f6 c.f7.f0 c.f7.f1 c.f8 c.f9 c.f10 c.f11 c.f12 c.f13 c.f14 c.f15 c.f16 docs
theorem few_l0 {c : S33} {docs : List S37} (hc : Ok33 c) (hd : OkDs docs) (hn : c.f16.length ≤ 1000) (hi2 : docs.length ≤ 1000) : ∀ (n i : Nat), i + n = c.f16.length →
    ∃ b, Ev (fun k => supercargoref31_Few.l0 k docs (i : Int) c.f0 c.f1 c.f2 c.f3 c.f4 c.f5 c.f6 c.f7.f0 c.f7.f1 c.f8 c.f9 c.f10 c.f11 c.f12 c.f13 c.f14 c.f15 c.f16) b ∧
      (b = true → (∀ n ∈ c.f16.drop i, szP n.f2 ≤ 60) ∧ ∀ d ∈ docs, d.f3.length ≤ 30 ∧ ∀ f ∈ d.f3, f.f0.size + f.f1.size ≤ 300)
  | 0, i, h => by
    obtain ⟨b, hb, hp⟩ := few_l1 hd hi2 docs.length 0 (Nat.zero_add _)
    refine ⟨b, Ev.succ (fun k => ?_) hb, fun e => ⟨?_, ?_⟩⟩
    · simp only [supercargoref31_Few.l0]
      rw [if_neg (by omega)]
      rfl
    · rw [List.drop_eq_nil_of_le (by omega)]
      intro f hf
      cases hf
    · have := hp e
      rwa [List.drop_zero] at this
  | n + 1, i, h => by
    have hi : i < c.f16.length := by omega
    obtain ⟨t, ht, t0, t1, t2⟩ := size_is _ c.f16[i].f2 (Nat.le_refl _) (hc.needs _ (List.getElem_mem hi)).2.2 200 (by omega)
    by_cases hgt : t > 60
    · refine ⟨false, Ev.succ (fun k => ?_) (Ev.bind (h := fun k t => if t > 60 then some false else supercargoref31_Few.l0 k docs ((i + 1 : Nat) : Int) c.f0 c.f1 c.f2 c.f3 c.f4 c.f5 c.f6 c.f7.f0 c.f7.f1 c.f8 c.f9 c.f10 c.f11 c.f12 c.f13 c.f14 c.f15 c.f16) ht ?_), fun e => by cases e⟩
      · simp only [supercargoref31_Few.l0]
        rw [if_pos (by omega), if_pos (by omega), rd45 hi, w64s (by omega)]
      · simp only [if_pos hgt]
        exact Ev.of fun _ => rfl
    · obtain ⟨b, hb, hp⟩ := few_l0 hc hd hn hi2 n (i + 1) (by omega)
      refine ⟨b, Ev.succ (fun k => ?_) (Ev.bind (h := fun k t => if t > 60 then some false else supercargoref31_Few.l0 k docs ((i + 1 : Nat) : Int) c.f0 c.f1 c.f2 c.f3 c.f4 c.f5 c.f6 c.f7.f0 c.f7.f1 c.f8 c.f9 c.f10 c.f11 c.f12 c.f13 c.f14 c.f15 c.f16) ht ?_), fun e => ⟨?_, (hp e).2⟩⟩
      · simp only [supercargoref31_Few.l0]
        rw [if_pos (by omega), if_pos (by omega), rd45 hi, w64s (by omega)]
      · simp only [if_neg hgt]
        exact hb
      · rw [List.drop_eq_getElem_cons hi]
        intro d hd
        rcases List.mem_cons.1 hd with rfl | hd
        · have := t2 (by omega)
          omega
        · exact (hp e).1 d hd
theorem few_ev {c : S33} {docs : List S37} (hc : Ok33 c) (hd : OkDs docs) : ∃ b, Ev (fewK c docs) b ∧ (b = true → FewP c docs) := by
  by_cases h1 : (c.f16.length : Int) > 12
  · refine ⟨false, Ev.congr (g := fun k => supercargoref31_Few.j0 k docs true c.f0 c.f1 c.f2 c.f3 c.f4 c.f5 c.f6 c.f7.f0 c.f7.f1 c.f8 c.f9 c.f10 c.f11 c.f12 c.f13 c.f14 c.f15 c.f16) (fun k => ?_) (Ev.succ (g := fun _ => some false) (fun k => ?_) (Ev.of fun _ => rfl)), fun e => by cases e⟩
    · show supercargoref31_Few.f k _ _ _ _ _ _ _ _ _ _ _ _ _ _ _ _ _ _ _ = _
      unfold supercargoref31_Few.f
      rw [if_pos h1]
    · simp only [supercargoref31_Few.j0]
      rw [if_pos trivial]
  · by_cases h2 : (docs.length : Int) > 12
    · refine ⟨false, Ev.congr (g := fun k => supercargoref31_Few.j0 k docs true c.f0 c.f1 c.f2 c.f3 c.f4 c.f5 c.f6 c.f7.f0 c.f7.f1 c.f8 c.f9 c.f10 c.f11 c.f12 c.f13 c.f14 c.f15 c.f16) (fun k => ?_) (Ev.succ (g := fun _ => some false) (fun k => ?_) (Ev.of fun _ => rfl)), fun e => by cases e⟩
      · show supercargoref31_Few.f k _ _ _ _ _ _ _ _ _ _ _ _ _ _ _ _ _ _ _ = _
        unfold supercargoref31_Few.f
        rw [if_neg h1, decide_eq_true h2]
      · simp only [supercargoref31_Few.j0]
        rw [if_pos trivial]
    · obtain ⟨b, hb, hp⟩ := few_l0 hc hd (by omega) (by omega) c.f16.length 0 (Nat.zero_add _)
      refine ⟨b, Ev.congr (g := fun k => supercargoref31_Few.j0 k docs false c.f0 c.f1 c.f2 c.f3 c.f4 c.f5 c.f6 c.f7.f0 c.f7.f1 c.f8 c.f9 c.f10 c.f11 c.f12 c.f13 c.f14 c.f15 c.f16) (fun k => ?_) (Ev.succ (fun k => ?_) hb), fun e => ?_⟩
      · show supercargoref31_Few.f k _ _ _ _ _ _ _ _ _ _ _ _ _ _ _ _ _ _ _ = _
        unfold supercargoref31_Few.f
        rw [if_neg h1, decide_eq_false h2]
      · simp only [supercargoref31_Few.j0]
        rw [if_neg (by decide)]
        rfl
      · have := hp e
        rw [List.drop_zero] at this
        exact ⟨by omega, by omega, this.1, this.2⟩
end Go.Proofs.YtcibglpbfaffgaaDoor.X

namespace Go.Proofs.YtcibglpbfaffgaaDoor.X
open Go.RowKit Go.Proofs.YtcibglpbfaffgaaDoorW.PrintWords Go.Proofs.YtcibglpbfaffgaaDoorW.PrintLast Go.Proofs.YtcibglpbfaffgaaDoorW.PrintMore
set_option linter.unusedVariables false

/-- What has been seen first, ahead of a paper. -/
def stC (c : S33) : List S37 → (ByteArray → Option ByteArray) → Nat → (ByteArray → Option ByteArray)
  | _, m, 0 => m
  | [], m, _ + 1 => m
  | d :: ds, m, i + 1 => stC c ds (if askedB c d.f0 = true then upd d.f3 m sharedNames else m) i
theorem mem_docsC {c : S33} {docs : List S37} {day : Int} {x : S25} : ∀ {ds : List S37} {j : Nat} {m : ByteArray → Option ByteArray}, x ∈ docsC c docs day ds j m ↔ ∃ i, ∃ h : i < ds.length, askedB c ds[i].f0 = true ∧
    (x ∈ fixC c ds[i] ((j + i : Nat) : Int) day ∨ x ∈ ruledC docs ds[i] ((j + i : Nat) : Int) c.f16 ∨ x ∈ shareC ds[i].f3 ((j + i : Nat) : Int) ds[i].f0 (stC c ds m i) sharedNames)
  | [], j, m => by simp [docsC]
  | d :: ds, j, m => by
    have ih := fun m' => mem_docsC (c := c) (docs := docs) (day := day) (x := x) (ds := ds) (j := j + 1) (m := m')
    have e : ∀ i : Nat, ((j + 1 + i : Nat) : Int) = ((j + (i + 1) : Nat) : Int) := fun i => by omega
    constructor
    · intro h
      rw [docsC] at h
      by_cases hk : askedB c d.f0 = true
      · rw [if_pos hk, List.mem_append, List.mem_append, List.mem_append] at h
        rcases h with h | h | h | h
        · exact ⟨0, Nat.zero_lt_succ _, hk, .inl h⟩
        · exact ⟨0, Nat.zero_lt_succ _, hk, .inr (.inl h)⟩
        · exact ⟨0, Nat.zero_lt_succ _, hk, .inr (.inr h)⟩
        · obtain ⟨i, hi, ha, hh⟩ := (ih _).1 h
          refine ⟨i + 1, Nat.succ_lt_succ hi, ha, ?_⟩
          rw [e] at hh
          rw [stC, if_pos hk]
          exact hh
      · rw [if_neg hk] at h
        obtain ⟨i, hi, ha, hh⟩ := (ih _).1 h
        refine ⟨i + 1, Nat.succ_lt_succ hi, ha, ?_⟩
        rw [e] at hh
        rw [stC, if_neg hk]
        exact hh
    · rintro ⟨i, hi, ha, hh⟩
      rw [docsC]
      cases i with
      | zero =>
        rw [if_pos (show askedB c d.f0 = true from ha), List.mem_append, List.mem_append, List.mem_append]
        rcases hh with hh | hh | hh
        · exact .inl hh
        · exact .inr (.inl hh)
        · exact .inr (.inr (.inl hh))
      | succ i =>
        have hi' : i < ds.length := by simpa using hi
        by_cases hk : askedB c d.f0 = true
        · rw [if_pos hk, List.mem_append, List.mem_append, List.mem_append]
          refine .inr (.inr (.inr ((ih _).2 ⟨i, hi', ha, ?_⟩)))
          rw [e]
          rw [stC, if_pos hk] at hh
          exact hh
        · rw [if_neg hk]
          refine (ih _).2 ⟨i, hi', ha, ?_⟩
          rw [e]
          rw [stC, if_neg hk] at hh
          exact hh
theorem mem_exC {c : S33} {docs : List S37} {day : Int} {x : S25} : x ∈ exC c docs day ↔ x ∈ expC c day ∨ x ∈ needC docs c.f16 ∨ ∃ i : Nat, ∃ h : i < docs.length, askedB c docs[i].f0 = true ∧
    (x ∈ fixC c docs[i] (i : Int) day ∨ x ∈ ruledC docs docs[i] (i : Int) c.f16 ∨ x ∈ shareC docs[i].f3 (i : Int) docs[i].f0 (stC c docs (fun _ => none) i) sharedNames) := by
  unfold exC
  rw [List.mem_append, List.mem_append, mem_docsC]
  simp only [Nat.zero_add]

/-! ### The day -/
theorem u64w (x : Int) : IntKind.u64.wrap x = x % 18446744073709551616 := rfl
theorem beyond_eq {day n within : Int} (h0 : -9223372036854775808 ≤ day) (h1 : day ≤ 9223372036854775807) (h2 : -9223372036854775808 ≤ n) (h3 : n ≤ 9223372036854775807) (h4 : -9223372036854775808 ≤ within) (h5 : within ≤ 9223372036854775807) :
    beyondP day n within = decide (day - n > within) := by
  unfold beyondP examine_beyond.f
  simp only [u64w]
  by_cases h6 : day ≥ n
  · rw [if_pos h6]
    by_cases h7 : within < 0
    · rw [if_pos h7]
      exact (decide_eq_true (by omega)).symm
    · rw [if_neg h7]
      exact decide_eq_decide.2 (by omega)
  · rw [if_neg h6]
    by_cases h7 : within < 0
    · rw [if_pos h7]
      exact decide_eq_decide.2 (by omega)
    · rw [if_neg h7]
      exact (decide_eq_false (by omega)).symm
theorem numOf_in (s : ByteArray) : -4611686018427387904 ≤ (numOf s).1 ∧ (numOf s).1 ≤ 4611686018427387904 := by
  unfold numOf
  split
  · split
    · decide
    · split
      · decide
      · split
        · simp only; omega
        · decide
  · decide
theorem wf64_in {z : Int} (h : wf64 z) : -9223372036854775808 ≤ z ∧ z ≤ 9223372036854775807 := by
  simp [wf64, Lit.wf, IntKind.min, IntKind.max, IntKind.signed, IntKind.bits] at h
  omega
theorem lad_day {c : S33} (hw : wf64 c.f12) (l : List S66) {day day' : Int} (h0 : -9223372036854775808 ≤ day) (h1 : day ≤ day') (h2 : day' ≤ 9223372036854775807) :
    ladWhy c l day = ladWhy c l day' ∨ (ladWhy c l day = 0 ∧ ladWhy c l day' = 4) := by
  have hn := numOf_in (getOf l nIssued).1
  have hw' := wf64_in hw
  unfold ladWhy
  rw [beyond_eq (by omega) (by omega) (by omega) (by omega) (by omega) (by omega), beyond_eq (by omega) (by omega) (by omega) (by omega) (by omega) (by omega)]
  split
  · exact .inl rfl
  · split
    · exact .inl rfl
    · split
      · exact .inl rfl
      · by_cases h3 : day - (numOf (getOf l nIssued).1).1 > c.f12
        · rw [if_pos (decide_eq_true h3), if_pos (decide_eq_true (by omega))]
          exact .inl rfl
        · rw [if_neg (by simpa using h3)]
          split
          · exact .inr ⟨rfl, rfl⟩
          · exact .inl rfl
theorem fix_day {c : S33} (hw : wf64 c.f12) (d : S37) (a : Int) {day day' : Int} (h0 : -9223372036854775808 ≤ day) (h1 : day ≤ day') (h2 : day' ≤ 9223372036854775807) :
    (∀ x ∈ fixC c d a day, x.f3 ≠ 0 → x ∈ fixC c d a day') ∧ ∀ y ∈ fixC c d a day', y.f3 = 4 ∨ y ∈ fixC c d a day := by
  unfold fixC
  by_cases h3 : d.f0 = 0
  · rw [if_pos h3, if_pos h3]
    exact ⟨fun x hx _ => hx, fun y hy => .inr hy⟩
  · rw [if_neg h3, if_neg h3]
    by_cases h4 : d.f0 = 2
    · rw [if_pos h4, if_pos h4]
      rcases lad_day hw d.f3 h0 h1 h2 with h | ⟨h5, h6⟩
      · rw [h]
        exact ⟨fun x hx _ => hx, fun y hy => .inr hy⟩
      · rw [h5, h6]
        refine ⟨fun x hx h7 => ?_, fun y hy => .inl ?_⟩
        · rw [List.mem_singleton.1 hx] at h7
          exact absurd rfl h7
        · rw [List.mem_singleton.1 hy]
    · rw [if_neg h4, if_neg h4]
      exact ⟨fun x hx _ => hx, fun y hy => .inr hy⟩
theorem day_law {c : S33} (docs : List S37) (hw : wf64 c.f12) {day day' : Int} (h0 : -9223372036854775808 ≤ day) (h1 : day ≤ day') (h2 : day' ≤ 9223372036854775807) :
    (∀ x ∈ exP c docs day, x ∈ exP c docs day') ∧ ∀ y ∈ exP c docs day', y.f3 = 4 ∨ y ∈ exP c docs day := by
  refine ⟨fun x hx => ?_, fun y hy => ?_⟩
  · rw [mem_exP, mem_exC] at hx ⊢
    refine ⟨?_, hx.2⟩
    rcases hx.1 with h | h | ⟨i, hi, ha, h⟩
    · unfold expC at h ⊢
      split at h
      · rw [if_pos (by omega)]; exact .inl h
      · exact absurd h (by simp)
    · exact .inr (.inl h)
    · refine .inr (.inr ⟨i, hi, ha, ?_⟩)
      rcases h with h | h
      · exact .inl ((fix_day hw docs[i] i h0 h1 h2).1 x h hx.2)
      · exact .inr h
  · rw [mem_exP, mem_exC] at hy
    rw [mem_exP, mem_exC]
    rcases hy.1 with h | h | ⟨i, hi, ha, h⟩
    · refine .inl ?_
      unfold expC at h
      split at h
      · rw [List.mem_singleton.1 h]
      · exact absurd h (by simp)
    · exact .inr ⟨.inr (.inl h), hy.2⟩
    · rcases h with h | h
      · rcases (fix_day hw docs[i] i h0 h1 h2).2 y h with h | h
        · exact .inl h
        · exact .inr ⟨.inr (.inr ⟨i, hi, ha, .inl h⟩), hy.2⟩
      · exact .inr ⟨.inr (.inr ⟨i, hi, ha, .inr h⟩), hy.2⟩

/-! ### One need more -/
def withN (c : S33) (n : S45) : S33 := { c with f16 := c.f16 ++ [n] }
theorem asked_more {c : S33} {n : S45} (h : askedB c n.f0 = true) (k : Int) : askedB (withN c n) k = askedB c k := by
  unfold askedB withN at *
  simp only [List.any_append, List.any_cons, List.any_nil, Bool.or_false]
  by_cases hk : n.f0 = k
  · subst hk; rw [h]; rfl
  · rw [decide_eq_false hk, Bool.or_false]
theorem st_more {c : S33} {n : S45} (h : askedB c n.f0 = true) : ∀ (ds : List S37) (m : ByteArray → Option ByteArray) (i : Nat), stC (withN c n) ds m i = stC c ds m i
  | _, m, 0 => by cases ‹List S37› <;> rfl
  | [], m, _ + 1 => rfl
  | d :: ds, m, i + 1 => by rw [stC, stC, asked_more h, st_more h ds]
theorem needs_law {c : S33} (docs : List S37) (day : Int) {n : S45} (h : askedB c n.f0 = true) :
    (∀ x ∈ exP c docs day, x ∈ exP (withN c n) docs day) ∧ ∀ y ∈ exP (withN c n) docs day, y.f1 = n.f0 ∨ y ∈ exP c docs day := by
  have hn : needC docs (withN c n).f16 = needC docs c.f16 ++ needC docs [n] := List.flatMap_append ..
  have hr : ∀ d a, ruledC docs d a (withN c n).f16 = ruledC docs d a c.f16 ++ ruledC docs d a [n] := fun d a => List.flatMap_append ..
  refine ⟨fun x hx => ?_, fun y hy => ?_⟩
  · rw [mem_exP, mem_exC] at hx ⊢
    refine ⟨?_, hx.2⟩
    rcases hx.1 with h1 | h1 | ⟨i, hi, ha, h1⟩
    · exact .inl h1
    · exact .inr (.inl (by rw [hn]; exact List.mem_append_left _ h1))
    · refine .inr (.inr ⟨i, hi, by rw [asked_more h]; exact ha, ?_⟩)
      rcases h1 with h1 | h1 | h1
      · exact .inl h1
      · exact .inr (.inl (by rw [hr]; exact List.mem_append_left _ h1))
      · exact .inr (.inr (by rw [st_more h]; exact h1))
  · rw [mem_exP, mem_exC] at hy
    rw [mem_exP, mem_exC]
    rcases hy.1 with h1 | h1 | ⟨i, hi, ha, h1⟩
    · exact .inr ⟨.inl h1, hy.2⟩
    · rw [hn, List.mem_append] at h1
      rcases h1 with h1 | h1
      · exact .inr ⟨.inr (.inl h1), hy.2⟩
      · refine .inl ?_
        unfold needC at h1
        rw [List.flatMap_cons, List.flatMap_nil, List.append_nil] at h1
        split at h1
        · rw [List.mem_singleton.1 h1]
        · exact absurd h1 (by simp)
    · rw [asked_more h] at ha
      rcases h1 with h1 | h1 | h1
      · exact .inr ⟨.inr (.inr ⟨i, hi, ha, .inl h1⟩), hy.2⟩
      · rw [hr, List.mem_append] at h1
        rcases h1 with h1 | h1
        · exact .inr ⟨.inr (.inr ⟨i, hi, ha, .inr (.inl h1)⟩), hy.2⟩
        · refine .inl ?_
          unfold ruledC at h1
          rw [List.flatMap_cons, List.flatMap_nil, List.append_nil] at h1
          split at h1
          · rename_i he
            obtain ⟨p, _, rfl⟩ := List.mem_map.1 h1
            exact he.symm
          · exact absurd h1 (by simp)
      · rw [st_more h] at h1
        exact .inr ⟨.inr (.inr ⟨i, hi, ha, .inr (.inr h1)⟩), hy.2⟩
end Go.Proofs.YtcibglpbfaffgaaDoor.X

namespace Go.Proofs.YtcibglpbfaffgaaDoor.X
open Go Go.RowKit Go.Proofs.YtcibglpbfaffgaaDoorW.PrintWords Go.Proofs.YtcibglpbfaffgaaDoorW.PrintLast Go.Proofs.YtcibglpbfaffgaaDoorW.PrintMore
set_option linter.unusedVariables false

theorem awakeC (w : World) (hG : Glob w) : Calls Tryd.prog 11 #[] w fun e w' => e = .returned (.bool true) ∧ Below w.heap.size w w' := awake11 w hG
theorem fewC (c : S33) (A : Option Addr) (n : Nat) (docs : List S37) (A1 : Option Addr) (n1 : Nat) (w : World) (b : Bool) (hC : Kd.C k45 w A c.f16.length c.f16) (hCn : c.f16.length ≤ n) (hD : Kd.C k37 w A1 docs.length docs) (hDn : docs.length ≤ n1) (h : Ev (fewK c docs) b) :
    Calls Tryd.prog 14 #[.agg (cc c A n), .slice A1 docs.length n1] w fun e w' => e = .returned (.bool b) ∧ Below w.heap.size w w' := by
  obtain ⟨k, hk⟩ := h.get
  exact supercargoref31_Few.calls k c.f0 c.f1 c.f2 c.f3 c.f4 c.f5 c.f6 c.f7.f0 c.f7.f1 c.f8 c.f9 c.f10 c.f11 c.f12 c.f13 c.f14 c.f15 A n c.f16 A1 n1 docs b w hC hCn hD hDn hk
theorem examC (c : S33) (A : Option Addr) (n : Nat) (docs : List S37) (A1 : Option Addr) (n1 : Nat) (day : Int) (r : List S25) (w : World) (hC : Kd.C k45 w A c.f16.length c.f16) (hCn : c.f16.length ≤ n) (hD : Kd.C k37 w A1 docs.length docs) (hDn : docs.length ≤ n1) (hG : Glob w) (h : Ev (fun k => exF k c docs day) r) :
    Calls Tryd.prog 18 #[.agg (cc c A n), .slice A1 docs.length n1, .int .i64 day] w fun e w' => ∃ Ar cr, e = .returned (.slice Ar r.length cr) ∧ r.length ≤ cr ∧ Kd.C k25 w' Ar r.length r ∧ Below w.heap.size w w' := by
  obtain ⟨k, hk⟩ := h.get
  refine (examine18 k c A n docs A1 n1 day r w hC hCn hD hDn hG hk).mono ?_
  rintro e w' ⟨v0, rfl, ho, hb⟩
  obtain ⟨Ar, cr, rfl, hle, hR⟩ := Kd.R_reads (own_R25 ho)
  exact ⟨Ar, cr, rfl, hle, hR, hb⟩
/-- A load of a whole row, wherever it may come up. -/
theorem ldRow {P : Program} {o : Oper} {a : Act} {w : World} (ty : TypeId) (x : Operand) (ho : o.op = .load ty x) (g : Nat) (hx : a.eval x = .pointer (some ⟨g, 0, none⟩)) (t : TypeId) (cs : Array Value) (fr : Nat × Nat) (d : TypeDesc) (hg : w.heap[g]? = some (.cells cs t fr))
    (hu : P.underlying ty = some d) (hd : (match d with | .struct _ | .array _ _ => true | _ => false) = true) (hi : (P.info? ty).map (·.size) = some cs.size) : (execOp a.eval o).run P w = .ok (.value (.agg cs)) w := by
  unfold execOp
  simp only [ho, hx, Instr.loadAt, Instr.sureAddr, Sem.run_bind, Sem.run_pure, Result.andThen_ok, run_loadVar_row w g t ty cs fr d hg hu hd hi]
theorem info33 : ∀ (c : S33) (A : Option Addr) (n : Nat), (Tryd.prog.info? 33).map (·.size) = some (cc c A n).size := fun _ _ _ => by kernel_rfl
theorem rd25 {l : List S25} {j : Nat} (h : j < l.length) : rd_T25 l (j : Int) = l[j] := by simp [rd_T25, List.getD_eq_getElem?_getD, h]
theorem at25 {w : World} {A : Option Addr} {xs : List S25} (h : Kd.C k25 w A xs.length xs) {j : Nat} (hj : j < xs.length) : ∃ ad, A = some ad ∧ w.cell? (ad.add (j * 4)) = some (.int .i64 xs[j].f0) ∧ w.cell? ⟨(ad.add (j * 4)).block, (ad.add (j * 4)).off + 1, none⟩ = some (.int .i64 xs[j].f1) ∧
    w.cell? ⟨(ad.add (j * 4)).block, (ad.add (j * 4)).off + 2, none⟩ = some (.string xs[j].f2) ∧ w.cell? ⟨(ad.add (j * 4)).block, (ad.add (j * 4)).off + 3, none⟩ = some (.int .i64 xs[j].f3) := by
  have h1 := at_T25 h (j : Int) (by omega) (by omega)
  rw [rd25 hj] at h1
  simp only [Int.toNat_natCast] at h1
  exact h1
theorem tl_inj {a b : ByteArray} (h : a.toList = b.toList) : a = b := by
  rw [ByteArray.toList_eq, ByteArray.toList_eq] at h
  obtain ⟨⟨a⟩⟩ := a
  obtain ⟨⟨b⟩⟩ := b
  have : a = b := h
  rw [this]
/-- Two faults compared, as one word that the walk leaves alone. -/
def eqB (x0 x1 : Int) (x2 : ByteArray) (x3 : Int) (y0 y1 : Int) (y2 : ByteArray) (y3 : Int) : Bool := decide ((⟨x0, x1, x2, x3⟩ : S25) = ⟨y0, y1, y2, y3⟩)
theorem eqB_is (x y : S25) : eqB x.f0 x.f1 x.f2 x.f3 y.f0 y.f1 y.f2 y.f3 = decide (x = y) := rfl
theorem eqA25o (d : Nat) (w : World) (x0 y0 : Int) (x1 y1 : Int) (x2 y2 : ByteArray) (x3 y3 : Int) :
    (Op.equalIn (d + 2) 25 (.agg #[.int .i64 x0, .int .i64 x1, .string x2, .int .i64 x3]) (.agg #[.int .i64 y0, .int .i64 y1, .string y2, .int .i64 y3])).run Tryd.prog w = .ok (eqB x0 x1 x2 x3 y0 y1 y2 y3) w := by
  rw [eqA25]
  congr 1
  rw [Bool.eq_iff_iff]
  unfold eqB
  rw [decide_eq_true_iff]
  simp only [Bool.and_eq_true, beq_iff_eq]
  constructor
  · rintro ⟨rfl, rfl, h2, rfl⟩
    rw [tl_inj h2]
  · intro h
    injection h with h0 h1 h2 h3
    subst h0 h1 h2 h3
    exact ⟨rfl, rfl, rfl, rfl⟩
end Go.Proofs.YtcibglpbfaffgaaDoor.X

namespace Go.Proofs.YtcibglpbfaffgaaDoor.X
open Go Go.RowKit Go.Proofs.YtcibglpbfaffgaaDoorW.PrintWords Go.Proofs.YtcibglpbfaffgaaDoorW.PrintLast Go.Proofs.YtcibglpbfaffgaaDoorW.PrintMore
set_option linter.unusedVariables false
set_option linter.unusedSimpArgs false
attribute [local go_sem high] eqA25o
theorem mem_take_succ (x : S25) {l : List S25} {q : Nat} (h : q < l.length) : decide (x ∈ l.take (q + 1)) = (decide (x ∈ l.take q) || decide (x = l[q])) := by
  rw [Bool.eq_iff_iff, Bool.or_eq_true, decide_eq_true_iff, decide_eq_true_iff, decide_eq_true_iff, List.take_succ_eq_append_getElem h, List.mem_append, List.mem_singleton]
def dayOut (day later : Int) (bf : Bool) : Bool := !bf || (decide (day < -1073741824) || (decide (day > 1073741824) || (decide (later < 0) || decide (later > 1073741824))))
set_option maxHeartbeats 8000000 in
set_option maxRecDepth 100000 in
theorem day5 (c : S33) (A : Option Addr) (n : Nat) (docs : List S37) (A1 : Option Addr) (n1 : Nat) (day later : Int) (bf : Bool) (a b : List S25) (w : World)
    (hC : Kd.C k45 w A c.f16.length c.f16) (hCn : c.f16.length ≤ n) (hD : Kd.C k37 w A1 docs.length docs) (hDn : docs.length ≤ n1) (hG : Glob w) (hf : Ev (fewK c docs) bf)
    (ha : dayOut day later bf = false → Ev (fun k => exF k c docs day) a ∧ Ev (fun k => exF k c docs (day + later)) b ∧ (∀ x ∈ a, x ∈ b) ∧ ∀ y ∈ b, y.f3 = 4 ∨ y ∈ a) :
    Calls Tryd.prog 5 #[.agg (cc c A n), .slice A1 docs.length n1, .int .i64 day, .int .i64 later] w fun e w' => e = .returned (.bool true) ∧ Below w.heap.size w w' := by
  have hu33 := Tryd.underlying33
  have hu25 := Tryd.underlying25
  have HC := Aside0.mk hC
  have HCN := Aside0.mk hCn
  have HD := Aside0.mk hD
  have HDN := Aside0.mk hDn
  have HG := Aside0.mk hG
  have HF := Aside0.mk hf
  have HA := Aside0.mk ha
  clear hC hCn hD hDn hG hf ha
  obtain ⟨g, hgd⟩ : ∃ g, g = dayOut day later bf := ⟨_, rfl⟩
  have HGD := Aside0.mk hgd
  clear hgd
  unfold cc
  go_enter Tryd.func5, Tryd.ntmps5
  go_upto_region 3 with (go_at_call 11; refine (awakeC _ (Glob_alloc HG.out)).mono ?_; rintro e w1 ⟨rfl, hb1⟩)
  have HB1 := Aside0.mk ((below_alloc (Below.refl w.heap.size w) _).trans (hb1.mono (by simp)))
  have CB1 := Aside0.mk (blk_below (heap_alloc_new w _) hb1)
  clear hb1
  go_cut [38] (fun v wx => v = .bool g ∧ Aside0 (Below w.heap.size w wx) ∧ Aside0 (wx.heap[w.heap.size]? = some (.cells (cc c A n) 33 (0, 0))))
  case first =>
    have RF := Aside0.mk (fewC c A n docs A1 n1 w1 bf (Kd.C_below HC.out HB1.out) HCN.out (Kd.C_below HD.out HB1.out) HDN.out HF.out)
    unfold cc at RF
    cases bf with
    | false =>
      have FX := Aside0.mk (show dayOut day later false = true from rfl)
      go_wp2_with (first | (refine wpList_load_row rfl 33 _ rfl w.heap.size rfl 33 _ (0, 0) _ CB1.out hu33 rfl (by kernel_rfl) ?_) | (go_at_call 14; refine RF.out.mono ?_; rintro e w2 ⟨rfl, hb2⟩))
      go_meet
      exact ⟨by rw [HGD.out, FX.out], ⟨HB1.out.trans (hb2.mono HB1.out.size)⟩, ⟨blk_below CB1.out hb2⟩⟩
    | true =>
      by_cases k0 : day < -1073741824
      · have k0b : decide (day < -1073741824) = true := decide_eq_true k0
        have FX := Aside0.mk (show dayOut day later true = true by simp [dayOut, k0])
        clear k0
        go_wp2_with (first | (refine wpList_load_row rfl 33 _ rfl w.heap.size rfl 33 _ (0, 0) _ CB1.out hu33 rfl (by kernel_rfl) ?_) | (go_at_call 14; refine RF.out.mono ?_; rintro e w2 ⟨rfl, hb2⟩))
        go_meet
        exact ⟨by rw [HGD.out, FX.out], ⟨HB1.out.trans (hb2.mono HB1.out.size)⟩, ⟨blk_below CB1.out hb2⟩⟩
      · have k0b : decide (day < -1073741824) = false := decide_eq_false k0
        by_cases k1 : day > 1073741824
        · have k1b : decide (1073741824 < day) = true := decide_eq_true k1
          have FX := Aside0.mk (show dayOut day later true = true by simp [dayOut, k0, k1])
          clear k0 k1
          go_wp2_with (first | (refine wpList_load_row rfl 33 _ rfl w.heap.size rfl 33 _ (0, 0) _ CB1.out hu33 rfl (by kernel_rfl) ?_) | (go_at_call 14; refine RF.out.mono ?_; rintro e w2 ⟨rfl, hb2⟩))
          go_meet
          exact ⟨by rw [HGD.out, FX.out], ⟨HB1.out.trans (hb2.mono HB1.out.size)⟩, ⟨blk_below CB1.out hb2⟩⟩
        · have k1b : decide (1073741824 < day) = false := decide_eq_false k1
          by_cases k2 : later < 0
          · have k2b : decide (later < 0) = true := decide_eq_true k2
            have FX := Aside0.mk (show dayOut day later true = true by simp [dayOut, k0, k1, k2])
            clear k0 k1 k2
            go_wp2_with (first | (refine wpList_load_row rfl 33 _ rfl w.heap.size rfl 33 _ (0, 0) _ CB1.out hu33 rfl (by kernel_rfl) ?_) | (go_at_call 14; refine RF.out.mono ?_; rintro e w2 ⟨rfl, hb2⟩))
            go_meet
            exact ⟨by rw [HGD.out, FX.out], ⟨HB1.out.trans (hb2.mono HB1.out.size)⟩, ⟨blk_below CB1.out hb2⟩⟩
          · have k2b : decide (later < 0) = false := decide_eq_false k2
            by_cases k3 : later > 1073741824
            · have k3b : decide (1073741824 < later) = true := decide_eq_true k3
              have FX := Aside0.mk (show dayOut day later true = true by simp [dayOut, k0, k1, k2, k3])
              clear k0 k1 k2 k3
              go_wp2_with (first | (refine wpList_load_row rfl 33 _ rfl w.heap.size rfl 33 _ (0, 0) _ CB1.out hu33 rfl (by kernel_rfl) ?_) | (go_at_call 14; refine RF.out.mono ?_; rintro e w2 ⟨rfl, hb2⟩))
              go_meet
              exact ⟨by rw [HGD.out, FX.out], ⟨HB1.out.trans (hb2.mono HB1.out.size)⟩, ⟨blk_below CB1.out hb2⟩⟩
            · have k3b : decide (1073741824 < later) = false := decide_eq_false k3
              have FX := Aside0.mk (show dayOut day later true = false by simp [dayOut, k0, k1, k2, k3])
              clear k0 k1 k2 k3
              go_wp2_with (first | (refine wpList_load_row rfl 33 _ rfl w.heap.size rfl 33 _ (0, 0) _ CB1.out hu33 rfl (by kernel_rfl) ?_) | (go_at_call 14; refine RF.out.mono ?_; rintro e w2 ⟨rfl, hb2⟩))
              go_meet
              exact ⟨by rw [HGD.out, FX.out], ⟨HB1.out.trans (hb2.mono HB1.out.size)⟩, ⟨blk_below CB1.out hb2⟩⟩
  case rest =>
    obtain ⟨rfl, HB, CB⟩ := hcut
    cases g with
    | true =>
      go_wp2
      go_ret
      exact ⟨rfl, HB.out⟩
    | false =>
      have hl0 : -1073741824 ≤ day ∧ day ≤ 1073741824 ∧ 0 ≤ later ∧ later ≤ 1073741824 := by
        have := HGD.out.symm
        simp [dayOut] at this
        omega
      have HL0 := Aside0.mk hl0
      obtain ⟨ea, eb, hab, hba⟩ := HA.out HGD.out.symm
      have EA := Aside0.mk ea
      have hw := w64i (n := day + later) (by have := HL0.out; omega) (by have := HL0.out; omega)
      rw [← hw] at eb
      clear hw
      have EB := Aside0.mk eb
      have HAB := Aside0.mk hab
      have HBA := Aside0.mk hba
      clear ea eb hab hba HA
      obtain ⟨l0, l1, l2, l3⟩ := hl0
      go_wp2
      refine start_ (n := 12) (S := fun w' => w'.heap[w.heap.size]? = some (.cells (cc c A n) 33 (0, 0))) (ds := []) #[false, false, false, false, false, false, false, false, false, false, false, false] (by kernel_rfl) rfl rfl (blk_drew CB.out) (fun hHeld => ?_)
      have HB1 := Aside0.mk (below_drew1 HB.out)
      have CB1 := Aside0.mk (blk_drew CB.out)
      clear HB CB
      generalize wc.drew = w2 at HB1 CB1 hHeld ⊢
      refine pure_ (i := 1) (N := some 40) (v := ?_) (a' := ?_) #[false, true, false, false, false, false, false, false, false, false, false, false] rfl rfl (by kernel_rfl) (fun _ _ _ h => h) (Or.inl ⟨by rfl, ?_⟩) ?_ ?_
      rotate_left
      · intro w'
        go_simp
        with_reducible rfl
      rotate_left
      · simp only [Act.put, List.setIfInBounds_toArray, List.set_cons_zero, List.set_cons_succ, i64_w, i32_w]
        rfl
      refine pure_ (i := 2) (N := some 41) (v := ?_) (a' := ?_) #[false, true, true, false, false, false, false, false, false, false, false, false] rfl rfl (by kernel_rfl) (fun _ _ _ h => h) (Or.inl ⟨by rfl, ?_⟩) ?_ ?_
      rotate_left
      · intro w'
        go_simp
        with_reducible rfl
      rotate_left
      · simp only [Act.put, List.setIfInBounds_toArray, List.set_cons_zero, List.set_cons_succ, i64_w, i32_w]
        rfl
      refine pure_ (i := 5) (N := some 44) (v := ?_) (a' := ?_) #[false, true, true, false, false, true, false, false, false, false, false, false] rfl rfl (by kernel_rfl) (fun _ _ _ h => h) (Or.inl ⟨by rfl, ?_⟩) ?_ ?_
      rotate_left
      · intro w'
        go_simp
        with_reducible rfl
      rotate_left
      · simp only [Act.put, List.setIfInBounds_toArray, List.set_cons_zero, List.set_cons_succ, i64_w, i32_w]
        rfl
      refine pure_ (i := 6) (N := some 45) (v := ?_) (a' := ?_) #[false, true, true, false, false, true, true, false, false, false, false, false] rfl rfl (by kernel_rfl) (fun _ _ _ h => h) (Or.inl ⟨by rfl, ?_⟩) ?_ ?_
      rotate_left
      · intro w'
        go_simp
        with_reducible rfl
      rotate_left
      · simp only [Act.put, List.setIfInBounds_toArray, List.set_cons_zero, List.set_cons_succ, i64_w, i32_w]
        rfl
      refine pure_ (i := 7) (N := some 46) (v := ?_) (a' := ?_) #[false, true, true, false, false, true, true, true, false, false, false, false] rfl rfl (by kernel_rfl) (fun _ _ _ h => h) (Or.inl ⟨by rfl, ?_⟩) ?_ ?_
      rotate_left
      · intro w'
        go_simp
        with_reducible rfl
      rotate_left
      · simp only [Act.put, List.setIfInBounds_toArray, List.set_cons_zero, List.set_cons_succ, i64_w, i32_w]
        rfl
      refine pure_ (i := 8) (N := some 47) (v := ?_) (a' := ?_) #[false, true, true, false, false, true, true, true, true, false, false, false] rfl rfl (by kernel_rfl) (fun _ _ _ h => h) (Or.inl ⟨by rfl, ?_⟩) ?_ ?_
      rotate_left
      · intro w'
        go_simp
        with_reducible rfl
      rotate_left
      · simp only [Act.put, List.setIfInBounds_toArray, List.set_cons_zero, List.set_cons_succ, i64_w, i32_w]
        rfl
      refine take_ (i := 0) (N := some 39) (v := .agg (cc c A n)) (a' := ?_) #[true, true, true, false, false, true, true, true, true, false, false, false] rfl rfl (by kernel_rfl) (fun _ _ _ h => h) (Or.inl ⟨by rfl, fun w' hs => ldRow 33 _ rfl w.heap.size rfl 33 _ (0, 0) _ hs hu33 rfl (by kernel_rfl)⟩) hHeld ?_ ?_
      rotate_left
      · simp only [Act.put, List.setIfInBounds_toArray, List.set_cons_zero, List.set_cons_succ, i64_w, i32_w]
        rfl
      refine take_ (i := 4) (N := some 43) (v := .agg (cc c A n)) (a' := ?_) #[true, true, true, false, true, true, true, true, true, false, false, false] rfl rfl (by kernel_rfl) (fun _ _ _ h => h) (Or.inl ⟨by rfl, fun w' hs => ldRow 33 _ rfl w.heap.size rfl 33 _ (0, 0) _ hs hu33 rfl (by kernel_rfl)⟩) hHeld ?_ ?_
      rotate_left
      · simp only [Act.put, List.setIfInBounds_toArray, List.set_cons_zero, List.set_cons_succ, i64_w, i32_w]
        rfl
      refine one_ (i := 3) (N := some 42) #[true, true, true, true, true, true, true, true, true, false, false, false] rfl rfl (by kernel_rfl) (by decide) (fun K hK => ?_)
      refine goes_ Tryd.func18 (by kernel_rfl) rfl #[.agg (cc c A n), .slice A1 docs.length n1, .int .i64 day] (by rfl) rfl rfl (by simp only [List.map_toArray, List.map_cons, List.map_nil]; rfl) ?_
      refine (examC c A n docs A1 n1 day a w2 (Kd.C_below HC.out HB1.out) HCN.out (Kd.C_below HD.out HB1.out) HDN.out (Glob_below HG.out HB1.out) EA.out).mono ?_
      rintro e w3 ⟨Aa, ca, rfl, hla, hRa, hb3⟩
      refine ⟨_, rfl, ?_⟩
      have HB3 := Aside0.mk (HB1.out.trans (hb3.mono HB1.out.size))
      have CB3 := Aside0.mk (blk_below CB1.out hb3)
      have RA := Aside0.mk hRa
      have HLA := Aside0.mk hla
      clear hb3 hRa hla
      refine hK.out _ _ CB3.out (fun hHeld => ?_)
      clear hK K
      refine norm_ (a' := ?_) ?_ ?_
      rotate_left
      · show Act.put _ (some 42) _ = _
        simp only [Act.put, List.setIfInBounds_toArray, List.set_cons_zero, List.set_cons_succ, i64_w, i32_w]
        rfl
      refine one_ (i := 9) (N := some 48) #[true, true, true, true, true, true, true, true, true, true, false, false] rfl rfl (by kernel_rfl) (by decide) (fun K hK => ?_)
      refine goes_ Tryd.func18 (by kernel_rfl) rfl #[.agg (cc c A n), .slice A1 docs.length n1, .int .i64 (wrap64 (day + later))] (by rfl) rfl rfl (by simp only [List.map_toArray, List.map_cons, List.map_nil]; rfl) ?_
      refine (examC c A n docs A1 n1 (wrap64 (day + later)) b w3 (Kd.C_below HC.out HB3.out) HCN.out (Kd.C_below HD.out HB3.out) HDN.out (Glob_below HG.out HB3.out) EB.out).mono ?_
      rintro e w4 ⟨Ab, cb, rfl, hlb, hRb, hb4⟩
      refine ⟨_, rfl, ?_⟩
      have HB4 := Aside0.mk (HB3.out.trans (hb4.mono HB3.out.size))
      have CB4 := Aside0.mk (blk_below CB3.out hb4)
      have RB := Aside0.mk hRb
      have RA4 := Aside0.mk (Kd.C_below RA.out hb4)
      have HLB := Aside0.mk hlb
      clear hb4 hRb hlb
      refine hK.out _ _ CB4.out (fun hHeld => ?_)
      clear hK K
      refine norm_ (a' := ?_) ?_ ?_
      rotate_left
      · show Act.put _ (some 48) _ = _
        simp only [Act.put, List.setIfInBounds_toArray, List.set_cons_zero, List.set_cons_succ, i64_w, i32_w]
        rfl
      refine pure_ (i := 10) (N := some 9) (v := ?_) (a' := ?_) #[true, true, true, true, true, true, true, true, true, true, true, false] rfl rfl (by kernel_rfl) (fun _ _ _ h => h) (Or.inl ⟨by rfl, ?_⟩) ?_ ?_
      rotate_left
      · intro w'
        go_simp
        with_reducible rfl
      rotate_left
      · simp only [Act.put, List.setIfInBounds_toArray, List.set_cons_zero, List.set_cons_succ, i64_w, i32_w]
        rfl
      refine pure_ (i := 11) (N := some 10) (v := ?_) (a' := ?_) #[true, true, true, true, true, true, true, true, true, true, true, true] rfl rfl (by kernel_rfl) (fun _ _ _ h => h) (Or.inl ⟨by rfl, ?_⟩) ?_ ?_
      rotate_left
      · intro w'
        go_simp
        with_reducible rfl
      rotate_left
      · simp only [Act.put, List.setIfInBounds_toArray, List.set_cons_zero, List.set_cons_succ, i64_w, i32_w]
        rfl
      refine done_ (by kernel_rfl) ?_
      clear HB1 CB1 HB3 CB3 CB4 RA
      have hma : a.length ≤ 9223372036854775807 := RA4.out.2.1
      have hmb : b.length ≤ 9223372036854775807 := RB.out.2.1
      clear l0 l1 l2 l3
      go_wp2
      go_loopw [11] (fun i wr => ∃ j : Nat, j ≤ a.length ∧ i = .int .i64 j ∧ Aside0 (Below w.heap.size w wr) ∧ Aside0 (Kd.C k25 wr Aa a.length a) ∧ Aside0 (Kd.C k25 wr Ab b.length b)) (fun i _ => a.length - (intOf i).toNat)
      case atStart => exact ⟨0, Nat.zero_le _, rfl, HB4, RA4, RB⟩
      case round =>
        obtain ⟨j, hj, rfl, HBr, RAr, RBr⟩ := hrel
        clear HB4 RA4 RB
        by_cases hlt : j < a.length
        · go_wp2
          obtain ⟨wo, rfl⟩ : ∃ wo : World, wo = wr := ⟨_, rfl⟩
          go_loopw [12, 13] (fun f i wr => ∃ (q : Nat) (fb : Bool), q ≤ b.length ∧ i = .int .i64 q ∧ f = .bool fb ∧ Aside0 (fb = decide (a[j] ∈ b.take q)) ∧ Aside0 (Below w.heap.size w wr) ∧ Aside0 (Kd.C k25 wr Aa a.length a) ∧ Aside0 (Kd.C k25 wr Ab b.length b)) (fun _ i _ => b.length - (intOf i).toNat)
          case atStart => exact ⟨0, false, Nat.zero_le _, rfl, rfl, ⟨by simp⟩, HBr, RAr, RBr⟩
          case round =>
            obtain ⟨q, fb, hq, rfl, rfl, HFB, HBq, RAq, RBq⟩ := hrel
            by_cases hqt : q < b.length
            · obtain ⟨ad, e, p0, p1, p2, p3⟩ := at25 RAq.out hlt
              subst e
              obtain ⟨bd, e, q0, q1, q2, q3⟩ := at25 RBq.out hqt
              subst e
              have hE := eqB_is a[j] b[q]
              have HS := Aside0.mk (mem_take_succ a[j] hqt)
              obtain ⟨x, hx⟩ : ∃ x, x = a[j] := ⟨_, rfl⟩
              obtain ⟨y, hy⟩ : ∃ y, y = b[q] := ⟨_, rfl⟩
              rw [← hx] at p0 p1 p2 p3 hE HFB HS
              rw [← hy] at q0 q1 q2 q3 hE HS
              have HX := Aside0.mk hx
              clear hx hy
              obtain ⟨eb, heb⟩ : ∃ eb, eb = decide (x = y) := ⟨_, rfl⟩
              rw [← heb] at hE HS
              clear heb
              cases fb with
              | true =>
                go_wp2
                go_quiet (fail)
                go_wp2
                go_roundw
                case rel => exact ⟨q + 1, true, by omega, by go_num, rfl, ⟨by rw [← HX.out, HS.out, ← HFB.out]; rfl⟩, ⟨pw_below_drewN HBq.out _⟩, ⟨Kd.C_drewN RAq.out _⟩, ⟨Kd.C_drewN RBq.out _⟩⟩
                case measure => simp [intOf]; omega
              | false =>
                go_wp2
                go_quiet (fail)
                go_wp2
                go_roundw
                case rel => exact ⟨q + 1, eb, by omega, by go_num, rfl, ⟨by rw [← HX.out, HS.out, ← HFB.out]; rfl⟩, ⟨pw_below_drewN HBq.out _⟩, ⟨Kd.C_drewN RAq.out _⟩, ⟨Kd.C_drewN RBq.out _⟩⟩
                case measure => simp [intOf]; omega
            · have hqe : q = b.length := by omega
              subst hqe
              have hft : fb = true := by rw [HFB.out, List.take_length]; exact decide_eq_true (HAB.out _ (List.getElem_mem hlt))
              subst hft
              clear hqt HFB
              go_wp2
              go_roundw
              case rel => exact ⟨j + 1, by omega, by go_num, HBq, RAq, RBq⟩
              case measure => simp [intOf]; omega
        · have hje : j = a.length := by omega
          subst hje
          clear hlt hj HAB
          go_wp2
          go_loopw [14] (fun i wr => ∃ j : Nat, j ≤ b.length ∧ i = .int .i64 j ∧ Aside0 (Below w.heap.size w wr) ∧ Aside0 (Kd.C k25 wr Aa a.length a) ∧ Aside0 (Kd.C k25 wr Ab b.length b)) (fun i _ => b.length - (intOf i).toNat)
          case atStart => exact ⟨0, Nat.zero_le _, rfl, HBr, RAr, RBr⟩
          case round =>
            clear HBr RAr RBr
            obtain ⟨j, hj, rfl, HBr, RAr, RBr⟩ := hrel
            by_cases hlt : j < b.length
            · obtain ⟨bd, e, q0, q1, q2, q3⟩ := at25 RBr.out hlt
              subst e
              obtain ⟨y, hy⟩ : ∃ y, y = b[j] := ⟨_, rfl⟩
              rw [← hy] at q0 q1 q2 q3
              have HY := Aside0.mk hy
              clear hy
              go_wp2
              obtain ⟨wo, rfl⟩ : ∃ wo : World, wo = wr := ⟨_, rfl⟩
              clear q0 q1 q2 q3
              go_loopw [15, 16] (fun f i wr => ∃ (q : Nat) (fb : Bool), q ≤ a.length ∧ i = .int .i64 q ∧ f = .bool fb ∧ Aside0 (fb = (decide (y.f3 = 4) || decide (y ∈ a.take q))) ∧ Aside0 (Below w.heap.size w wr) ∧ Aside0 (Kd.C k25 wr Aa a.length a) ∧ Aside0 (Kd.C k25 wr (some bd) b.length b)) (fun _ i _ => a.length - (intOf i).toNat)
              case atStart => exact ⟨0, decide (y.f3 = 4), Nat.zero_le _, rfl, by first | rfl | (congr 1; simp), ⟨by simp⟩, HBr, RAr, RBr⟩
              case round =>
                obtain ⟨q, fb, hq, rfl, rfl, HFB, HBq, RAq, RBq⟩ := hrel
                by_cases hqt : q < a.length
                · obtain ⟨ad, e, p0, p1, p2, p3⟩ := at25 RAq.out hqt
                  subst e
                  obtain ⟨bd', e, q0, q1, q2, q3⟩ := at25 RBq.out hlt
                  obtain rfl : bd = bd' := by injection e
                  have hE := eqB_is a[q] b[j]
                  have HS := Aside0.mk (mem_take_succ y hqt)
                  obtain ⟨x, hx⟩ : ∃ x, x = a[q] := ⟨_, rfl⟩
                  rw [← hx] at p0 p1 p2 p3 hE HS
                  rw [← HY.out] at q0 q1 q2 q3 hE
                  obtain ⟨eb, heb⟩ : ∃ eb, eb = decide (x = y) := ⟨_, rfl⟩
                  have heb2 : decide (y = x) = eb := by rw [heb]; exact decide_eq_decide.2 ⟨Eq.symm, Eq.symm⟩
                  have HS2 := Aside0.mk HS.out
                  rw [heb2] at HS2
                  rw [← heb] at hE
                  clear heb heb2 HS hx
                  cases fb with
                  | true =>
                    go_wp2
                    go_quiet (fail)
                    go_wp2
                    go_roundw
                    case rel => exact ⟨q + 1, true, by omega, by go_num, rfl, ⟨by rw [HS2.out, ← Bool.or_assoc, ← HFB.out]; rfl⟩, ⟨pw_below_drewN HBq.out _⟩, ⟨Kd.C_drewN RAq.out _⟩, ⟨Kd.C_drewN RBq.out _⟩⟩
                    case measure => simp [intOf]; omega
                  | false =>
                    go_wp2
                    go_quiet (fail)
                    go_wp2
                    go_roundw
                    case rel => exact ⟨q + 1, eb, by omega, by go_num, rfl, ⟨by rw [HS2.out, ← Bool.or_assoc, ← HFB.out]; rfl⟩, ⟨pw_below_drewN HBq.out _⟩, ⟨Kd.C_drewN RAq.out _⟩, ⟨Kd.C_drewN RBq.out _⟩⟩
                    case measure => simp [intOf]; omega
                · have hqe : q = a.length := by omega
                  subst hqe
                  have hft : fb = true := by
                    rw [HFB.out, List.take_length, HY.out, Bool.or_eq_true, decide_eq_true_iff, decide_eq_true_iff]
                    exact HBA.out _ (List.getElem_mem hlt)
                  subst hft
                  clear hqt HFB
                  go_wp2
                  go_roundw
                  case rel => exact ⟨j + 1, by omega, by go_num, HBq, RAq, RBq⟩
                  case measure => simp [intOf]; omega
            · go_wp2
              go_ret
              exact ⟨rfl, HBr.out⟩
end Go.Proofs.YtcibglpbfaffgaaDoor.X

namespace Go.Proofs.YtcibglpbfaffgaaDoor.X
open Go Go.RowKit Go.Proofs.YtcibglpbfaffgaaDoorW.PrintWords Go.Proofs.YtcibglpbfaffgaaDoorW.PrintLast Go.Proofs.YtcibglpbfaffgaaDoorW.PrintMore
theorem day_calls {w : World} (c : S33) (A : Option Addr) (n : Nat) (hCn : c.f16.length ≤ n) (hC : Kd.C k45 w A c.f16.length c.f16) (O0 : Ok33 c) (docs : List S37) (A1 : Option Addr) (n1 : Nat) (hDn : docs.length ≤ n1) (hD : Kd.C k37 w A1 docs.length docs) (O1 : OkDs docs)
    (day : Int) (_O2 : wf64 day) (later : Int) (_O3 : wf64 later) (hG : Glob w) :
    Calls Tryd.prog 5 #[.agg (cc c A n), .slice A1 docs.length n1, .int .i64 day, .int .i64 later] w fun e w' => e = .returned (.bool true) ∧ Below w.heap.size w w' := by
  obtain ⟨bf, hf, hfew⟩ := few_ev O0 O1
  refine day5 c A n docs A1 n1 day later bf (exP c docs day) (exP c docs (day + later)) w hC hCn hD hDn hG hf fun ho => ?_
  have hb : bf = true := by
    cases bf with
    | true => rfl
    | false => simp [dayOut] at ho
  subst hb
  have hl : -1073741824 ≤ day ∧ day ≤ 1073741824 ∧ 0 ≤ later ∧ later ≤ 1073741824 := by
    simp [dayOut] at ho
    omega
  have hF := hfew rfl
  have hlaw := day_law docs O0.ints.2.2.2.2.2.1 (day := day) (day' := day + later) (by omega) (by omega) (by omega)
  exact ⟨exF_ev c docs day hF.mid (wf_of O0 O1), exF_ev c docs (day + later) hF.mid (wf_of O0 O1), hlaw.1, hlaw.2⟩
end Go.Proofs.YtcibglpbfaffgaaDoor.X

namespace Go.Proofs.YtcibglpbfaffgaaDoor.X
open Go Go.ChangeShapes Go.WideShapes Go.ChangeAt Go.RowKit Go.Proofs.YtcibglpbfaffgaaDoorW.PrintWords Go.Proofs.YtcibglpbfaffgaaDoorW.PrintLast Go.Proofs.YtcibglpbfaffgaaDoorW.PrintMore
set_option linter.unusedVariables false
set_option linter.unusedSimpArgs false

set_option maxRecDepth 100000 in
theorem examineDay_lifted (os : Os) (started : os.Started) (H : Type) (enc : TypeId × Value → H) :
    ReturnsInHanded {} Tryd.checked os 5 .any (fun w args => (Rows.examineDaySpec.pre enc Tryd.prog Tryd.f5 [] false w args ∧ laidMetH Tryd.prog laidL w) ∧ sizedMet enc Tryd.prog Tryd.f5 (OpenSpec.ofChange Rows.examineDaySpec) false w args)
      (Rows.examineDaySpec.post enc Tryd.prog Tryd.f5 false true false false) := by
  refine returnsInHanded_of_change_and_shaped (C := Tryd.checked) (X := fun w _ => laidMetH Tryd.prog laidL w) (fun _ _ _ hh h => h.of_heap hh) own started (by kernel_rfl) Tryd.func5
    (ChangeSpec.witness_shaped (enc := enc) (C := Tryd.checked) (os := os) (X := fun w _ => laidMetH Tryd.prog laidL w) false (World.doorLaid Tryd.prog 67 os) #[.agg #[.string ⟨#[]⟩, .string ⟨#[]⟩, .string ⟨#[]⟩, .string ⟨#[]⟩, .string ⟨#[]⟩, .string ⟨#[]⟩, .string ⟨#[]⟩, .string ⟨#[]⟩, .int .i64 0, .int .i64 0, .int .i64 0, .int .i64 0, .int .i64 0, .int .i64 0, .int .i64 0, .bool false, .bool false, .slice none 0 0], .slice none 0 0, .int .i64 0, .int .i64 0] 8 rfl (World.shaped_of_RefB (by kernel_rfl) (by kernel_rfl)) (by kernel_rfl) (by kernel_rfl) (by kernel_rfl) (door_met os _)) ?_
  intro W base args ds gs before hval0 hW hcnd hwt hL hsh _
  have hval : ∀ (j : Nat) t v, Tryd.f5.params[j]? = some t → args[j]? = some v → Value.okWide Tryd.prog W .any base t v := hval0
  have hW' := hW
  obtain ⟨p, q, hA0, hV, rfl, hfz, hnd⟩ := hW
  have hA : DataW.TrodAll enc Tryd.prog W 0 (fun _ => true) true Tryd.f5.params.toList args.toList ds p := hA0
  have hwt' : (DataW.weightsEach Tryd.prog (Tryd.f5.params.toList ++ Rows.examineDaySpec.plain.varTypes Tryd.prog) (ds ++ gs)).all (· ≤ reachBytes) = true := hwt
  rw [Tryd.params5] at hA hval hwt'
  obtain ⟨v0, vs0, d0, ds0, p0, q0, hargs, rfl, rfl, h0, r0⟩ := trodAll_cons hA
  obtain ⟨v1, vs1, d1, ds1, p1, q1, rfl, rfl, rfl, h1, r1⟩ := trodAll_cons r0
  obtain ⟨v2, vs2, d2, ds2, p2, q2, rfl, rfl, rfl, h2, r2⟩ := trodAll_cons r1
  obtain ⟨v3, vs3, d3, ds3, p3, q3, rfl, rfl, rfl, h3, r3⟩ := trodAll_cons r2
  obtain ⟨rfl, rfl, rfl⟩ := trodAll_nil r3
  obtain rfl : args = #[v0, v1, v2, v3] := by cases args; simp_all
  obtain ⟨rfl, rfl⟩ := trodVars_none hV
  simp only [List.all_eq_true, decide_eq_true_eq] at hwt'
  have k0 := h0
  have lt0 : ∀ x ∈ p0, x.block < W.heap.size := by obtain ⟨m, hm⟩ := k0; exact DataW.trod_lt m _ _ _ hm
  have k1 := h1
  have lt1 : ∀ x ∈ p1, x.block < W.heap.size := by obtain ⟨m, hm⟩ := k1; exact DataW.trod_lt m _ _ _ hm
  have k2 := h2
  have lt2 : ∀ x ∈ p2, x.block < W.heap.size := by obtain ⟨m, hm⟩ := k2; exact DataW.trod_lt m _ _ _ hm
  have k3 := h3
  have lt3 : ∀ x ∈ p3, x.block < W.heap.size := by obtain ⟨m, hm⟩ := k3; exact DataW.trod_lt m _ _ _ hm
  have w0 : ∀ n ∈ d0.weights Tryd.prog 33, n ≤ lim47r := fun n hn => hwt' n (weights_each (i := 0) rfl rfl hn)
  obtain ⟨fuel0, hf0⟩ := h0
  obtain ⟨x0, A0, n0, rfl, l0, C0, O0⟩ := open33 hf0 w0 (hval 0 33 v0 rfl rfl)
  have w1 : ∀ n ∈ d1.weights Tryd.prog 34, n ≤ lim47r := fun n hn => hwt' n (weights_each (i := 1) rfl rfl hn)
  obtain ⟨fuel1, hf1⟩ := h1
  obtain ⟨x1, A1, n1, rfl, l1, C1, O1⟩ := open34 hf1 w1 (hval 1 34 v1 rfl rfl)
  have w2 : ∀ n ∈ d2.weights Tryd.prog 3, n ≤ lim47r := fun n hn => hwt' n (weights_each (i := 2) rfl rfl hn)
  obtain ⟨fuel2, hf2⟩ := h2
  obtain ⟨x2, rfl, O2⟩ := open3 hf2 (hval 2 3 v2 rfl rfl)
  have w3 : ∀ n ∈ d3.weights Tryd.prog 3, n ≤ lim47r := fun n hn => hwt' n (weights_each (i := 3) rfl rfl hn)
  obtain ⟨fuel3, hf3⟩ := h3
  obtain ⟨x3, rfl, O3⟩ := open3 hf3 (hval 3 3 v3 rfl rfl)
  have hG := glob_of_laid hL hsh
  clear hA0 hval0
  refine (day_calls x0 A0 n0 l0 C0 O0 x1 A1 n1 l1 C1 O1 x2 O2 x3 O3 hG).mono fun e W' ⟨he, bel⟩ => ?_
  subst he
  exact ⟨_, rfl, _, _, _, [], _, [], hW', trodAll_mk1 (shut_bool Tryd.underlying4 _), (trodAll_cons_mk (Below.trod laidOut (by kernel_rfl) (of_decide_eq_true (by kernel_rfl)) k0 bel lt0) (trodAll_cons_mk (Below.trod laidOut (by kernel_rfl) (of_decide_eq_true (by kernel_rfl)) k1 bel lt1) (trodAll_cons_mk (Below.trod laidOut (by kernel_rfl) (of_decide_eq_true (by kernel_rfl)) k2 bel lt2) (trodAll_cons_mk (Below.trod laidOut (by kernel_rfl) (of_decide_eq_true (by kernel_rfl)) k3 bel lt3) trodAll_mk0)))), rfl, bel.frame _, fun h => by cases h⟩
theorem examineDay_holds : Rows.ExamineDaySaid :=
  OpenClaim.holds_of_wide 5 Tryd.f5 rfl rfl rfl rfl rfl rfl rfl ⟨rfl, rfl, rfl, rfl, rfl⟩ rfl rfl rfl rfl rfl (by kernel_rfl) Tryd.func5 (by kernel_rfl)
    (of_decide_eq_true (by kernel_rfl)) (by unfold Func.isWrapper; first | (rw [if_pos (by decide +kernel)]; kernel_rfl) | (rw [if_neg (by decide +kernel)]; exact ⟨rfl, rfl⟩))
    (fun os started H enc _ => examineDay_lifted os started H enc)
end Go.Proofs.YtcibglpbfaffgaaDoor.X
namespace Go.Proofs.YtcibglpbfaffgaaDoor
open Go Go.Proofs.YtcibglpbfaffgaaDoor.X
theorem examineDay_card : Rows.ExamineDayCardSaid :=
  Claim7.holds_tied_plain_at .later [] [.data, .data, .data, .sentinel, .sentinel, .data] true (true, "d75b90e3a55475a2bd39b0bccd58f92fb1dd6aa4258298bc3114d20e934d3b42") true
    examineDay_holds (fun _ h => by cases h) (by kernel_rfl) (fun _ h => by cases h) examineDay_row_tie rfl ⟨rfl, rfl⟩ (by kernel_rfl) rfl
    (fun f fn hf hfn => by
      obtain rfl : f = 5 := Option.some.inj ((show Tryd.prog.funcNamed "supercargo/supercargolaw31.ExamineDay" = some 5 by kernel_rfl).symm.trans hf) |>.symm
      obtain rfl : fn = Tryd.f5 := (Option.some.inj (Tryd.func5.symm.trans hfn)).symm
      exact ⟨by kernel_rfl, fun j t ht => by
        rw [Tryd.params5] at ht
        rcases j with _ | j
        · obtain rfl : t = 33 := by simpa using ht.symm
          exact (show Tryd.prog.wantsStandIn 33 = false by kernel_rfl)
        rcases j with _ | j
        · obtain rfl : t = 34 := by simpa using ht.symm
          exact (show Tryd.prog.wantsStandIn 34 = false by kernel_rfl)
        rcases j with _ | j
        · obtain rfl : t = 3 := by simpa using ht.symm
          exact (show Tryd.prog.wantsStandIn 3 = false by kernel_rfl)
        rcases j with _ | j
        · obtain rfl : t = 3 := by simpa using ht.symm
          exact (show Tryd.prog.wantsStandIn 3 = false by kernel_rfl)
        simp at ht⟩)
    (by kernel_rfl)
end Go.Proofs.YtcibglpbfaffgaaDoor
