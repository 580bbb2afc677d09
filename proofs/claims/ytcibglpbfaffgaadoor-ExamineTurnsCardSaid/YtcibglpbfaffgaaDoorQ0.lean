/- The rules of papers as plain functions: enough rounds tell what 'ruleP' and 'partsP' say. -/
import Derived.Test.YtcibglpbfaffgaaDoorGE
namespace Go.Proofs.YtcibglpbfaffgaaDoor.X
open Go.RowKit Go.Proofs.YtcibglpbfaffgaaDoorW.PrintWords Go.Proofs.YtcibglpbfaffgaaDoorW.PrintLast Go.Proofs.YtcibglpbfaffgaaDoorW.PrintMore
set_option linter.unusedVariables false
set_option linter.unusedSimpArgs false

/-- What it comes to from some round on. -/
def Ev {α : Type} (g : Nat → Option α) (v : α) : Prop := ∃ k0, ∀ k, k0 ≤ k → g k = some v
theorem Ev.of {α : Type} {g : Nat → Option α} {v : α} (h : ∀ k, g k = some v) : Ev g v := ⟨0, fun k _ => h k⟩
theorem Ev.bind {α β : Type} {g : Nat → Option α} {h : Nat → α → Option β} {a : α} {b : β} (h1 : Ev g a) (h2 : Ev (fun k => h k a) b) : Ev (fun k => (g k).bind (h k)) b := by
  obtain ⟨k1, h1⟩ := h1
  obtain ⟨k2, h2⟩ := h2
  exact ⟨max k1 k2, fun k hk => by show (g k).bind (h k) = _; rw [h1 k (by omega)]; exact h2 k (by omega)⟩
theorem Ev.succ {α : Type} {g f : Nat → Option α} {v : α} (hf : ∀ k, f (k + 1) = g k) (h : Ev g v) : Ev f v := by
  obtain ⟨k0, h⟩ := h
  refine ⟨k0 + 1, fun k hk => ?_⟩
  obtain ⟨j, rfl⟩ : ∃ j, k = j + 1 := ⟨k - 1, by omega⟩
  rw [hf]
  exact h j (by omega)
theorem Ev.congr {α : Type} {g f : Nat → Option α} {v : α} (hf : ∀ k, f k = g k) (h : Ev g v) : Ev f v := by
  obtain ⟨k0, h⟩ := h
  exact ⟨k0, fun k hk => (hf k).trans (h k hk)⟩
theorem Ev.get {α : Type} {g : Nat → Option α} {v : α} (h : Ev g v) : ∃ k, g k = some v := by
  obtain ⟨k0, h⟩ := h
  exact ⟨k0, h k0 (Nat.le_refl _)⟩
theorem w64i {n : Int} (h0 : -9223372036854775808 ≤ n) (h1 : n ≤ 9223372036854775807) : wrap64 n = n := by unfold wrap64; omega
theorem w64s {j : Nat} (h : j < 9223372036854775807) : wrap64 ((j : Int) + 1) = ((j + 1 : Nat) : Int) := by rw [w64i (by omega) (by omega)]; omega

/-! ### A field of the first paper of a kind -/
def fieldP : List S37 → Int → ByteArray → ByteArray × Bool
  | [], _, _ => (⟨#[]⟩, false)
  | d :: ds, kd, n => if d.f0 = kd then getOf d.f3 n else fieldP ds kd n
theorem field_l0 (kd : Int) (n : ByteArray) (docs : List S37) (hl : docs.length ≤ 1000000) : ∀ (m j : Nat), j + m = docs.length → Ev (fun k => examine_Field.l0 k kd n docs (docs.length : Int) (j : Int)) (fieldP (docs.drop j) kd n)
  | 0, j, h => by
    rw [List.drop_eq_nil_of_le (by omega)]
    exact Ev.succ (g := fun _ => some (⟨#[]⟩, false)) (fun k => by simp only [examine_Field.l0]; rw [if_neg (by omega)]) (Ev.of fun _ => rfl)
  | m + 1, j, h => by
    have hj : j < docs.length := by omega
    rw [List.drop_eq_getElem_cons hj, fieldP]
    by_cases hk : docs[j].f0 = kd
    · rw [if_pos hk]
      refine Ev.succ (g := fun _ => some (getOf docs[j].f3 n)) (fun k => ?_) (Ev.of fun _ => rfl)
      simp only [examine_Field.l0]
      rw [if_pos (by omega), if_pos (by omega), if_pos (by omega), rd37 hj, if_pos hk]
      rfl
    · rw [if_neg hk]
      refine Ev.succ (fun k => ?_) (field_l0 kd n docs hl m (j + 1) (by omega))
      simp only [examine_Field.l0]
      rw [if_pos (by omega), if_pos (by omega), if_pos (by omega), rd37 hj, if_neg hk, w64s (by omega)]
theorem field_ev (kd : Int) (n : ByteArray) (docs : List S37) (hl : docs.length ≤ 1000000) : Ev (fun k => examine_Field.f k docs kd n) (fieldP docs kd n) :=
  field_l0 kd n docs hl docs.length 0 (Nat.zero_add _)

/-! ### Atoms -/
def so (b : Bool) : Int := if b = true then 0 else 2
theorem stands_so (b : Bool) : examine_stands.f b = some (so b) := by cases b <;> rfl
def numB (p : S43) (n : Int) : Bool := (decide (p.f0 = 5) && decide (n ≤ p.f4)) || (decide (p.f0 = 6) && decide (n ≥ p.f4))
def atomP (docs : List S37) (d : S37) (p : S43) : Int :=
  if (getOf d.f3 p.f2).2 = true then
    (if p.f0 = 3 then so ((getOf d.f3 p.f2).1.toList == p.f3.toList)
     else if p.f0 = 4 then so (Lib.contains (getOf d.f3 p.f2).1.data.toList p.f3.data.toList)
     else if p.f0 = 7 then (if (fieldP docs p.f1 p.f3).2 = true then so ((getOf d.f3 p.f2).1.toList == (fieldP docs p.f1 p.f3).1.toList) else 1)
     else so ((numOf (getOf d.f3 p.f2).1).2 && numB p (numOf (getOf d.f3 p.f2).1).1))
  else 1
/-- All values are short. -/
def shortV (l : List S66) : Prop := ∀ f ∈ l, f.f1.size ≤ 20000
theorem shortV_get {l : List S66} (h : shortV l) (n : ByteArray) : (getOf l n).1.size ≤ 20000 := by
  induction l with
  | nil => exact Nat.zero_le _
  | cons x xs ih =>
    unfold getOf
    split
    · exact h x (List.mem_cons_self ..)
    · exact ih fun f hf => h f (List.mem_cons_of_mem _ hf)
theorem atom_ev (docs : List S37) (d : S37) (p : S43) (hl : docs.length ≤ 1000000) (hs : shortV d.f3) :
    Ev (fun k => examine_atom.f k p.f0 p.f1 p.f2 p.f3 p.f4 p.f5 docs d.f0 d.f1 d.f2 d.f3) (atomP docs d p) := by
  have hsz := shortV_get hs p.f2
  unfold atomP
  unfold examine_atom.f field_Get.f
  simp only [Option.bind_some, stands_so]
  by_cases h1 : (getOf d.f3 p.f2).2 = true
  · simp only [if_pos h1]
    by_cases h3 : p.f0 = 3
    · simp only [if_pos h3]
      exact Ev.of fun _ => rfl
    · simp only [if_neg h3]
      by_cases h4 : p.f0 = 4
      · simp only [if_pos h4]
        refine Ev.of fun _ => ?_
        unfold strings_Contains.f
        rw [if_pos (Nat.lt_of_le_of_lt hsz (by decide))]
        rfl
      · simp only [if_neg h4]
        by_cases h7 : p.f0 = 7
        · simp only [if_pos h7]
          refine Ev.bind (field_ev _ _ _ hl) ?_
          by_cases h8 : (fieldP docs p.f1 p.f3).2 = true
          · simp only [if_pos h8]
            exact Ev.of fun _ => rfl
          · simp only [if_neg h8]
            exact Ev.of fun _ => rfl
        · simp only [if_neg h7]
          refine Ev.of fun _ => ?_
          unfold field_Number.f
          rw [if_pos (Nat.le_trans hsz (by decide))]
          simp only [Option.bind_some]
          unfold numB
          by_cases h8 : (numOf (getOf d.f3 p.f2).1).2 = true
          · rw [if_pos h8, h8]
            by_cases h5 : p.f0 = 5
            · rw [if_pos h5]
              have h6 : ¬ p.f0 = 6 := by omega
              by_cases h9 : (numOf (getOf d.f3 p.f2).1).1 ≤ p.f4
              · simp [if_pos h9, h5, h9]
              · simp [if_neg h9, h5, h9]
            · rw [if_neg h5]
              by_cases h6 : p.f0 = 6
              · simp [h6]
              · simp [h5, h6]
          · rw [if_neg h8]
            simp [Bool.eq_false_iff.2 h8]
  · simp only [if_neg h1]
    exact Ev.of fun _ => rfl

/-! ### Rules -/
mutual
/-- How a rule stands. -/
def ruleP (docs : List S37) (d : S37) : S43 → Int
  | ⟨f0, f1, f2, f3, f4, l⟩ =>
    if f0 = 0 then Lib.maxOf (rulesP docs d l ++ [0]) else if f0 = 1 then Lib.minOf (rulesP docs d l ++ [2]) else if f0 = 2 then 2 - Lib.maxOf (rulesP docs d l ++ [0])
    else if 3 ≤ f0 ∧ f0 ≤ 7 then atomP docs d ⟨f0, f1, f2, f3, f4, l⟩ else 2
def rulesP (docs : List S37) (d : S37) : List S43 → List Int
  | [] => []
  | x :: xs => ruleP docs d x :: rulesP docs d xs
end
theorem rulesP_map (docs : List S37) (d : S37) : ∀ l, rulesP docs d l = l.map (ruleP docs d)
  | [] => by rw [rulesP]; rfl
  | x :: xs => by rw [rulesP, rulesP_map docs d xs]; rfl
theorem ruleP_eq (docs : List S37) (d : S37) (p : S43) : ruleP docs d p = if p.f0 = 0 then Lib.maxOf (p.f5.map (ruleP docs d) ++ [0]) else if p.f0 = 1 then Lib.minOf (p.f5.map (ruleP docs d) ++ [2]) else if p.f0 = 2 then 2 - Lib.maxOf (p.f5.map (ruleP docs d) ++ [0])
    else if 3 ≤ p.f0 ∧ p.f0 ≤ 7 then atomP docs d p else 2 := by
  obtain ⟨f0, f1, f2, f3, f4, l⟩ := p
  rw [ruleP, rulesP_map]
mutual
/-- How much there is of a rule. -/
def szP : S43 → Nat
  | ⟨f0, f1, f2, f3, f4, l⟩ => 1 + f2.size / 200 + f3.size / 200 + szsP l
def szsP : List S43 → Nat
  | [] => 0
  | x :: xs => szP x + szsP xs
end
theorem szP_eq (p : S43) : szP p = 1 + p.f2.size / 200 + p.f3.size / 200 + szsP p.f5 := by
  obtain ⟨f0, f1, f2, f3, f4, l⟩ := p
  rw [szP]
theorem szP_pos (p : S43) : 1 ≤ szP p := by rw [szP_eq]; omega
theorem szsP_cons (x : S43) (xs : List S43) : szsP (x :: xs) = szP x + szsP xs := by rw [szsP]
theorem szsP_nil : szsP [] = 0 := by rw [szsP]
theorem szsP_len : ∀ l, l.length ≤ szsP l
  | [] => Nat.zero_le _
  | x :: xs => by
    rw [szsP_cons]
    have h1 := szP_pos x
    have h2 := szsP_len xs
    simp only [List.length_cons]
    omega
theorem szsP_mem {x : S43} : ∀ {l}, x ∈ l → szP x ≤ szsP l
  | [], h => absurd h (by simp)
  | y :: ys, h => by
    rw [szsP_cons]
    rcases List.mem_cons.1 h with rfl | h
    · omega
    · have := szsP_mem h
      omega
theorem szP_kid {p x : S43} (h : x ∈ p.f5) : szP x < szP p := by
  have h1 := szsP_mem h
  have h2 := szP_eq p
  omega
theorem szP_len (p : S43) : p.f5.length < szP p := by
  have h1 := szsP_len p.f5
  have h2 := szP_eq p
  omega

abbrev ruleK (docs : List S37) (d : S37) (p : S43) (k : Nat) : Option Int := examine_rule.f k p.f0 p.f1 p.f2 p.f3 p.f4 p.f5 docs d.f0 d.f1 d.f2 d.f3
abbrev ruleJ (docs : List S37) (d : S37) (p : S43) (acc : List Int) (k : Nat) : Option Int := examine_rule.j2 k docs acc p.f0 p.f1 p.f2 p.f3 p.f4 p.f5 d.f0 d.f1 d.f2 d.f3
theorem rule_l0 (docs : List S37) (d : S37) (p : S43) (l : List S43) (hl : l.length ≤ 1000000) (ih : ∀ x ∈ l, Ev (ruleK docs d x) (ruleP docs d x)) {v : Int} :
    ∀ (m j : Nat) (acc : List Int), j + m = l.length → acc.length ≤ j → Ev (ruleJ docs d p (acc ++ (l.drop j).map (ruleP docs d))) v →
      Ev (fun k => examine_rule.l0 k docs acc l (l.length : Int) (j : Int) p.f0 p.f1 p.f2 p.f3 p.f4 p.f5 d.f0 d.f1 d.f2 d.f3) v
  | 0, j, acc, h, ha, hv => by
    rw [List.drop_eq_nil_of_le (by omega), List.map_nil, List.append_nil] at hv
    refine Ev.succ (fun k => ?_) hv
    simp only [examine_rule.l0]
    rw [if_neg (by omega)]
  | m + 1, j, acc, h, ha, hv => by
    have hj : j < l.length := by omega
    rw [List.drop_eq_getElem_cons hj, List.map_cons] at hv
    have h1 := rule_l0 docs d p l hl ih (v := v) m (j + 1) (acc ++ [ruleP docs d l[j]]) (by omega) (by simp; omega) (by rw [List.append_assoc]; exact hv)
    refine Ev.succ (fun k => ?_) (Ev.bind (h := fun k t => if acc.length < 17592186044416 then examine_rule.l0 k docs (acc ++ [t]) l (l.length : Int) ((j + 1 : Nat) : Int) p.f0 p.f1 p.f2 p.f3 p.f4 p.f5 d.f0 d.f1 d.f2 d.f3 else none) (ih l[j] (List.getElem_mem hj)) ?_)
    · simp only [examine_rule.l0]
      rw [if_pos (by omega), if_pos (by omega), if_pos (by omega), rd43 hj, w64s (by omega)]
    · simp only [if_pos (show acc.length < 17592186044416 by omega)]
      exact h1
theorem maxO (l : List Int) (x : Int) : slices_Max_int_int.f (l ++ [x]) = some (Lib.maxOf (l ++ [x])) := by
  unfold slices_Max_int_int.f
  rw [if_neg (by simp)]
theorem minO (l : List Int) (x : Int) : slices_Min_int_int.f (l ++ [x]) = some (Lib.minOf (l ++ [x])) := by
  unfold slices_Min_int_int.f
  rw [if_neg (by simp)]
theorem foldl_max_in {lo hi : Int} : ∀ {l : List Int} {a : Int}, (∀ y ∈ l, lo ≤ y ∧ y ≤ hi) → lo ≤ a ∧ a ≤ hi → lo ≤ l.foldl max a ∧ l.foldl max a ≤ hi
  | [], a, _, ha => ha
  | x :: xs, a, h, ha => foldl_max_in (l := xs) (fun y hy => h y (List.mem_cons_of_mem _ hy)) (by have := h x (List.mem_cons_self ..); show _ ≤ max a x ∧ max a x ≤ _; omega)
theorem foldl_min_in {lo hi : Int} : ∀ {l : List Int} {a : Int}, (∀ y ∈ l, lo ≤ y ∧ y ≤ hi) → lo ≤ a ∧ a ≤ hi → lo ≤ l.foldl min a ∧ l.foldl min a ≤ hi
  | [], a, _, ha => ha
  | x :: xs, a, h, ha => foldl_min_in (l := xs) (fun y hy => h y (List.mem_cons_of_mem _ hy)) (by have := h x (List.mem_cons_self ..); show _ ≤ min a x ∧ min a x ≤ _; omega)
theorem headD_in {lo hi : Int} {l : List Int} {x : Int} (h : ∀ y ∈ l, lo ≤ y ∧ y ≤ hi) (hx : lo ≤ x ∧ x ≤ hi) : lo ≤ (l ++ [x]).headD 0 ∧ (l ++ [x]).headD 0 ≤ hi := by
  cases l with
  | nil => exact hx
  | cons y ys => exact h y (List.mem_cons_self ..)
theorem all_in {lo hi : Int} {l : List Int} {x : Int} (h : ∀ y ∈ l, lo ≤ y ∧ y ≤ hi) (hx : lo ≤ x ∧ x ≤ hi) : ∀ y ∈ l ++ [x], lo ≤ y ∧ y ≤ hi := by
  intro y hy
  rcases List.mem_append.1 hy with hy | hy
  · exact h y hy
  · rw [List.mem_singleton.1 hy]; exact hx
theorem maxOf_in {lo hi : Int} {l : List Int} {x : Int} (h : ∀ y ∈ l, lo ≤ y ∧ y ≤ hi) (hx : lo ≤ x ∧ x ≤ hi) : lo ≤ Lib.maxOf (l ++ [x]) ∧ Lib.maxOf (l ++ [x]) ≤ hi :=
  foldl_max_in (all_in h hx) (headD_in h hx)
theorem minOf_in {lo hi : Int} {l : List Int} {x : Int} (h : ∀ y ∈ l, lo ≤ y ∧ y ≤ hi) (hx : lo ≤ x ∧ x ≤ hi) : lo ≤ Lib.minOf (l ++ [x]) ∧ Lib.minOf (l ++ [x]) ≤ hi :=
  foldl_min_in (all_in h hx) (headD_in h hx)
theorem so_in (b : Bool) : 0 ≤ so b ∧ so b ≤ 2 := by cases b <;> decide
theorem atomP_in (docs : List S37) (d : S37) (p : S43) : 0 ≤ atomP docs d p ∧ atomP docs d p ≤ 2 := by
  unfold atomP
  repeat' split
  all_goals first | exact so_in _ | decide
theorem ruleP_in (docs : List S37) (d : S37) : ∀ (n : Nat) (p : S43), szP p ≤ n → 0 ≤ ruleP docs d p ∧ ruleP docs d p ≤ 2
  | 0, p, h => absurd (szP_pos p) (by omega)
  | n + 1, p, h => by
    have hk : ∀ y ∈ p.f5.map (ruleP docs d), 0 ≤ y ∧ y ≤ 2 := by
      intro y hy
      obtain ⟨x, hx, rfl⟩ := List.mem_map.1 hy
      exact ruleP_in docs d n x (by have := szP_kid hx; omega)
    rw [ruleP_eq]
    split
    · exact maxOf_in hk (by decide)
    · split
      · exact minOf_in hk (by decide)
      · split
        · have := maxOf_in hk (x := 0) (by decide)
          omega
        · split
          · exact atomP_in _ _ _
          · decide
theorem ruleP_02 (docs : List S37) (d : S37) (p : S43) : 0 ≤ ruleP docs d p ∧ ruleP docs d p ≤ 2 := ruleP_in docs d _ p (Nat.le_refl _)

theorem rule_j2 (docs : List S37) (d : S37) (p : S43) (hl : docs.length ≤ 1000000) (hp : p.f5.length ≤ 1000000) (hs : shortV d.f3) (acc : List Int) (ha : acc = if p.f0 = 0 ∨ p.f0 = 1 ∨ p.f0 = 2 then p.f5.map (ruleP docs d) else []) :
    Ev (ruleJ docs d p acc) (ruleP docs d p) := by
  have hin := ruleP_02 docs d p
  rw [ruleP_eq] at hin ⊢
  by_cases h0 : p.f0 = 0
  · rw [if_pos (Or.inl h0)] at ha
    rw [if_pos h0]
    refine Ev.succ (g := fun _ => some (Lib.maxOf (p.f5.map (ruleP docs d) ++ [0]))) (fun k => ?_) (Ev.of fun _ => rfl)
    show examine_rule.j2 (k + 1) docs acc p.f0 p.f1 p.f2 p.f3 p.f4 p.f5 d.f0 d.f1 d.f2 d.f3 = _
    simp only [examine_rule.j2]
    rw [if_pos h0, if_pos (by rw [ha, List.length_map]; omega), maxO, ha]
    rfl
  · rw [if_neg h0] at hin ⊢
    by_cases h1 : p.f0 = 1
    · rw [if_pos (Or.inr (Or.inl h1))] at ha
      rw [if_pos h1]
      refine Ev.succ (g := fun _ => some (Lib.minOf (p.f5.map (ruleP docs d) ++ [2]))) (fun k => ?_) (Ev.of fun _ => rfl)
      show examine_rule.j2 (k + 1) docs acc p.f0 p.f1 p.f2 p.f3 p.f4 p.f5 d.f0 d.f1 d.f2 d.f3 = _
      simp only [examine_rule.j2]
      rw [if_neg h0, if_pos h1, if_pos (by rw [ha, List.length_map]; omega), minO, ha]
      rfl
    · rw [if_neg h1] at hin ⊢
      by_cases h2 : p.f0 = 2
      · rw [if_pos (Or.inr (Or.inr h2))] at ha
        rw [if_pos h2] at hin ⊢
        refine Ev.succ (g := fun _ => some (2 - Lib.maxOf (p.f5.map (ruleP docs d) ++ [0]))) (fun k => ?_) (Ev.of fun _ => rfl)
        show examine_rule.j2 (k + 1) docs acc p.f0 p.f1 p.f2 p.f3 p.f4 p.f5 d.f0 d.f1 d.f2 d.f3 = _
        simp only [examine_rule.j2]
        rw [if_neg h0, if_neg h1, if_pos h2, if_pos (by rw [ha, List.length_map]; omega), maxO, ha, Option.bind_some, w64i (by omega) (by omega)]
      · rw [if_neg h2]
        by_cases h3 : 3 ≤ p.f0 ∧ p.f0 ≤ 7
        · rw [if_pos h3]
          refine Ev.succ (fun k => ?_) (atom_ev docs d p hl hs)
          show examine_rule.j2 (k + 1) docs acc p.f0 p.f1 p.f2 p.f3 p.f4 p.f5 d.f0 d.f1 d.f2 d.f3 = _
          simp only [examine_rule.j2]
          rw [if_neg h0, if_neg h1, if_neg h2]
          obtain ⟨h3a, h3b⟩ := h3
          rcases (by omega : p.f0 = 3 ∨ p.f0 = 4 ∨ p.f0 = 5 ∨ p.f0 = 6 ∨ p.f0 = 7) with h | h | h | h | h <;> (simp only [h]; simp)
        · rw [if_neg h3]
          refine Ev.succ (g := fun _ => some 2) (fun k => ?_) (Ev.of fun _ => rfl)
          show examine_rule.j2 (k + 1) docs acc p.f0 p.f1 p.f2 p.f3 p.f4 p.f5 d.f0 d.f1 d.f2 d.f3 = _
          simp only [examine_rule.j2]
          rw [if_neg h0, if_neg h1, if_neg h2, if_neg (by omega), if_neg (by omega), if_neg (by omega), if_neg (by omega), if_neg (by omega)]
theorem rule_ev (docs : List S37) (d : S37) (hl : docs.length ≤ 1000000) (hs : shortV d.f3) : ∀ (n : Nat) (p : S43), szP p ≤ n → n ≤ 1000000 → Ev (ruleK docs d p) (ruleP docs d p)
  | 0, p, h, _ => absurd (szP_pos p) (by omega)
  | n + 1, p, h, hn => by
    have hlen := szP_len p
    by_cases hc : p.f0 = 0 ∨ p.f0 = 1 ∨ p.f0 = 2
    · have hj := rule_j2 docs d p hl (by omega) hs (p.f5.map (ruleP docs d)) (by rw [if_pos hc])
      have h0 := rule_l0 docs d p p.f5 (by omega) (fun x hx => rule_ev docs d hl hs n x (by have := szP_kid hx; omega) (by omega)) p.f5.length 0 [] (Nat.zero_add _) (Nat.le_refl _) (by rw [List.drop_zero, List.nil_append]; exact hj)
      refine Ev.succ (g := fun k => examine_rule.j0 k docs ([] : List Int) true p.f0 p.f1 p.f2 p.f3 p.f4 p.f5 d.f0 d.f1 d.f2 d.f3) (fun k => ?_) (Ev.succ (fun k => ?_) h0)
      · show examine_rule.f (k + 1) p.f0 p.f1 p.f2 p.f3 p.f4 p.f5 docs d.f0 d.f1 d.f2 d.f3 = _
        simp only [examine_rule.f]
        rcases hc with h | h | h <;> simp [h]
      · simp only [examine_rule.j0]
        rw [if_pos trivial]
        rfl
    · have hj := rule_j2 docs d p hl (by omega) hs [] (by rw [if_neg hc])
      refine Ev.succ (g := fun k => examine_rule.j0 k docs ([] : List Int) false p.f0 p.f1 p.f2 p.f3 p.f4 p.f5 d.f0 d.f1 d.f2 d.f3) (fun k => ?_) (Ev.succ (fun k => ?_) hj)
      · show examine_rule.f (k + 1) p.f0 p.f1 p.f2 p.f3 p.f4 p.f5 docs d.f0 d.f1 d.f2 d.f3 = _
        simp only [examine_rule.f]
        rw [if_neg (by omega), if_neg (by omega), show (p.f0 == 2) = false from beq_eq_false_iff_ne.2 (by omega)]
      · simp only [examine_rule.j0]
        rw [if_neg (by decide)]

/-! ### Parts -/
mutual
def partsP : S43 → List S43
  | ⟨f0, f1, f2, f3, f4, l⟩ => if f0 = 0 then partssP l else [⟨f0, f1, f2, f3, f4, l⟩]
def partssP : List S43 → List S43
  | [] => []
  | x :: xs => partsP x ++ partssP xs
end
theorem partssP_flat : ∀ l, partssP l = l.flatMap partsP
  | [] => by rw [partssP]; rfl
  | x :: xs => by rw [partssP, partssP_flat xs]; rfl
theorem partsP_eq (p : S43) : partsP p = if p.f0 = 0 then p.f5.flatMap partsP else [p] := by
  obtain ⟨f0, f1, f2, f3, f4, l⟩ := p
  rw [partsP, partssP_flat]
theorem flat_len {f : S43 → List S43} : ∀ {l : List S43}, (∀ x ∈ l, (f x).length ≤ szP x) → (l.flatMap f).length ≤ szsP l
  | [], _ => Nat.zero_le _
  | x :: xs, h => by
    rw [List.flatMap_cons, List.length_append, szsP_cons]
    have h1 := h x (List.mem_cons_self ..)
    have h2 := flat_len (l := xs) fun y hy => h y (List.mem_cons_of_mem _ hy)
    omega
theorem partsP_len' : ∀ (n : Nat) (p : S43), szP p ≤ n → (partsP p).length ≤ szP p
  | 0, p, h => absurd (szP_pos p) (by omega)
  | n + 1, p, h => by
    rw [partsP_eq]
    split
    · have h1 := flat_len (f := partsP) (l := p.f5) fun x hx => partsP_len' n x (by have := szP_kid hx; omega)
      have h2 := szP_eq p
      omega
    · exact szP_pos p
theorem partsP_len (p : S43) : (partsP p).length ≤ szP p := partsP_len' _ p (Nat.le_refl _)
theorem partsP_mem' : ∀ (n : Nat) (p : S43), szP p ≤ n → ∀ q ∈ partsP p, szP q ≤ szP p ∧ q.f0 ≠ 0
  | 0, p, h => absurd (szP_pos p) (by omega)
  | n + 1, p, h => by
    intro q hq
    rw [partsP_eq] at hq
    split at hq
    · obtain ⟨x, hx, hqx⟩ := List.mem_flatMap.1 hq
      have h1 := szP_kid hx
      have h2 := partsP_mem' n x (by omega) q hqx
      exact ⟨by omega, h2.2⟩
    · rename_i h0
      rw [List.mem_singleton.1 hq]
      exact ⟨Nat.le_refl _, h0⟩
theorem partsP_mem {p q : S43} (h : q ∈ partsP p) : szP q ≤ szP p ∧ q.f0 ≠ 0 := partsP_mem' _ p (Nat.le_refl _) q h
abbrev partsK (p : S43) (k : Nat) : Option (List S43) := examine_parts.f k p.f0 p.f1 p.f2 p.f3 p.f4 p.f5
theorem parts_l0 (l : List S43) (hl : szsP l ≤ 1000000) (ih : ∀ x ∈ l, Ev (partsK x) (partsP x)) :
    ∀ (m j : Nat) (acc : List S43), j + m = l.length → acc.length ≤ 1000000 - szsP (l.drop j) →
      Ev (fun k => examine_parts.l0 k acc l (l.length : Int) (j : Int)) (acc ++ (l.drop j).flatMap partsP)
  | 0, j, acc, h, ha => by
    rw [List.drop_eq_nil_of_le (by omega), List.flatMap_nil, List.append_nil]
    refine Ev.succ (g := fun _ => some acc) (fun k => ?_) (Ev.of fun _ => rfl)
    simp only [examine_parts.l0]
    rw [if_neg (by omega)]
  | m + 1, j, acc, h, ha => by
    have hj : j < l.length := by omega
    have hlen := szsP_len l
    have hd : szsP (l.drop j) ≤ 1000000 := by
      have : ∀ (i : Nat) (l : List S43), szsP (l.drop i) ≤ szsP l := by
        intro i
        induction i with
        | zero => intro l; exact Nat.le_refl _
        | succ i ih =>
          intro l
          cases l with
          | nil => exact Nat.le_refl _
          | cons x xs =>
            rw [List.drop_succ_cons, szsP_cons]
            have := ih xs
            omega
      have := this j l
      omega
    rw [List.drop_eq_getElem_cons hj, szsP_cons] at ha hd
    have hx := partsP_len l[j]
    rw [List.drop_eq_getElem_cons hj, List.flatMap_cons, ← List.append_assoc]
    have h1 := parts_l0 l hl ih m (j + 1) (acc ++ partsP l[j]) (by omega) (by rw [List.length_append]; omega)
    refine Ev.succ (fun k => ?_) (Ev.bind (h := fun k t => if acc.length + t.length < 1759218604441 then examine_parts.l0 k (acc ++ t) l (l.length : Int) ((j + 1 : Nat) : Int) else none) (ih l[j] (List.getElem_mem hj)) ?_)
    · simp only [examine_parts.l0]
      rw [if_pos (by omega), if_pos (by omega), if_pos (by omega), rd43 hj, w64s (by omega)]
    · simp only [if_pos (show acc.length + (partsP l[j]).length < 1759218604441 by omega)]
      exact h1
theorem parts_ev : ∀ (n : Nat) (p : S43), szP p ≤ n → n ≤ 1000000 → Ev (partsK p) (partsP p)
  | 0, p, h, _ => absurd (szP_pos p) (by omega)
  | n + 1, p, h, hn => by
    have hlen := szP_len p
    have hsz := szP_eq p
    rw [partsP_eq]
    by_cases h0 : p.f0 = 0
    · rw [if_pos h0]
      have h1 := parts_l0 p.f5 (by omega) (fun x hx => parts_ev n x (by have := szP_kid hx; omega) (by omega)) p.f5.length 0 [] (Nat.zero_add _) (by simp)
      rw [List.drop_zero, List.nil_append] at h1
      refine Ev.succ (fun k => ?_) h1
      show examine_parts.f (k + 1) p.f0 p.f1 p.f2 p.f3 p.f4 p.f5 = _
      simp only [examine_parts.f]
      rw [if_pos h0]
      rfl
    · rw [if_neg h0]
      refine Ev.succ (g := fun _ => some [p]) (fun k => ?_) (Ev.of fun _ => rfl)
      show examine_parts.f (k + 1) p.f0 p.f1 p.f2 p.f3 p.f4 p.f5 = _
      simp only [examine_parts.f]
      rw [if_neg h0]
      cases p
      rfl
end Go.Proofs.YtcibglpbfaffgaaDoor.X
