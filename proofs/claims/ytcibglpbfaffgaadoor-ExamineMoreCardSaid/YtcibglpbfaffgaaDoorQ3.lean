/- What is told, by places; the plain laws on the day, the needs, the papers. -/
import Derived.Test.YtcibglpbfaffgaaDoorQ2
namespace Go.Proofs.YtcibglpbfaffgaaDoor.X
open Go.RowKit Go.Proofs.YtcibglpbfaffgaaDoorW.PrintWords Go.Proofs.YtcibglpbfaffgaaDoorW.PrintLast Go.Proofs.YtcibglpbfaffgaaDoorW.PrintMore
set_option linter.unusedVariables false
set_option linter.unusedSimpArgs false

/-- What has been seen first, ahead of a paper. -/
def stC (c : S33) : List S37 → (ByteArray → Option ByteArray) → Nat → (ByteArray → Option ByteArray)
  | _, m, 0 => m
  | [], m, _ + 1 => m
  | d :: ds, m, i + 1 => stC c ds (if askedB c d.f0 = true then upd d.f3 m sharedNames else m) i
theorem mem_docsC {c : S33} {docs : List S37} {day : Int} {x : S25} : ∀ {ds : List S37} {j : Nat} {m : ByteArray → Option ByteArray}, x ∈ docsC c docs day ds j m ↔ ∃ i, ∃ h : i < ds.length, askedB c ds[i].f0 = true ∧
    (x ∈ fixC c ds[i] ((j + i : Nat) : Int) day ∨ x ∈ ruledC docs ds[i] ((j + i : Nat) : Int) c.f16 ∨ x ∈ shareC ds[i].f3 ((j + i : Nat) : Int) ds[i].f0 (stC c ds m i) sharedNames)
  | [], j, m => by simp [docsC]
  | d :: ds, j, m => by
    have ih := fun m' => mem_docsC (c := c) (docs := docs) (day := day) (x := x) (ds := ds) (j := j + 1) (m := m')
    have e : ∀ i : Nat, ((j + 1 + i : Nat) : Int) = ((j + (i + 1) : Nat) : Int) := fun i => by omega
    constructor
    · intro h
      rw [docsC] at h
      by_cases hk : askedB c d.f0 = true
      · rw [if_pos hk, List.mem_append, List.mem_append, List.mem_append] at h
        rcases h with h | h | h | h
        · exact ⟨0, Nat.zero_lt_succ _, hk, .inl h⟩
        · exact ⟨0, Nat.zero_lt_succ _, hk, .inr (.inl h)⟩
        · exact ⟨0, Nat.zero_lt_succ _, hk, .inr (.inr h)⟩
        · obtain ⟨i, hi, ha, hh⟩ := (ih _).1 h
          refine ⟨i + 1, Nat.succ_lt_succ hi, ha, ?_⟩
          rw [e] at hh
          rw [stC, if_pos hk]
          exact hh
      · rw [if_neg hk] at h
        obtain ⟨i, hi, ha, hh⟩ := (ih _).1 h
        refine ⟨i + 1, Nat.succ_lt_succ hi, ha, ?_⟩
        rw [e] at hh
        rw [stC, if_neg hk]
        exact hh
    · rintro ⟨i, hi, ha, hh⟩
      rw [docsC]
      cases i with
      | zero =>
        rw [if_pos (show askedB c d.f0 = true from ha), List.mem_append, List.mem_append, List.mem_append]
        rcases hh with hh | hh | hh
        · exact .inl hh
        · exact .inr (.inl hh)
        · exact .inr (.inr (.inl hh))
      | succ i =>
        have hi' : i < ds.length := by simpa using hi
        by_cases hk : askedB c d.f0 = true
        · rw [if_pos hk, List.mem_append, List.mem_append, List.mem_append]
          refine .inr (.inr (.inr ((ih _).2 ⟨i, hi', ha, ?_⟩)))
          rw [e]
          rw [stC, if_pos hk] at hh
          exact hh
        · rw [if_neg hk]
          refine (ih _).2 ⟨i, hi', ha, ?_⟩
          rw [e]
          rw [stC, if_neg hk] at hh
          exact hh
theorem mem_exC {c : S33} {docs : List S37} {day : Int} {x : S25} : x ∈ exC c docs day ↔ x ∈ expC c day ∨ x ∈ needC docs c.f16 ∨ ∃ i : Nat, ∃ h : i < docs.length, askedB c docs[i].f0 = true ∧
    (x ∈ fixC c docs[i] (i : Int) day ∨ x ∈ ruledC docs docs[i] (i : Int) c.f16 ∨ x ∈ shareC docs[i].f3 (i : Int) docs[i].f0 (stC c docs (fun _ => none) i) sharedNames) := by
  unfold exC
  rw [List.mem_append, List.mem_append, mem_docsC]
  simp only [Nat.zero_add]

/-! ### The day -/
theorem u64w (x : Int) : IntKind.u64.wrap x = x % 18446744073709551616 := rfl
theorem beyond_eq {day n within : Int} (h0 : -9223372036854775808 ≤ day) (h1 : day ≤ 9223372036854775807) (h2 : -9223372036854775808 ≤ n) (h3 : n ≤ 9223372036854775807) (h4 : -9223372036854775808 ≤ within) (h5 : within ≤ 9223372036854775807) :
    beyondP day n within = decide (day - n > within) := by
  unfold beyondP examine_beyond.f
  simp only [u64w]
  by_cases h6 : day ≥ n
  · rw [if_pos h6]
    by_cases h7 : within < 0
    · rw [if_pos h7]
      exact (decide_eq_true (by omega)).symm
    · rw [if_neg h7]
      exact decide_eq_decide.2 (by omega)
  · rw [if_neg h6]
    by_cases h7 : within < 0
    · rw [if_pos h7]
      exact decide_eq_decide.2 (by omega)
    · rw [if_neg h7]
      exact (decide_eq_false (by omega)).symm
theorem numOf_in (s : ByteArray) : -4611686018427387904 ≤ (numOf s).1 ∧ (numOf s).1 ≤ 4611686018427387904 := by
  unfold numOf
  split
  · split
    · decide
    · split
      · decide
      · split
        · simp only; omega
        · decide
  · decide
theorem wf64_in {z : Int} (h : wf64 z) : -9223372036854775808 ≤ z ∧ z ≤ 9223372036854775807 := by
  simp [wf64, Lit.wf, IntKind.min, IntKind.max, IntKind.signed, IntKind.bits] at h
  omega
theorem lad_day {c : S33} (hw : wf64 c.f12) (l : List S66) {day day' : Int} (h0 : -9223372036854775808 ≤ day) (h1 : day ≤ day') (h2 : day' ≤ 9223372036854775807) :
    ladWhy c l day = ladWhy c l day' ∨ (ladWhy c l day = 0 ∧ ladWhy c l day' = 4) := by
  have hn := numOf_in (getOf l nIssued).1
  have hw' := wf64_in hw
  unfold ladWhy
  rw [beyond_eq (by omega) (by omega) (by omega) (by omega) (by omega) (by omega), beyond_eq (by omega) (by omega) (by omega) (by omega) (by omega) (by omega)]
  split
  · exact .inl rfl
  · split
    · exact .inl rfl
    · split
      · exact .inl rfl
      · by_cases h3 : day - (numOf (getOf l nIssued).1).1 > c.f12
        · rw [if_pos (decide_eq_true h3), if_pos (decide_eq_true (by omega))]
          exact .inl rfl
        · rw [if_neg (by simpa using h3)]
          split
          · exact .inr ⟨rfl, rfl⟩
          · exact .inl rfl
theorem fix_day {c : S33} (hw : wf64 c.f12) (d : S37) (a : Int) {day day' : Int} (h0 : -9223372036854775808 ≤ day) (h1 : day ≤ day') (h2 : day' ≤ 9223372036854775807) :
    (∀ x ∈ fixC c d a day, x.f3 ≠ 0 → x ∈ fixC c d a day') ∧ ∀ y ∈ fixC c d a day', y.f3 = 4 ∨ y ∈ fixC c d a day := by
  unfold fixC
  by_cases h3 : d.f0 = 0
  · rw [if_pos h3, if_pos h3]
    exact ⟨fun x hx _ => hx, fun y hy => .inr hy⟩
  · rw [if_neg h3, if_neg h3]
    by_cases h4 : d.f0 = 2
    · rw [if_pos h4, if_pos h4]
      rcases lad_day hw d.f3 h0 h1 h2 with h | ⟨h5, h6⟩
      · rw [h]
        exact ⟨fun x hx _ => hx, fun y hy => .inr hy⟩
      · rw [h5, h6]
        refine ⟨fun x hx h7 => ?_, fun y hy => .inl ?_⟩
        · rw [List.mem_singleton.1 hx] at h7
          exact absurd rfl h7
        · rw [List.mem_singleton.1 hy]
    · rw [if_neg h4, if_neg h4]
      exact ⟨fun x hx _ => hx, fun y hy => .inr hy⟩
theorem day_law {c : S33} (docs : List S37) (hw : wf64 c.f12) {day day' : Int} (h0 : -9223372036854775808 ≤ day) (h1 : day ≤ day') (h2 : day' ≤ 9223372036854775807) :
    (∀ x ∈ exP c docs day, x ∈ exP c docs day') ∧ ∀ y ∈ exP c docs day', y.f3 = 4 ∨ y ∈ exP c docs day := by
  refine ⟨fun x hx => ?_, fun y hy => ?_⟩
  · rw [mem_exP, mem_exC] at hx ⊢
    refine ⟨?_, hx.2⟩
    rcases hx.1 with h | h | ⟨i, hi, ha, h⟩
    · unfold expC at h ⊢
      split at h
      · rw [if_pos (by omega)]; exact .inl h
      · exact absurd h (by simp)
    · exact .inr (.inl h)
    · refine .inr (.inr ⟨i, hi, ha, ?_⟩)
      rcases h with h | h
      · exact .inl ((fix_day hw docs[i] i h0 h1 h2).1 x h hx.2)
      · exact .inr h
  · rw [mem_exP, mem_exC] at hy
    rw [mem_exP, mem_exC]
    rcases hy.1 with h | h | ⟨i, hi, ha, h⟩
    · refine .inl ?_
      unfold expC at h
      split at h
      · rw [List.mem_singleton.1 h]
      · exact absurd h (by simp)
    · exact .inr ⟨.inr (.inl h), hy.2⟩
    · rcases h with h | h
      · rcases (fix_day hw docs[i] i h0 h1 h2).2 y h with h | h
        · exact .inl h
        · exact .inr ⟨.inr (.inr ⟨i, hi, ha, .inl h⟩), hy.2⟩
      · exact .inr ⟨.inr (.inr ⟨i, hi, ha, .inr h⟩), hy.2⟩

/-! ### One need more -/
def withN (c : S33) (n : S45) : S33 := { c with f16 := c.f16 ++ [n] }
theorem asked_more {c : S33} {n : S45} (h : askedB c n.f0 = true) (k : Int) : askedB (withN c n) k = askedB c k := by
  unfold askedB withN at *
  simp only [List.any_append, List.any_cons, List.any_nil, Bool.or_false]
  by_cases hk : n.f0 = k
  · subst hk; rw [h]; rfl
  · rw [decide_eq_false hk, Bool.or_false]
theorem st_more {c : S33} {n : S45} (h : askedB c n.f0 = true) : ∀ (ds : List S37) (m : ByteArray → Option ByteArray) (i : Nat), stC (withN c n) ds m i = stC c ds m i
  | _, m, 0 => by cases ‹List S37› <;> rfl
  | [], m, _ + 1 => rfl
  | d :: ds, m, i + 1 => by rw [stC, stC, asked_more h, st_more h ds]
theorem needs_law {c : S33} (docs : List S37) (day : Int) {n : S45} (h : askedB c n.f0 = true) :
    (∀ x ∈ exP c docs day, x ∈ exP (withN c n) docs day) ∧ ∀ y ∈ exP (withN c n) docs day, y.f1 = n.f0 ∨ y ∈ exP c docs day := by
  have hn : needC docs (withN c n).f16 = needC docs c.f16 ++ needC docs [n] := List.flatMap_append ..
  have hr : ∀ d a, ruledC docs d a (withN c n).f16 = ruledC docs d a c.f16 ++ ruledC docs d a [n] := fun d a => List.flatMap_append ..
  refine ⟨fun x hx => ?_, fun y hy => ?_⟩
  · rw [mem_exP, mem_exC] at hx ⊢
    refine ⟨?_, hx.2⟩
    rcases hx.1 with h1 | h1 | ⟨i, hi, ha, h1⟩
    · exact .inl h1
    · exact .inr (.inl (by rw [hn]; exact List.mem_append_left _ h1))
    · refine .inr (.inr ⟨i, hi, by rw [asked_more h]; exact ha, ?_⟩)
      rcases h1 with h1 | h1 | h1
      · exact .inl h1
      · exact .inr (.inl (by rw [hr]; exact List.mem_append_left _ h1))
      · exact .inr (.inr (by rw [st_more h]; exact h1))
  · rw [mem_exP, mem_exC] at hy
    rw [mem_exP, mem_exC]
    rcases hy.1 with h1 | h1 | ⟨i, hi, ha, h1⟩
    · exact .inr ⟨.inl h1, hy.2⟩
    · rw [hn, List.mem_append] at h1
      rcases h1 with h1 | h1
      · exact .inr ⟨.inr (.inl h1), hy.2⟩
      · refine .inl ?_
        unfold needC at h1
        rw [List.flatMap_cons, List.flatMap_nil, List.append_nil] at h1
        split at h1
        · rw [List.mem_singleton.1 h1]
        · exact absurd h1 (by simp)
    · rw [asked_more h] at ha
      rcases h1 with h1 | h1 | h1
      · exact .inr ⟨.inr (.inr ⟨i, hi, ha, .inl h1⟩), hy.2⟩
      · rw [hr, List.mem_append] at h1
        rcases h1 with h1 | h1
        · exact .inr ⟨.inr (.inr ⟨i, hi, ha, .inr (.inl h1)⟩), hy.2⟩
        · refine .inl ?_
          unfold ruledC at h1
          rw [List.flatMap_cons, List.flatMap_nil, List.append_nil] at h1
          split at h1
          · rename_i he
            obtain ⟨p, _, rfl⟩ := List.mem_map.1 h1
            exact he.symm
          · exact absurd h1 (by simp)
      · rw [st_more h] at h1
        exact .inr ⟨.inr (.inr ⟨i, hi, ha, .inr (.inr h1)⟩), hy.2⟩
end Go.Proofs.YtcibglpbfaffgaaDoor.X
