/- The plain law of ExamineOnce. -/
import Derived.Test.YtcibglpbfaffgaaDoorQ3
import Derived.Test.YtcibglpbfaffgaaDoorH20
namespace Go.Proofs.YtcibglpbfaffgaaDoor.X
open Go.RowKit Go.Proofs.YtcibglpbfaffgaaDoorW.PrintWords Go.Proofs.YtcibglpbfaffgaaDoorW.PrintLast Go.Proofs.YtcibglpbfaffgaaDoorW.PrintMore
set_option linter.unusedVariables false
set_option linter.unusedSimpArgs false

/-- What is true of one fault. -/
structure OnceOk (c : S33) (docs : List S37) (x : S25) : Prop where
  why : 1 ≤ x.f3 ∧ x.f3 ≤ 6
  low : -1 ≤ x.f0
  high : x.f0 < (docs.length : Int)
  paper : ∀ (i : Nat) (h : i < docs.length), x.f0 = i → docs[i].f0 = x.f1 ∧ askedB c x.f1 = true ∧ (x.f3 = 1 → x.f2.toList ≠ [] → (getOf docs[i].f3 x.f2).2 = true → c.f16.any (anP x.f1 x.f2) = true)
theorem party_in (l : List S66) (n want : ByteArray) : (partyWhy l n want = 1 ∧ (getOf l n).2 = false) ∨ partyWhy l n want = 0 ∨ partyWhy l n want = 3 := by
  unfold partyWhy
  split
  · rename_i h; exact .inl ⟨rfl, h⟩
  · split
    · exact .inr (.inl rfl)
    · exact .inr (.inr rfl)
theorem sum_in (c : S33) (l : List S66) : (sumWhy c l = 1 ∧ (getOf l nSum).2 = false) ∨ sumWhy c l = 0 ∨ (2 ≤ sumWhy c l ∧ sumWhy c l ≤ 6) := by
  unfold sumWhy
  split
  · rename_i h; exact .inl ⟨rfl, h⟩
  · repeat' split
    all_goals first | exact .inr (.inl rfl) | exact .inr (.inr (by decide))
theorem lad_in (c : S33) (l : List S66) (day : Int) : (ladWhy c l day = 1 ∧ (getOf l nIssued).2 = false) ∨ ladWhy c l day = 0 ∨ (2 ≤ ladWhy c l day ∧ ladWhy c l day ≤ 6) := by
  unfold ladWhy
  split
  · rename_i h; exact .inl ⟨rfl, h⟩
  · repeat' split
    all_goals first | exact .inr (.inl rfl) | exact .inr (.inr (by decide))
theorem once_fix {c : S33} {docs : List S37} {day : Int} {i : Nat} (hi : i < docs.length) (ha : askedB c docs[i].f0 = true) {x : S25} (hx : x ∈ fixC c docs[i] i day) (h0 : x.f3 ≠ 0) : OnceOk c docs x := by
  have mk : ∀ (nm : ByteArray) (y : Int), x = ⟨i, docs[i].f0, nm, y⟩ → ((y = 1 ∧ (getOf docs[i].f3 nm).2 = false) ∨ y = 0 ∨ (2 ≤ y ∧ y ≤ 6)) → OnceOk c docs x := by
    rintro nm y rfl hy
    have h0' : y ≠ 0 := h0
    refine ⟨by simp only; omega, by simp only; omega, by simp only; omega, fun j hj hji => ?_⟩
    obtain rfl : i = j := by simp only at hji; omega
    refine ⟨rfl, ha, fun h1 _ hg => ?_⟩
    simp only at h1 hg
    rcases hy with ⟨_, hy⟩ | hy | hy
    · rw [hy] at hg; exact absurd hg (by decide)
    · omega
    · omega
  have c3 : ∀ y : Int, (∃ p : Prop, (y = 1 ∧ p) ∨ y = 0 ∨ y = 3) → True := fun _ _ => trivial
  unfold fixC at hx
  split at hx
  · unfold invC at hx
    simp only [List.mem_cons, List.not_mem_nil, or_false] at hx
    rcases hx with h | h | h | h
    · exact mk _ _ h ((party_in docs[i].f3 nSeller c.f2).imp id (Or.imp id fun h => by omega))
    · exact mk _ _ h ((party_in docs[i].f3 nBuyer c.f1).imp id (Or.imp id fun h => by omega))
    · exact mk _ _ h ((party_in docs[i].f3 nCurrency c.f7.f0).imp id (Or.imp id fun h => by omega))
    · exact mk _ _ h (sum_in c docs[i].f3)
  · split at hx
    · exact mk _ _ (List.mem_singleton.1 hx) (lad_in c docs[i].f3 day)
    · exact absurd hx (by simp)
theorem once_ruled {c : S33} {docs : List S37} {i : Nat} (hi : i < docs.length) (ha : askedB c docs[i].f0 = true) {x : S25} (hx : x ∈ ruledC docs docs[i] i c.f16) (h0 : x.f3 ≠ 0) : OnceOk c docs x := by
  unfold ruledC at hx
  obtain ⟨n, hn, hx⟩ := List.mem_flatMap.1 hx
  split at hx
  · rename_i hk
    obtain ⟨p, hp, rfl⟩ := List.mem_map.1 hx
    have hr := ruleP_02 docs docs[i] p
    have hw := why_in p hr
    have h0' : whyP p (ruleP docs docs[i] p) ≠ 0 := h0
    refine ⟨by simp only [partC]; omega, by simp only [partC]; omega, by simp only [partC]; omega, fun j hj hji => ?_⟩
    obtain rfl : i = j := by simp only [partC] at hji; omega
    refine ⟨rfl, ha, fun h1 h2 h3 => ?_⟩
    simp only [partC] at h1 h2 h3 ⊢
    have hr1 : ruleP docs docs[i] p = 1 := by
      unfold whyP at h1
      split at h1
      · omega
      · exact h1
    have hkind : 3 ≤ p.f0 ∧ p.f0 ≤ 7 := by
      unfold nameP at h2
      split at h2
      · rename_i h; exact h
      · exact absurd (by rw [ByteArray.toList_eq]) h2
    have hname : nameP p = p.f2 := by unfold nameP; rw [if_pos hkind]
    rw [hname] at h3 ⊢
    have h7 : p.f0 = 7 := by
      rw [ruleP_eq, if_neg (by omega), if_neg (by omega), if_neg (by omega), if_pos hkind] at hr1
      unfold atomP at hr1
      rw [if_pos h3] at hr1
      have so1 : ∀ b, so b ≠ 1 := by intro b; cases b <;> decide
      split at hr1
      · exact absurd hr1 (so1 _)
      · split at hr1
        · exact absurd hr1 (so1 _)
        · split at hr1
          · assumption
          · exact absurd hr1 (so1 _)
    rw [List.any_eq_true]
    refine ⟨n, hn, ?_⟩
    unfold anP
    rw [decide_eq_true hk, Bool.true_and, List.any_eq_true]
    refine ⟨p, hp, ?_⟩
    unfold anQ
    rw [decide_eq_true h7, decide_eq_true rfl]
    rfl
  · exact absurd hx (by simp)
theorem once_law (c : S33) (docs : List S37) (day : Int) : (exP c docs day).Nodup ∧ ∀ x ∈ exP c docs day, OnceOk c docs x := by
  refine ⟨nodup_exP c docs day, fun x hx => ?_⟩
  rw [mem_exP, mem_exC] at hx
  obtain ⟨hx, h0⟩ := hx
  rcases hx with hx | hx | ⟨i, hi, ha, hx⟩
  · unfold expC at hx
    split at hx
    · rw [List.mem_singleton.1 hx]
      exact ⟨by decide, by decide, by simp only; omega, fun i _ h => by simp only at h; omega⟩
    · exact absurd hx (by simp)
  · unfold needC at hx
    obtain ⟨n, _, hx⟩ := List.mem_flatMap.1 hx
    split at hx
    · rw [List.mem_singleton.1 hx]
      exact ⟨by simp only; omega, by simp only; omega, by simp only; omega, fun i _ h => by simp only at h; omega⟩
    · exact absurd hx (by simp)
  · rcases hx with hx | hx | hx
    · exact once_fix hi ha hx h0
    · exact once_ruled hi ha hx h0
    · unfold shareC at hx
      obtain ⟨n, _, hx⟩ := List.mem_flatMap.1 hx
      unfold shareOne at hx
      split at hx
      · exact absurd hx (by simp)
      · split at hx
        · exact absurd hx (by simp)
        · split at hx
          · exact absurd hx (by simp)
          · rw [List.mem_singleton.1 hx]
            refine ⟨by simp only; omega, by simp only; omega, by simp only; omega, fun j hj hji => ?_⟩
            obtain rfl : i = j := by simp only at hji; omega
            exact ⟨rfl, ha, fun h1 => by simp only at h1; omega⟩
end Go.Proofs.YtcibglpbfaffgaaDoor.X
