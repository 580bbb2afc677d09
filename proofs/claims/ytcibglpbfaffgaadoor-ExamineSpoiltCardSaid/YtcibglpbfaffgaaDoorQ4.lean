/- The plain law of ExamineSpoilt. -/
import Derived.Test.YtcibglpbfaffgaaDoorQ3
namespace Go.Proofs.YtcibglpbfaffgaaDoor.X
open Go.RowKit Go.Proofs.YtcibglpbfaffgaaDoorW.PrintWords Go.Proofs.YtcibglpbfaffgaaDoorW.PrintLast Go.Proofs.YtcibglpbfaffgaaDoorW.PrintMore
set_option linter.unusedVariables false
set_option linter.unusedSimpArgs false

def spRule (field want : ByteArray) : S43 := ⟨3, 0, field, want, 0, []⟩
def spNeed (kind : Int) (field want : ByteArray) : S45 := ⟨kind, 0, spRule field want⟩
def spCredit (kind : Int) (field want : ByteArray) : S33 := ⟨⟨#[]⟩, ⟨#[]⟩, ⟨#[]⟩, ⟨#[]⟩, ⟨#[]⟩, ⟨#[]⟩, ⟨#[]⟩, ⟨⟨#[]⟩, 0⟩, 0, 0, 0, 5, 0, 0, false, false, [spNeed kind field want]⟩
def spFault (at_ kind : Int) (field : ByteArray) (ok : Bool) : S25 := ⟨at_, kind, field, if ok = true then 2 else 1⟩
theorem sp_parts (field want : ByteArray) : partsP (spRule field want) = [spRule field want] := by rw [partsP_eq]; rfl
theorem sp_rule (docs : List S37) (d : S37) (field want : ByteArray) : ruleP docs d (spRule field want) = if (getOf d.f3 field).2 = true then so ((getOf d.f3 field).1.toList == want.toList) else 1 := by
  rw [ruleP_eq]
  rfl
theorem sp_ruled (docs : List S37) (d : S37) (a : Int) (kind : Int) (field want : ByteArray) (h : kind = d.f0) : ruledC docs d a (spCredit kind field want).f16 = [⟨a, d.f0, field, ruleP docs d (spRule field want)⟩] := by
  subst h
  unfold ruledC spCredit spNeed
  simp only [List.flatMap_cons, List.flatMap_nil, List.append_nil, if_pos rfl, sp_parts, List.map_cons, List.map_nil]
  rfl
/-- What is told where a credit asks a field of a paper of its kind to be just a text. -/
theorem spoilt_law (docs : List S37) {i : Nat} (hi : i < docs.length) (field want : ByteArray) :
    (if (getOf docs[i].f3 field).2 = true ∧ (getOf docs[i].f3 field).1.toList = want.toList then
      spFault i docs[i].f0 field (getOf docs[i].f3 field).2 ∈ exP (spCredit docs[i].f0 field want) docs 5 → docs[i].f0 = 0 ∨ docs[i].f0 = 2
    else spFault i docs[i].f0 field (getOf docs[i].f3 field).2 ∈ exP (spCredit docs[i].f0 field want) docs 5) := by
  have hask : askedB (spCredit docs[i].f0 field want) docs[i].f0 = true := by unfold askedB spCredit spNeed; simp
  have hr := sp_ruled docs docs[i] i docs[i].f0 field want rfl
  have hrule := sp_rule docs docs[i] field want
  split
  · rename_i h
    obtain ⟨h1, h2⟩ := h
    intro hm
    rw [mem_exP, mem_exC] at hm
    obtain ⟨hm, _⟩ := hm
    rw [h1] at hm
    rcases hm with hm | hm | ⟨q, hq, ha, hm⟩
    · unfold expC spCredit at hm
      simp at hm
    · unfold needC spCredit spNeed at hm
      simp only [List.flatMap_cons, List.flatMap_nil, List.append_nil] at hm
      rw [if_neg (by omega)] at hm
      exact absurd hm (by simp)
    · have hqi : (q : Int) = i := by
        rcases hm with hm | hm | hm
        · unfold fixC at hm
          split at hm
          · unfold invC at hm
            simp only [List.mem_cons, List.not_mem_nil, or_false] at hm
            rcases hm with hm | hm | hm | hm <;> (injection hm with h0; exact h0.symm)
          · split at hm
            · injection (List.mem_singleton.1 hm) with h0; exact h0.symm
            · exact absurd hm (by simp)
        · unfold ruledC at hm
          obtain ⟨n, _, hm⟩ := List.mem_flatMap.1 hm
          split at hm
          · obtain ⟨p, _, hp⟩ := List.mem_map.1 hm
            injection hp with h0
          · exact absurd hm (by simp)
        · unfold shareC at hm
          obtain ⟨n, _, hm⟩ := List.mem_flatMap.1 hm
          unfold shareOne at hm
          split at hm
          · exact absurd hm (by simp)
          · split at hm
            · exact absurd hm (by simp)
            · split at hm
              · exact absurd hm (by simp)
              · injection (List.mem_singleton.1 hm) with h0; exact h0.symm
      obtain rfl : q = i := by omega
      rcases hm with hm | hm | hm
      · unfold fixC at hm
        split at hm
        · rename_i h3; exact .inl h3
        · split at hm
          · rename_i h3; exact .inr h3
          · exact absurd hm (by simp)
      · rw [hr, hrule, if_pos h1, h2] at hm
        have := List.mem_singleton.1 hm
        injection this with _ _ _ h3
        simp [so] at h3
      · unfold shareC at hm
        obtain ⟨n, _, hm⟩ := List.mem_flatMap.1 hm
        unfold shareOne at hm
        split at hm
        · exact absurd hm (by simp)
        · split at hm
          · exact absurd hm (by simp)
          · split at hm
            · exact absurd hm (by simp)
            · injection (List.mem_singleton.1 hm) with _ _ _ h3
              simp at h3
  · rename_i h
    rw [mem_exP, mem_exC]
    have hw : spFault i docs[i].f0 field (getOf docs[i].f3 field).2 = ⟨i, docs[i].f0, field, ruleP docs docs[i] (spRule field want)⟩ := by
      unfold spFault
      rw [hrule]
      by_cases h1 : (getOf docs[i].f3 field).2 = true
      · rw [if_pos h1, if_pos h1]
        have h2 : ((getOf docs[i].f3 field).1.toList == want.toList) = false := beq_eq_false_iff_ne.2 fun e => h ⟨h1, e⟩
        rw [h2]
        rfl
      · rw [if_neg h1, if_neg h1]
    refine ⟨.inr (.inr ⟨i, hi, hask, .inr (.inl ?_)⟩), ?_⟩
    · rw [hr, hw]
      exact List.mem_singleton.2 rfl
    · unfold spFault
      simp only
      split <;> decide
theorem sp_mid {docs : List S37} (kind : Int) (field want : ByteArray) (hf : field.size ≤ 200) (hw : want.size ≤ 200) (hd : docs.length ≤ 12) (hs : ∀ d ∈ docs, shortV d.f3) : MidP (spCredit kind field want) docs := by
  refine ⟨by unfold spCredit; simp, Nat.le_trans hd (by decide), fun n hn => ?_, hs⟩
  obtain rfl : n = spNeed kind field want := by simpa [spCredit] using hn
  unfold spNeed
  simp only
  rw [szP_eq]
  unfold spRule
  simp only
  rw [szsP_nil]
  omega
end Go.Proofs.YtcibglpbfaffgaaDoor.X
