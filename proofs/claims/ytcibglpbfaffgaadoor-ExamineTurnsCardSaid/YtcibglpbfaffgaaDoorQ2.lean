/- Few and Size, as plain facts: enough rounds tell, and where Few says yes there is not too much. -/
import Derived.Test.YtcibglpbfaffgaaDoorQ1
import Derived.Test.YtcibglpbfaffgaaDoorX9
import Derived.Test.YtcibglpbfaffgaaDoorGW
namespace Go.Proofs.YtcibglpbfaffgaaDoor.X
open Go.RowKit Go.Proofs.YtcibglpbfaffgaaDoorW.PrintWords Go.Proofs.YtcibglpbfaffgaaDoorW.PrintLast Go.Proofs.YtcibglpbfaffgaaDoorW.PrintMore
set_option linter.unusedVariables false
set_option linter.unusedSimpArgs false

theorem rd66 {l : List S66} {j : Nat} (h : j < l.length) : rd_T66 l (j : Int) = l[j] := by simp [rd_T66, List.getD_eq_getElem?_getD, h]
abbrev sizeK (p : S43) (m : Int) (k : Nat) : Option Int := supercargoref31_Size.f k p.f0 p.f1 p.f2 p.f3 p.f4 p.f5 m
def SizeIs (p : S43) (m : Int) : Prop := ∃ r, Ev (sizeK p m) r ∧ 1 ≤ r ∧ r ≤ 4398046511104 + max m 1 ∧ (r < m → r = szP p)
theorem size_l0 (p : S43) (m : Int) (hm : m ≤ 200) (hl : p.f5.length ≤ 9223372036854775807) (ih : ∀ x ∈ p.f5, ∀ m' : Int, m' ≤ 200 → SizeIs x m') : ∀ (n j : Nat) (acc : Int), j + n = p.f5.length → 1 ≤ acc → acc ≤ 4398046511104 + max m 1 →
    ∃ r, Ev (fun k => supercargoref31_Size.l0 k m acc (j : Int) p.f0 p.f1 p.f2 p.f3 p.f4 p.f5) r ∧ 1 ≤ r ∧ r ≤ 4398046511104 + max m 1 ∧ (r < m → r = acc + szsP (p.f5.drop j))
  | 0, j, acc, h, h0, h1 => by
    refine ⟨acc, Ev.succ (g := fun _ => some acc) (fun k => ?_) (Ev.of fun _ => rfl), h0, h1, fun _ => ?_⟩
    · simp only [supercargoref31_Size.l0]
      rw [if_neg (by omega)]
    · rw [List.drop_eq_nil_of_le (by omega), szsP_nil]; omega
  | n + 1, j, acc, h, h0, h1 => by
    have hj : j < p.f5.length := by omega
    by_cases ha : acc < m
    · obtain ⟨t, ht, t0, t1, t2⟩ := ih p.f5[j] (List.getElem_mem hj) (m - acc) (by omega)
      obtain ⟨r, hr, r0, r1, r2⟩ := size_l0 p m hm hl ih n (j + 1) (acc + t) (by omega) (by omega) (by omega)
      refine ⟨r, Ev.succ (fun k => ?_) (Ev.bind (h := fun k t => supercargoref31_Size.l0 k m (wrap64 (acc + t)) ((j + 1 : Nat) : Int) p.f0 p.f1 p.f2 p.f3 p.f4 p.f5) ht ?_), r0, r1, fun hlt => ?_⟩
      · simp only [supercargoref31_Size.l0]
        rw [if_pos (by omega), if_pos ha, if_pos (by omega), rd43 hj, w64s (by omega), w64i (show -9223372036854775808 ≤ m - acc by omega) (by omega)]
      · rw [w64i (by omega) (by omega)]
        exact hr
      · have e := r2 hlt
        rw [List.drop_eq_getElem_cons hj, szsP_cons]
        have hn : (0 : Int) ≤ szsP (p.f5.drop (j + 1)) := by omega
        have := t2 (by omega)
        omega
    · refine ⟨acc, Ev.succ (g := fun _ => some acc) (fun k => ?_) (Ev.of fun _ => rfl), h0, h1, fun hlt => absurd hlt ha⟩
      simp only [supercargoref31_Size.l0]
      rw [if_pos (by omega), if_neg ha]
theorem size_head {a b : Nat} (ha : a ≤ lim47r) (hb : b ≤ lim47r) : wrap64 (wrap64 (1 + wrap64 ((a : Int) / 200)) + wrap64 ((b : Int) / 200)) = 1 + (a : Int) / 200 + (b : Int) / 200 := by
  have e2 : lim47r = 140737488351232 := rfl
  rw [w64i (n := (a : Int) / 200) (by omega) (by omega), w64i (n := (b : Int) / 200) (by omega) (by omega), w64i (n := 1 + (a : Int) / 200) (by omega) (by omega), w64i (n := 1 + (a : Int) / 200 + (b : Int) / 200) (by omega) (by omega)]
theorem size_is : ∀ (n : Nat) (p : S43), szP p ≤ n → Ok43 lim47r p → ∀ m : Int, m ≤ 200 → SizeIs p m
  | 0, p, h, _, _, _ => absurd (szP_pos p) (by omega)
  | n + 1, p, h, hp, m, hm => by
    cases hp with
    | mk o0 o1 o2 o3 o4 o5 o6 =>
    by_cases h0 : m ≤ 0
    · refine ⟨1, Ev.succ (g := fun _ => some 1) (fun k => ?_) (Ev.of fun _ => rfl), by omega, by omega, fun hlt => by omega⟩
      show supercargoref31_Size.f (k + 1) p.f0 p.f1 p.f2 p.f3 p.f4 p.f5 m = _
      simp only [supercargoref31_Size.f]
      rw [if_pos h0]
    · have e2 : lim47r = 140737488351232 := rfl
      obtain ⟨r, hr, r0, r1, r2⟩ := size_l0 p m hm o5 (fun x hx m' hm' => size_is n x (by have := szP_kid hx; omega) (o6 x hx) m' hm') p.f5.length 0 (1 + (p.f2.size : Int) / 200 + (p.f3.size : Int) / 200) (Nat.zero_add _) (by omega) (by omega)
      refine ⟨r, Ev.succ (fun k => ?_) hr, r0, r1, fun hlt => ?_⟩
      · show supercargoref31_Size.f (k + 1) p.f0 p.f1 p.f2 p.f3 p.f4 p.f5 m = _
        simp only [supercargoref31_Size.f]
        rw [if_neg h0, size_head o2 o3]
        rfl
      · have e := r2 hlt
        rw [List.drop_zero] at e
        rw [e, szP_eq]
        omega

/-- What Few lets in. -/
structure FewP (c : S33) (docs : List S37) : Prop where
  needs : c.f16.length ≤ 12
  papers : docs.length ≤ 12
  rules : ∀ n ∈ c.f16, szP n.f2 ≤ 60
  fields : ∀ d ∈ docs, d.f3.length ≤ 30 ∧ ∀ f ∈ d.f3, f.f0.size + f.f1.size ≤ 300
theorem FewP.mid {c : S33} {docs : List S37} (h : FewP c docs) : MidP c docs :=
  ⟨Nat.le_trans h.needs (by decide), Nat.le_trans h.papers (by decide), fun n hn => Nat.le_trans (h.rules n hn) (by decide), fun d hd f hf => by have := (h.fields d hd).2 f hf; omega⟩
theorem wf_of {c : S33} {docs : List S37} (hc : Ok33 c) (hd : OkDs docs) : WfP c docs := ⟨fun d h => (hd.docs d h).1, fun n h => (hc.needs n h).1⟩

theorem few_l2 {docs : List S37} (hd : OkDs docs) {i : Nat} (hi : i < docs.length) (hf : docs[i].f3.length ≤ 1000) (hi2 : docs.length ≤ 1000) {b : Bool} (hb : Ev (fun k => supercargoref31_Few.l1 k docs ((i + 1 : Nat) : Int)) b) : ∀ (n j : Nat), j + n = docs[i].f3.length →
    ∃ b', Ev (fun k => supercargoref31_Few.l2 k docs (i : Int) (j : Int)) b' ∧ (b' = true → b = true ∧ ∀ f ∈ docs[i].f3.drop j, f.f0.size + f.f1.size ≤ 300)
  | 0, j, h => by
    refine ⟨b, Ev.succ (fun k => ?_) hb, fun e => ⟨e, ?_⟩⟩
    · simp only [supercargoref31_Few.l2]
      rw [if_pos (by omega), if_pos (by omega), rd37 hi, if_neg (by omega), w64s (by omega)]
    · rw [List.drop_eq_nil_of_le (by omega)]
      intro f hf
      cases hf
  | n + 1, j, h => by
    have hj : j < docs[i].f3.length := by omega
    have hm := (hd.docs docs[i] (List.getElem_mem hi)).2.2.2.2 docs[i].f3[j] (List.getElem_mem hj)
    have e2 : lim47r = 140737488351232 := rfl
    have hw : wrap64 ((docs[i].f3[j].f0.size : Int) + (docs[i].f3[j].f1.size : Int)) = (docs[i].f3[j].f0.size : Int) + (docs[i].f3[j].f1.size : Int) := w64i (by omega) (by have := hm.1; have := hm.2; omega)
    by_cases hgt : (docs[i].f3[j].f0.size : Int) + (docs[i].f3[j].f1.size : Int) > 300
    · refine ⟨false, Ev.succ (g := fun _ => some false) (fun k => ?_) (Ev.of fun _ => rfl), fun e => by cases e⟩
      simp only [supercargoref31_Few.l2]
      rw [if_pos (by omega), if_pos (by omega), rd37 hi, if_pos (by omega), if_pos (by omega), rd66 hj, hw, if_pos hgt]
    · obtain ⟨b', hb', hp⟩ := few_l2 hd hi hf hi2 hb n (j + 1) (by omega)
      refine ⟨b', Ev.succ (fun k => ?_) hb', fun e => ⟨(hp e).1, ?_⟩⟩
      · simp only [supercargoref31_Few.l2]
        rw [if_pos (by omega), if_pos (by omega), rd37 hi, if_pos (by omega), if_pos (by omega), rd66 hj, hw, if_neg hgt, w64s (by omega)]
      · rw [List.drop_eq_getElem_cons hj]
        intro f hf
        rcases List.mem_cons.1 hf with rfl | hf
        · omega
        · exact (hp e).2 f hf
theorem few_l1 {docs : List S37} (hd : OkDs docs) (hi2 : docs.length ≤ 1000) : ∀ (n i : Nat), i + n = docs.length →
    ∃ b, Ev (fun k => supercargoref31_Few.l1 k docs (i : Int)) b ∧ (b = true → ∀ d ∈ docs.drop i, d.f3.length ≤ 30 ∧ ∀ f ∈ d.f3, f.f0.size + f.f1.size ≤ 300)
  | 0, i, h => by
    refine ⟨true, Ev.succ (g := fun _ => some true) (fun k => ?_) (Ev.of fun _ => rfl), fun e => ?_⟩
    · simp only [supercargoref31_Few.l1]
      rw [if_neg (by omega)]
    · rw [List.drop_eq_nil_of_le (by omega)]
      intro f hf
      cases hf
  | n + 1, i, h => by
    have hi : i < docs.length := by omega
    by_cases hgt : (docs[i].f3.length : Int) > 30
    · refine ⟨false, Ev.succ (g := fun _ => some false) (fun k => ?_) (Ev.of fun _ => rfl), fun e => by cases e⟩
      simp only [supercargoref31_Few.l1]
      rw [if_pos (by omega), if_pos (by omega), rd37 hi, if_pos hgt]
    · obtain ⟨b, hb, hp⟩ := few_l1 hd hi2 n (i + 1) (by omega)
      obtain ⟨b', hb', hp'⟩ := few_l2 hd hi (by omega) hi2 hb docs[i].f3.length 0 (Nat.zero_add _)
      refine ⟨b', Ev.succ (fun k => ?_) hb', fun e => ?_⟩
      · simp only [supercargoref31_Few.l1]
        rw [if_pos (by omega), if_pos (by omega), rd37 hi, if_neg hgt]
        rfl
      · rw [List.drop_eq_getElem_cons hi]
        intro d hd
        rcases List.mem_cons.1 hd with rfl | hd
        · have := (hp' e).2
          rw [List.drop_zero] at this
          exact ⟨by omega, this⟩
        · exact hp (hp' e).1 d hd
abbrev fewK (c : S33) (docs : List S37) (k : Nat) : Option Bool := supercargoref31_Few.f k c.f0 c.f1 c.f2 c.f3 c.f4 c.f5 c.f6 c.f7.f0 c.f7.f1 c.f8 c.f9 c.f10 c.f11 c.f12 c.f13 c.f14 c.f15 c.f16 docs
theorem few_l0 {c : S33} {docs : List S37} (hc : Ok33 c) (hd : OkDs docs) (hn : c.f16.length ≤ 1000) (hi2 : docs.length ≤ 1000) : ∀ (n i : Nat), i + n = c.f16.length →
    ∃ b, Ev (fun k => supercargoref31_Few.l0 k docs (i : Int) c.f0 c.f1 c.f2 c.f3 c.f4 c.f5 c.f6 c.f7.f0 c.f7.f1 c.f8 c.f9 c.f10 c.f11 c.f12 c.f13 c.f14 c.f15 c.f16) b ∧
      (b = true → (∀ n ∈ c.f16.drop i, szP n.f2 ≤ 60) ∧ ∀ d ∈ docs, d.f3.length ≤ 30 ∧ ∀ f ∈ d.f3, f.f0.size + f.f1.size ≤ 300)
  | 0, i, h => by
    obtain ⟨b, hb, hp⟩ := few_l1 hd hi2 docs.length 0 (Nat.zero_add _)
    refine ⟨b, Ev.succ (fun k => ?_) hb, fun e => ⟨?_, ?_⟩⟩
    · simp only [supercargoref31_Few.l0]
      rw [if_neg (by omega)]
      rfl
    · rw [List.drop_eq_nil_of_le (by omega)]
      intro f hf
      cases hf
    · have := hp e
      rwa [List.drop_zero] at this
  | n + 1, i, h => by
    have hi : i < c.f16.length := by omega
    obtain ⟨t, ht, t0, t1, t2⟩ := size_is _ c.f16[i].f2 (Nat.le_refl _) (hc.needs _ (List.getElem_mem hi)).2.2 200 (by omega)
    by_cases hgt : t > 60
    · refine ⟨false, Ev.succ (fun k => ?_) (Ev.bind (h := fun k t => if t > 60 then some false else supercargoref31_Few.l0 k docs ((i + 1 : Nat) : Int) c.f0 c.f1 c.f2 c.f3 c.f4 c.f5 c.f6 c.f7.f0 c.f7.f1 c.f8 c.f9 c.f10 c.f11 c.f12 c.f13 c.f14 c.f15 c.f16) ht ?_), fun e => by cases e⟩
      · simp only [supercargoref31_Few.l0]
        rw [if_pos (by omega), if_pos (by omega), rd45 hi, w64s (by omega)]
      · simp only [if_pos hgt]
        exact Ev.of fun _ => rfl
    · obtain ⟨b, hb, hp⟩ := few_l0 hc hd hn hi2 n (i + 1) (by omega)
      refine ⟨b, Ev.succ (fun k => ?_) (Ev.bind (h := fun k t => if t > 60 then some false else supercargoref31_Few.l0 k docs ((i + 1 : Nat) : Int) c.f0 c.f1 c.f2 c.f3 c.f4 c.f5 c.f6 c.f7.f0 c.f7.f1 c.f8 c.f9 c.f10 c.f11 c.f12 c.f13 c.f14 c.f15 c.f16) ht ?_), fun e => ⟨?_, (hp e).2⟩⟩
      · simp only [supercargoref31_Few.l0]
        rw [if_pos (by omega), if_pos (by omega), rd45 hi, w64s (by omega)]
      · simp only [if_neg hgt]
        exact hb
      · rw [List.drop_eq_getElem_cons hi]
        intro d hd
        rcases List.mem_cons.1 hd with rfl | hd
        · have := t2 (by omega)
          omega
        · exact (hp e).1 d hd
theorem few_ev {c : S33} {docs : List S37} (hc : Ok33 c) (hd : OkDs docs) : ∃ b, Ev (fewK c docs) b ∧ (b = true → FewP c docs) := by
  by_cases h1 : (c.f16.length : Int) > 12
  · refine ⟨false, Ev.congr (g := fun k => supercargoref31_Few.j0 k docs true c.f0 c.f1 c.f2 c.f3 c.f4 c.f5 c.f6 c.f7.f0 c.f7.f1 c.f8 c.f9 c.f10 c.f11 c.f12 c.f13 c.f14 c.f15 c.f16) (fun k => ?_) (Ev.succ (g := fun _ => some false) (fun k => ?_) (Ev.of fun _ => rfl)), fun e => by cases e⟩
    · show supercargoref31_Few.f k _ _ _ _ _ _ _ _ _ _ _ _ _ _ _ _ _ _ _ = _
      unfold supercargoref31_Few.f
      rw [if_pos h1]
    · simp only [supercargoref31_Few.j0]
      rw [if_pos trivial]
  · by_cases h2 : (docs.length : Int) > 12
    · refine ⟨false, Ev.congr (g := fun k => supercargoref31_Few.j0 k docs true c.f0 c.f1 c.f2 c.f3 c.f4 c.f5 c.f6 c.f7.f0 c.f7.f1 c.f8 c.f9 c.f10 c.f11 c.f12 c.f13 c.f14 c.f15 c.f16) (fun k => ?_) (Ev.succ (g := fun _ => some false) (fun k => ?_) (Ev.of fun _ => rfl)), fun e => by cases e⟩
      · show supercargoref31_Few.f k _ _ _ _ _ _ _ _ _ _ _ _ _ _ _ _ _ _ _ = _
        unfold supercargoref31_Few.f
        rw [if_neg h1, decide_eq_true h2]
      · simp only [supercargoref31_Few.j0]
        rw [if_pos trivial]
    · obtain ⟨b, hb, hp⟩ := few_l0 hc hd (by omega) (by omega) c.f16.length 0 (Nat.zero_add _)
      refine ⟨b, Ev.congr (g := fun k => supercargoref31_Few.j0 k docs false c.f0 c.f1 c.f2 c.f3 c.f4 c.f5 c.f6 c.f7.f0 c.f7.f1 c.f8 c.f9 c.f10 c.f11 c.f12 c.f13 c.f14 c.f15 c.f16) (fun k => ?_) (Ev.succ (fun k => ?_) hb), fun e => ?_⟩
      · show supercargoref31_Few.f k _ _ _ _ _ _ _ _ _ _ _ _ _ _ _ _ _ _ _ = _
        unfold supercargoref31_Few.f
        rw [if_neg h1, decide_eq_false h2]
      · simp only [supercargoref31_Few.j0]
        rw [if_neg (by decide)]
        rfl
      · have := hp e
        rw [List.drop_zero] at this
        exact ⟨by omega, by omega, this.1, this.2⟩
end Go.Proofs.YtcibglpbfaffgaaDoor.X
