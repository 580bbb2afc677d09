/- The plain law of ExamineMore. -/
import Derived.Test.YtcibglpbfaffgaaDoorQ3
import Derived.Test.YtcibglpbfaffgaaDoorHA
import Derived.Test.YtcibglpbfaffgaaDoorX12
namespace Go.Proofs.YtcibglpbfaffgaaDoor.X
open Go.RowKit Go.Proofs.YtcibglpbfaffgaaDoorW.PrintWords Go.Proofs.YtcibglpbfaffgaaDoorW.PrintLast Go.Proofs.YtcibglpbfaffgaaDoorW.PrintMore
set_option linter.unusedVariables false
set_option linter.unusedSimpArgs false

theorem field_snoc {d : S37} {kd : Int} (h : kd ≠ d.f0) (n : ByteArray) : ∀ docs : List S37, fieldP (docs ++ [d]) kd n = fieldP docs kd n
  | [] => by
    show (if d.f0 = kd then getOf d.f3 n else fieldP [] kd n) = _
    rw [if_neg (fun e => h e.symm)]
  | x :: xs => by
    show fieldP (x :: (xs ++ [d])) kd n = _
    rw [fieldP, fieldP, field_snoc h n xs]
theorem atom_snoc {docs : List S37} {d dd : S37} {p : S43} (h : p.f0 = 7 → p.f1 ≠ d.f0) : atomP (docs ++ [d]) dd p = atomP docs dd p := by
  unfold atomP
  by_cases h7 : p.f0 = 7
  · rw [field_snoc (h h7)]
  · simp only [if_neg h7]
theorem rule_snoc {docs : List S37} {d dd : S37} : ∀ (n : Nat) (p : S43), szP p ≤ n → likesP d.f0 p = false → ruleP (docs ++ [d]) dd p = ruleP docs dd p
  | 0, p, h, _ => absurd (szP_pos p) (by omega)
  | n + 1, p, h, hl => by
    rw [likesP_eq, Bool.or_eq_false_iff, Bool.and_eq_false_iff] at hl
    obtain ⟨h1, h2⟩ := hl
    have hk : p.f5.map (ruleP (docs ++ [d]) dd) = p.f5.map (ruleP docs dd) := by
      refine List.map_congr_left fun x hx => rule_snoc n x (by have := szP_kid hx; omega) ?_
      cases hlx : likesP d.f0 x with
      | false => rfl
      | true => rw [List.any_eq_true.2 ⟨x, hx, hlx⟩] at h2; exact absurd h2 (by decide)
    have ha : atomP (docs ++ [d]) dd p = atomP docs dd p := atom_snoc fun h7 e => by
      rcases h1 with h1 | h1
      · rw [decide_eq_true h7] at h1; exact absurd h1 (by decide)
      · rw [decide_eq_true e] at h1; exact absurd h1 (by decide)
    rw [ruleP_eq, ruleP_eq, hk, ha]
theorem parts_likes {kd : Int} : ∀ (n : Nat) (p : S43), szP p ≤ n → likesP kd p = false → ∀ q ∈ partsP p, likesP kd q = false
  | 0, p, h, _ => absurd (szP_pos p) (by omega)
  | n + 1, p, h, hl => by
    intro q hq
    rw [partsP_eq] at hq
    split at hq
    · obtain ⟨x, hx, hqx⟩ := List.mem_flatMap.1 hq
      rw [likesP_eq, Bool.or_eq_false_iff] at hl
      refine parts_likes n x (by have := szP_kid hx; omega) ?_ q hqx
      cases hlx : likesP kd x with
      | false => rfl
      | true => have := hl.2; rw [List.any_eq_true.2 ⟨x, hx, hlx⟩] at this; exact absurd this (by decide)
    · rw [List.mem_singleton.1 hq]; exact hl
theorem ruled_snoc {docs : List S37} {d dd : S37} {a : Int} : ∀ ns : List S45, (∀ n ∈ ns, likesP d.f0 n.f2 = false) → ruledC (docs ++ [d]) dd a ns = ruledC docs dd a ns
  | [], _ => rfl
  | n :: ns, h => by
    have h1 := h n (List.mem_cons_self ..)
    have h2 := ruled_snoc (docs := docs) (d := d) (dd := dd) (a := a) ns fun x hx => h x (List.mem_cons_of_mem _ hx)
    have e : ∀ docs', ruledC docs' dd a (n :: ns) = (if n.f0 = dd.f0 then (partsP n.f2).map (partC docs' dd a) else []) ++ ruledC docs' dd a ns := fun _ => rfl
    rw [e, e, h2]
    have hm : (partsP n.f2).map (partC (docs ++ [d]) dd a) = (partsP n.f2).map (partC docs dd a) :=
      List.map_congr_left fun p hp => by
        unfold partC
        rw [rule_snoc _ p (Nat.le_refl _) (parts_likes _ n.f2 (Nat.le_refl _) h1 p hp)]
    rw [hm]
theorem docs_snoc {c : S33} {docs : List S37} {d : S37} {day : Int} (ha : askedB c d.f0 = false) (hl : ∀ n ∈ c.f16, likesP d.f0 n.f2 = false) : ∀ (ds : List S37) (j : Nat) (m : ByteArray → Option ByteArray), docsC c (docs ++ [d]) day (ds ++ [d]) j m = docsC c docs day ds j m
  | [], j, m => by
    show (if askedB c d.f0 = true then _ else docsC c (docs ++ [d]) day [] (j + 1) m) = _
    rw [if_neg (by rw [ha]; decide)]
    rfl
  | x :: xs, j, m => by
    show docsC c (docs ++ [d]) day (x :: (xs ++ [d])) j m = _
    rw [docsC, docsC, ruled_snoc _ hl, docs_snoc ha hl xs, docs_snoc ha hl xs]
theorem cnt_snoc {docs : List S37} {d : S37} {k : Int} (h : d.f0 ≠ k) : cnt (docs ++ [d]) k = cnt docs k := by
  unfold cnt
  rw [List.filter_append, List.length_append]
  simp [h]
theorem need_snoc {docs : List S37} {d : S37} : ∀ ns : List S45, (∀ n ∈ ns, d.f0 ≠ n.f0) → needC (docs ++ [d]) ns = needC docs ns
  | [], _ => rfl
  | n :: ns, h => by
    have e : ∀ docs', needC docs' (n :: ns) = (if (cnt docs' n.f0 : Int) < n.f1 then [⟨-1, n.f0, ⟨#[]⟩, 1⟩] else []) ++ needC docs' ns := fun _ => rfl
    rw [e, e, cnt_snoc (h n (List.mem_cons_self ..)), need_snoc ns fun x hx => h x (List.mem_cons_of_mem _ hx)]
theorem more_law {c : S33} {docs : List S37} {d : S37} (day : Int) (ha : askedB c d.f0 = false) (hl : ∀ n ∈ c.f16, likesP d.f0 n.f2 = false) : exP c (docs ++ [d]) day = exP c docs day := by
  unfold exP exC
  rw [docs_snoc ha hl docs, need_snoc c.f16 fun n hn e => ?_]
  unfold askedB at ha
  rw [List.any_eq_true.2 ⟨n, hn, decide_eq_true e.symm⟩] at ha
  exact absurd ha (by decide)

theorem same_l0 (l : List S25) (hl : l.length ≤ 1000000) : ∀ (m j : Nat), j + m = l.length → Ev (fun k => supercargoref31_Same.l0 k l l (j : Int)) true
  | 0, j, h => Ev.succ (g := fun _ => some true) (fun k => by simp only [supercargoref31_Same.l0]; rw [if_neg (by omega)]) (Ev.of fun _ => rfl)
  | m + 1, j, h => by
    refine Ev.succ (fun k => ?_) (same_l0 l hl m (j + 1) (by omega))
    simp only [supercargoref31_Same.l0]
    rw [if_pos (by omega), if_pos (by omega), if_pos (by omega), if_neg (by simp), w64s (by omega)]
theorem sameC (l : List S25) (A : Option Addr) (c : Nat) (A' : Option Addr) (c' : Nat) (w : World) (hr : Kd.C k25 w A l.length l) (hc : l.length ≤ c) (hr' : Kd.C k25 w A' l.length l) (hc' : l.length ≤ c') (hl : l.length ≤ 1000000) :
    Calls Tryd.prog 17 #[.slice A l.length c, .slice A' l.length c'] w fun e w' => e = .returned (.bool true) ∧ Drawn0 w w' := by
  obtain ⟨k, hk⟩ := (same_l0 l hl l.length 0 (Nat.zero_add _)).get
  refine supercargoref31_Same.calls k A c l A' c' l true w hr hc hr' hc' ?_
  unfold supercargoref31_Same.f
  rw [if_pos rfl]
  exact hk
theorem exP_len {c : S33} {docs : List S37} {day : Int} (hm : MidP c docs) : (exP c docs day).length ≤ 1000000 := by
  have h1 := (told_len (exC c docs day) []).2
  have hd : ∀ (ds : List S37) (j : Nat) (m : ByteArray → Option ByteArray), (docsC c docs day ds j m).length ≤ 20000 * ds.length := by
    intro ds
    induction ds with
    | nil => intro j m; exact Nat.zero_le _
    | cons d ds ih =>
      intro j m
      rw [docsC]
      split
      · have h2 := fixC_len c d j day
        have h3 := ruledC_len docs d j c.f16 hm.rules
        have h4 := shareC_len d.f3 j d.f0 m sharedNames
        have h5 := ih (j + 1) (upd d.f3 m sharedNames)
        have h7 : sharedNames.length = 6 := rfl
        have h8 := hm.needs
        simp only [List.length_append, List.length_cons]
        omega
      · have h5 := ih (j + 1) m
        simp only [List.length_cons]
        omega
  have h2 := hd docs 0 (fun _ => none)
  have h3 := needC_len docs c.f16
  have h4 : (expC c day).length ≤ 1 := by unfold expC; split <;> simp
  have h5 := hm.needs
  have h6 := hm.papers
  unfold exC at h1
  simp only [List.length_append, List.length_nil] at h1
  unfold exP exC
  omega
end Go.Proofs.YtcibglpbfaffgaaDoor.X
