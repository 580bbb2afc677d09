/- Examine as a plain function of a credit, papers and a day: what is told, in order, each once. -/
import Derived.Test.YtcibglpbfaffgaaDoorQ0
namespace Go.Proofs.YtcibglpbfaffgaaDoor.X
open Go.RowKit Go.Proofs.YtcibglpbfaffgaaDoorW.PrintWords Go.Proofs.YtcibglpbfaffgaaDoorW.PrintLast Go.Proofs.YtcibglpbfaffgaaDoorW.PrintMore
set_option linter.unusedVariables false
set_option linter.unusedSimpArgs false

/-! ### Telling one after the other -/
def told (L : List S25) (xs : List S25) : List S25 := xs.foldl tellF L
theorem told_nil (L : List S25) : told L [] = L := rfl
theorem told_cons (L : List S25) (x : S25) (xs : List S25) : told L (x :: xs) = told (tellF L x) xs := rfl
theorem told_append (L xs ys : List S25) : told L (xs ++ ys) = told (told L xs) ys := List.foldl_append
theorem mem_tellF {L : List S25} {x y : S25} : y ∈ tellF L x ↔ y ∈ L ∨ (y = x ∧ x.f3 ≠ 0) := by
  unfold tellF
  by_cases h : x.f3 = 0
  · rw [if_pos h]; simp [h]
  · rw [if_neg h]
    by_cases h2 : x ∈ L
    · rw [if_pos h2]
      constructor
      · exact .inl
      · rintro (h3 | ⟨rfl, _⟩)
        · exact h3
        · exact h2
    · rw [if_neg h2, List.mem_append, List.mem_singleton]
      simp [h]
theorem mem_told {y : S25} : ∀ {xs L : List S25}, y ∈ told L xs ↔ y ∈ L ∨ (y ∈ xs ∧ y.f3 ≠ 0)
  | [], L => by simp [told_nil]
  | x :: xs, L => by
    rw [told_cons, mem_told (xs := xs), mem_tellF, List.mem_cons]
    constructor
    · rintro ((h | ⟨rfl, h⟩) | ⟨h, h'⟩)
      · exact .inl h
      · exact .inr ⟨.inl rfl, h⟩
      · exact .inr ⟨.inr h, h'⟩
    · rintro (h | ⟨rfl | h, h'⟩)
      · exact .inl (.inl h)
      · exact .inl (.inr ⟨rfl, h'⟩)
      · exact .inr ⟨h, h'⟩
theorem nodup_tellF {L : List S25} (h : L.Nodup) (x : S25) : (tellF L x).Nodup := by
  unfold tellF
  split
  · exact h
  · split
    · exact h
    · rename_i h2
      rw [List.nodup_append]
      refine ⟨h, by simp, ?_⟩
      rintro a ha b hb rfl
      rw [List.mem_singleton.1 hb] at ha
      exact h2 ha
theorem nodup_told : ∀ {xs L : List S25}, L.Nodup → (told L xs).Nodup
  | [], _, h => h
  | x :: xs, L, h => nodup_told (xs := xs) (nodup_tellF h x)
theorem told_len : ∀ (xs L : List S25), L.length ≤ (told L xs).length ∧ (told L xs).length ≤ L.length + xs.length
  | [], L => ⟨Nat.le_refl _, Nat.le_refl _⟩
  | x :: xs, L => by
    have h1 := tellF_len L x
    have h2 := told_len xs (tellF L x)
    rw [told_cons, List.length_cons]
    omega

/-! ### What may be told -/
def expC (c : S33) (day : Int) : List S25 := if day > c.f11 then [⟨-1, -1, nExpiry, 4⟩] else []
def needC (docs : List S37) (ns : List S45) : List S25 := ns.flatMap fun n => if (cnt docs n.f0 : Int) < n.f1 then [⟨-1, n.f0, ⟨#[]⟩, 1⟩] else []
def invC (c : S33) (l : List S66) (a k : Int) : List S25 := [⟨a, k, nSeller, partyWhy l nSeller c.f2⟩, ⟨a, k, nBuyer, partyWhy l nBuyer c.f1⟩, ⟨a, k, nCurrency, partyWhy l nCurrency c.f7.f0⟩, ⟨a, k, nSum, sumWhy c l⟩]
def fixC (c : S33) (d : S37) (a day : Int) : List S25 := if d.f0 = 0 then invC c d.f3 a d.f0 else if d.f0 = 2 then [⟨a, d.f0, nIssued, ladWhy c d.f3 day⟩] else []
def partC (docs : List S37) (d : S37) (a : Int) (p : S43) : S25 := ⟨a, d.f0, nameP p, whyP p (ruleP docs d p)⟩
def ruledC (docs : List S37) (d : S37) (a : Int) (ns : List S45) : List S25 := ns.flatMap fun n => if n.f0 = d.f0 then (partsP n.f2).map (partC docs d a) else []
def shareOne (l : List S66) (a k : Int) (m : ByteArray → Option ByteArray) (n : ByteArray) : List S25 :=
  if (getOf l n).2 = false then [] else match m n with
    | none => []
    | some u => if (getOf l n).1.toList = u.toList then [] else [⟨a, k, n, 3⟩]
def shareC (l : List S66) (a k : Int) (m : ByteArray → Option ByteArray) (names : List ByteArray) : List S25 := names.flatMap (shareOne l a k m)
def upd (l : List S66) (m : ByteArray → Option ByteArray) (names : List ByteArray) : ByteArray → Option ByteArray :=
  fun x => if (names.any fun n => decide (x = n)) = true ∧ (getOf l x).2 = true ∧ (m x).isNone = true then some (getOf l x).1 else m x
def docsC (c : S33) (docs : List S37) (day : Int) : List S37 → Nat → (ByteArray → Option ByteArray) → List S25
  | [], _, _ => []
  | d :: ds, a, m => if askedB c d.f0 = true then fixC c d a day ++ (ruledC docs d a c.f16 ++ (shareC d.f3 a d.f0 m sharedNames ++ docsC c docs day ds (a + 1) (upd d.f3 m sharedNames))) else docsC c docs day ds (a + 1) m
def exC (c : S33) (docs : List S37) (day : Int) : List S25 := expC c day ++ (needC docs c.f16 ++ docsC c docs day docs 0 (fun _ => none))
/-- What Examine answers. -/
def exP (c : S33) (docs : List S37) (day : Int) : List S25 := told [] (exC c docs day)
theorem mem_exP {c : S33} {docs : List S37} {day : Int} {x : S25} : x ∈ exP c docs day ↔ x ∈ exC c docs day ∧ x.f3 ≠ 0 := by
  unfold exP
  rw [mem_told]
  simp
theorem nodup_exP (c : S33) (docs : List S37) (day : Int) : (exP c docs day).Nodup := nodup_told List.nodup_nil

theorem expF_told (c : S33) (day : Int) : expF c day = told [] (expC c day) := by
  unfold expF expC
  split <;> rfl
theorem needF_told (docs : List S37) : ∀ (ns : List S45) (L : List S25), needF docs ns L = told L (needC docs ns)
  | [], L => rfl
  | n :: ns, L => by
    rw [needF, needF_told docs ns]
    unfold needC
    rw [List.flatMap_cons, told_append]
    split <;> rfl
theorem invF_told (c : S33) (l : List S66) (a k : Int) (L : List S25) : invF c l a k L = told L (invC c l a k) := rfl
theorem fixF_told (c : S33) (d : S37) (a day : Int) (L : List S25) : fixF c d a day L = told L (fixC c d a day) := by
  unfold fixF fixC
  split
  · exact invF_told ..
  · split <;> rfl
theorem shareC_congr (l : List S66) (a k : Int) {m m' : ByteArray → Option ByteArray} {names : List ByteArray} (h : ∀ n ∈ names, m n = m' n) : shareC l a k m names = shareC l a k m' names := by
  unfold shareC
  induction names with
  | nil => rfl
  | cons n ns ih =>
    rw [List.flatMap_cons, List.flatMap_cons, ih fun x hx => h x (List.mem_cons_of_mem _ hx)]
    have : shareOne l a k m n = shareOne l a k m' n := by unfold shareOne; rw [h n (List.mem_cons_self ..)]
    rw [this]
theorem shareF_told (l : List S66) (a k : Int) : ∀ (names : List ByteArray) (L : List S25) (m : ByteArray → Option ByteArray), names.Nodup → shareF l a k names (L, m) = (told L (shareC l a k m names), upd l m names)
  | [], L, m, _ => by
    rw [shareF]
    refine Prod.ext rfl ?_
    funext x
    simp [upd]
  | n :: ns, L, m, hn => by
    rw [List.nodup_cons] at hn
    have hc : shareC l a k m (n :: ns) = shareOne l a k m n ++ shareC l a k m ns := rfl
    rw [shareF, hc, told_append]
    by_cases hg : (getOf l n).2 = false
    · rw [if_pos hg, shareF_told l a k ns L m hn.2]
      have h1 : shareOne l a k m n = [] := by unfold shareOne; rw [if_pos hg]
      rw [h1]
      refine Prod.ext rfl ?_
      funext x
      unfold upd
      by_cases hx : x = n
      · subst hx; simp [hg]
      · have hdx : decide (x = n) = false := decide_eq_false hx
        simp only [List.any_cons, hdx, Bool.false_or, if_neg hx]
    · rw [if_neg hg]
      have hg' : (getOf l n).2 = true := by simpa using hg
      cases hm : m n with
      | none =>
        simp only [hm]
        rw [shareF_told l a k ns L _ hn.2]
        have h1 : shareOne l a k m n = [] := by unfold shareOne; rw [if_neg hg, hm]
        rw [h1]
        refine Prod.ext ?_ ?_
        · show told L _ = told (told L []) _
          rw [told_nil, shareC_congr l a k (m := fun x => if x = n then some (getOf l n).1 else m x) (m' := m) (names := ns) fun x hx => if_neg fun e => hn.1 (by rw [← e]; exact hx)]
        · funext x
          show upd l (fun x => if x = n then some (getOf l n).1 else m x) ns x = upd l m (n :: ns) x
          unfold upd
          by_cases hx : x = n
          · subst hx; simp [hg', hm]
          · have hdx : decide (x = n) = false := decide_eq_false hx
            simp only [List.any_cons, hdx, Bool.false_or, if_neg hx]
      | some u =>
        simp only [hm]
        have hu : upd l m ns = upd l m (n :: ns) := by
          funext x
          unfold upd
          by_cases hx : x = n
          · subst hx; simp [hm]
          · have hdx : decide (x = n) = false := decide_eq_false hx
            simp only [List.any_cons, hdx, Bool.false_or, if_neg hx]
        by_cases he : (getOf l n).1.toList = u.toList
        · rw [if_pos he, shareF_told l a k ns L m hn.2]
          have h1 : shareOne l a k m n = [] := by unfold shareOne; rw [if_neg hg, hm]; exact if_pos he
          rw [h1, hu]
          rfl
        · rw [if_neg he, shareF_told l a k ns _ m hn.2]
          have h1 : shareOne l a k m n = [⟨a, k, n, 3⟩] := by unfold shareOne; rw [if_neg hg, hm]; exact if_neg he
          rw [h1, hu]
          rfl
theorem names_nodup : sharedNames.Nodup := by decide

/-! ### Bounds -/
structure MidP (c : S33) (docs : List S37) : Prop where
  needs : c.f16.length ≤ 20
  papers : docs.length ≤ 20
  rules : ∀ n ∈ c.f16, szP n.f2 ≤ 500
  fields : ∀ d ∈ docs, shortV d.f3
structure WfP (c : S33) (docs : List S37) : Prop where
  docs : ∀ d ∈ docs, wfI d.f0 = true
  needs : ∀ n ∈ c.f16, wfI n.f0 = true
theorem name_size (p : S43) : (nameP p).size ≤ 200 * szP p := by
  unfold nameP
  have := szP_eq p
  split
  · omega
  · exact Nat.zero_le _
theorem why_in (p : S43) {r : Int} (h : 0 ≤ r ∧ r ≤ 2) : 0 ≤ whyP p r ∧ whyP p r ≤ 3 := by
  unfold whyP
  split <;> omega
theorem partsF_ev (docs : List S37) (d : S37) (a : Int) (hl : docs.length ≤ 1000000) (hs : shortV d.f3) : ∀ (ps : List S43) (L : List S25), (∀ p ∈ ps, szP p ≤ 1000) → L.length + ps.length < 1000000 →
    Ev (fun k => partsF k docs d a ps L) (told L (ps.map (partC docs d a)))
  | [], L, _, _ => Ev.of fun _ => rfl
  | p :: ps, L, hp, hL => by
    have h1 := hp p (List.mem_cons_self ..)
    have h2 := why_in p (ruleP_02 docs d p)
    have h3 := name_size p
    simp only [List.length_cons] at hL
    have hok : okT L (nameP p) (whyP p (ruleP docs d p)) = true := by
      unfold okT
      rw [Bool.and_eq_true, Bool.and_eq_true]
      exact ⟨WalkArith.wf_i64 (by omega), decide_eq_true (by unfold maxLen; omega), decide_eq_true (by omega)⟩
    refine Ev.congr (fun k => by rw [partsF]) (Ev.bind (rule_ev docs d hl hs 1000 p h1 (by omega)) ?_)
    simp only [if_pos hok]
    have h4 := (tellF_len L (partC docs d a p)).2
    exact partsF_ev docs d a hl hs ps _ (fun q hq => hp q (List.mem_cons_of_mem _ hq)) (by unfold partC at h4; omega)
theorem ruledC_len (docs : List S37) (d : S37) (a : Int) : ∀ ns : List S45, (∀ n ∈ ns, szP n.f2 ≤ 500) → (ruledC docs d a ns).length ≤ 500 * ns.length
  | [], _ => Nat.le_refl _
  | n :: ns, h => by
    have h1 := h n (List.mem_cons_self ..)
    have h2 := ruledC_len docs d a ns fun x hx => h x (List.mem_cons_of_mem _ hx)
    have h3 := partsP_len n.f2
    have e : ruledC docs d a (n :: ns) = (if n.f0 = d.f0 then (partsP n.f2).map (partC docs d a) else []) ++ ruledC docs d a ns := rfl
    rw [e, List.length_append, List.length_cons]
    split
    · rw [List.length_map]; omega
    · simp only [List.length_nil]; omega
theorem ruledF_ev (docs : List S37) (d : S37) (a : Int) (hl : docs.length ≤ 1000000) (hs : shortV d.f3) : ∀ (ns : List S45) (L : List S25), (∀ n ∈ ns, szP n.f2 ≤ 500) → L.length + 500 * ns.length < 1000000 →
    Ev (fun k => ruledF k docs d a ns L) (told L (ruledC docs d a ns))
  | [], L, _, _ => Ev.of fun _ => rfl
  | n :: ns, L, hn, hL => by
    have h1 := hn n (List.mem_cons_self ..)
    have e : ruledC docs d a (n :: ns) = (if n.f0 = d.f0 then (partsP n.f2).map (partC docs d a) else []) ++ ruledC docs d a ns := rfl
    have h3 := partsP_len n.f2
    rw [List.length_cons] at hL
    rw [e, told_append]
    by_cases hk : n.f0 = d.f0
    · rw [if_pos hk]
      have h4 := (told_len ((partsP n.f2).map (partC docs d a)) L).2
      rw [List.length_map] at h4
      refine Ev.congr (fun k => by rw [ruledF, if_pos hk]) (Ev.bind (parts_ev 500 n.f2 h1 (by omega)) ?_)
      refine Ev.bind (partsF_ev docs d a hl hs (partsP n.f2) L (fun p hp => by have := (partsP_mem hp).1; omega) (by omega)) ?_
      exact ruledF_ev docs d a hl hs ns _ (fun x hx => hn x (List.mem_cons_of_mem _ hx)) (by omega)
    · rw [if_neg hk]
      refine Ev.congr (fun k => by rw [ruledF, if_neg hk]) ?_
      exact ruledF_ev docs d a hl hs ns L (fun x hx => hn x (List.mem_cons_of_mem _ hx)) (by omega)
theorem fixC_len (c : S33) (d : S37) (a day : Int) : (fixC c d a day).length ≤ 4 := by
  unfold fixC
  split
  · exact Nat.le_refl _
  · split
    · exact (by decide : 1 ≤ 4)
    · exact Nat.zero_le _
theorem shareOne_len (l : List S66) (a k : Int) (m : ByteArray → Option ByteArray) (n : ByteArray) : (shareOne l a k m n).length ≤ 1 := by
  unfold shareOne
  split
  · exact Nat.zero_le _
  · split
    · exact Nat.zero_le _
    · split
      · exact Nat.zero_le _
      · exact Nat.le_refl _
theorem shareC_len (l : List S66) (a k : Int) (m : ByteArray → Option ByteArray) : ∀ names, (shareC l a k m names).length ≤ names.length
  | [] => Nat.le_refl _
  | n :: ns => by
    have h1 := shareOne_len l a k m n
    have h2 := shareC_len l a k m ns
    have e : shareC l a k m (n :: ns) = shareOne l a k m n ++ shareC l a k m ns := rfl
    rw [e, List.length_append, List.length_cons]
    omega
theorem docF_ev (c : S33) (docs : List S37) (day : Int) (hn : c.f16.length ≤ 20) (hr : ∀ n ∈ c.f16, szP n.f2 ≤ 500) (hl : docs.length ≤ 1000000) : ∀ (ds : List S37) (j : Nat) (L : List S25) (m : ByteArray → Option ByteArray), (∀ d ∈ ds, shortV d.f3) → L.length + 20000 * ds.length ≤ 800000 →
    Ev (fun k => docF k c docs day ds j (L, m)) (told L (docsC c docs day ds j m))
  | [], j, L, m, _, _ => Ev.of fun _ => rfl
  | d :: ds, j, L, m, hs, hL => by
    rw [docsC]
    rw [List.length_cons] at hL
    by_cases hk : askedB c d.f0 = true
    · rw [if_pos hk, told_append, told_append, told_append]
      have h1 := (told_len (fixC c d j day) L).2
      have h2 := fixC_len c d j day
      have h3 := (told_len (ruledC docs d j c.f16) (told L (fixC c d j day))).2
      have h4 := ruledC_len docs d j c.f16 hr
      have h5 := (told_len (shareC d.f3 j d.f0 m sharedNames) (told (told L (fixC c d j day)) (ruledC docs d j c.f16))).2
      have h6 := shareC_len d.f3 j d.f0 m sharedNames
      have h7 : sharedNames.length = 6 := rfl
      refine Ev.congr (fun k => by rw [docF, if_pos hk, if_pos (show L.length < 900000 by omega), fixF_told]) (Ev.bind (ruledF_ev docs d j hl (hs d (List.mem_cons_self ..)) c.f16 (told L (fixC c d j day)) hr (by omega)) ?_)
      simp only [if_pos (show (told (told L (fixC c d j day)) (ruledC docs d j c.f16)).length < 900000 by omega)]
      simp only [shareF_told d.f3 j d.f0 sharedNames _ m names_nodup]
      exact docF_ev c docs day hn hr hl ds (j + 1) _ _ (fun x hx => hs x (List.mem_cons_of_mem _ hx)) (by omega)
    · rw [if_neg hk]
      refine Ev.congr (fun k => by rw [docF, if_neg hk]) ?_
      exact docF_ev c docs day hn hr hl ds (j + 1) L m (fun x hx => hs x (List.mem_cons_of_mem _ hx)) (by omega)
theorem needC_len (docs : List S37) : ∀ ns, (needC docs ns).length ≤ ns.length
  | [] => Nat.le_refl _
  | n :: ns => by
    have h2 := needC_len docs ns
    have e : needC docs (n :: ns) = (if (cnt docs n.f0 : Int) < n.f1 then [⟨-1, n.f0, ⟨#[]⟩, 1⟩] else []) ++ needC docs ns := rfl
    rw [e, List.length_append, List.length_cons]
    split
    · simp only [List.length_singleton]; omega
    · simp only [List.length_nil]; omega
theorem exF_ev (c : S33) (docs : List S37) (day : Int) (hm : MidP c docs) (hw : WfP c docs) : Ev (fun k => exF k c docs day) (exP c docs day) := by
  have hd := hm.papers
  have hn := hm.needs
  have hok : okE c docs = true := by
    simp only [okE, Bool.and_eq_true, List.all_eq_true, decide_eq_true_eq]
    refine ⟨fun d hd => ⟨hw.docs d hd, ?_⟩, fun n hn => hw.needs n hn, by omega, by omega⟩
    simp only [shortF, List.all_eq_true, decide_eq_true_eq]
    intro f hf
    exact Nat.le_trans (hm.fields d hd f hf) (by decide)
  unfold exP exC
  rw [told_append, told_append]
  refine Ev.congr (fun k => by rw [exF, if_pos hok, needF_told, expF_told]) ?_
  have h1 := (told_len (expC c day) []).2
  have h2 : (expC c day).length ≤ 1 := by unfold expC; split <;> simp
  have h3 := (told_len (needC docs c.f16) (told [] (expC c day))).2
  have h4 := needC_len docs c.f16
  simp only [List.length_nil] at h1
  exact docF_ev c docs day hm.needs hm.rules (by omega) docs 0 _ _ hm.fields (by omega)
end Go.Proofs.YtcibglpbfaffgaaDoor.X
