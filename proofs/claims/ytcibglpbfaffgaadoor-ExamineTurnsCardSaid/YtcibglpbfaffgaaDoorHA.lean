/- Contracts of Get, Asked, likes, Parts, by plain facts; a row of one need; appends in a region. -/
import Derived.Test.YtcibglpbfaffgaaDoorH0
import Derived.Test.YtcibglpbfaffgaaDoorX10
import Derived.Test.YtcibglpbfaffgaaDoorX11
import Derived.Test.YtcibglpbfaffgaaDoorX15
import Derived.Test.YtcibglpbfaffgaaDoorX16
namespace Go.Proofs.YtcibglpbfaffgaaDoor.X
open Go Go.RowKit Go.Proofs.YtcibglpbfaffgaaDoorW.PrintWords Go.Proofs.YtcibglpbfaffgaaDoorW.PrintLast Go.Proofs.YtcibglpbfaffgaaDoorW.PrintMore
set_option linter.unusedVariables false
set_option linter.unusedSimpArgs false

theorem drawn_below {w w' : World} (h : Drawn0 w w') : Below w.heap.size w w' := by
  obtain ⟨m, rfl⟩ := h
  exact pw_below_drewN (Below.refl _ _) m
theorem cc_one (c : S33) (A : Option Addr) (n : Nat) : (cc c A n).all (·.oneCell') = true := by simp [cc, Value.oneCell']
theorem heap2 (w : World) (X Y : Obj) : ((w.alloc X).alloc Y).heap[w.heap.size + 1]? = some Y := by
  have := heap_alloc_new (w.alloc X) Y
  simpa using this
theorem heap1 (w : World) (X Y : Obj) : ((w.alloc X).alloc Y).heap[w.heap.size]? = some X := blk_alloc (heap_alloc_new w X) Y
/-- A whole row stored over a row that is there: what is known behind it. -/
theorem wpList_store_event {P : Program} {ops : Array Oper} {rest : List Oper} {o : Oper} {a : Act} {w : World} {Q : Exit → Act → World → Prop} (hgd : o.guard = none) (hN : o.dst = none) (ty : TypeId) (x y : Operand) (ho : o.op = .store ty x y)
    (g : Nat) (cells : Array Value) (hx : a.eval x = .pointer (some ⟨g, 0, none⟩)) (hy : a.eval y = .agg cells) (t : TypeId) (old : Array Value) (hg : w.heap[g]? = some (.cells old t (0, 0))) (hi : (P.info? ty).map (·.size) = some cells.size)
    (hold : old.size = cells.size) (h1 : cells.all (·.oneCell') = true)
    (h : ∀ w1, w1.heap[g]? = some (.cells cells t (0, 0)) → (∀ k, k ≠ g → w1.heap[k]? = w.heap[k]?) → Below g w w1 → wpList P ops Q rest a w1) : wpList P ops Q (o :: rest) a w := by
  refine wpList_store_row hgd ty x y ho g cells hx hy t old hg hi hold h1 ?_
  rw [hN]
  exact h _ (setRow_heap w g old cells t (0, 0) hg) (fun k hk => setRow_other w g k cells hk) ⟨rfl, rfl, rfl, by simp, fun k hk => setRow_other w g k cells (Nat.ne_of_lt hk)⟩

/-! ### Get -/
theorem get_l0 (l : List S66) (n : ByteArray) (hl : l.length ≤ 1000000) : ∀ (m j : Nat), j + m = l.length → Ev (fun k => supercargoref05_Get.l0 k l n (j : Int)) (getOf (l.drop j) n)
  | 0, j, h => by
    rw [List.drop_eq_nil_of_le (by omega)]
    exact Ev.succ (g := fun _ => some (⟨#[]⟩, false)) (fun k => by simp only [supercargoref05_Get.l0]; rw [if_neg (by omega)]) (Ev.of fun _ => rfl)
  | m + 1, j, h => by
    have hj : j < l.length := by omega
    rw [List.drop_eq_getElem_cons hj, getOf]
    by_cases hk : l[j].f0.toList = n.toList
    · rw [if_pos hk]
      refine Ev.succ (g := fun _ => some (l[j].f1, true)) (fun k => ?_) (Ev.of fun _ => rfl)
      simp only [supercargoref05_Get.l0]
      rw [if_pos (by omega), if_pos (by omega), rd66 hj, if_pos hk]
    · rw [if_neg hk]
      refine Ev.succ (fun k => ?_) (get_l0 l n hl m (j + 1) (by omega))
      simp only [supercargoref05_Get.l0]
      rw [if_pos (by omega), if_pos (by omega), rd66 hj, if_neg hk, w64s (by omega)]
theorem getC (l : List S66) (A : Option Addr) (c : Nat) (n : ByteArray) (w : World) (hr : Kd.C k66 w A l.length l) (hc : l.length ≤ c) (hl : l.length ≤ 1000000) :
    Calls Tryd.prog 19 #[.slice A l.length c, .string n] w fun e w' => e = .returned (.tuple #[.string (getOf l n).1, .bool (getOf l n).2]) ∧ Drawn0 w w' := by
  obtain ⟨k, hk⟩ := (get_l0 l n hl l.length 0 (Nat.zero_add _)).get
  exact supercargoref05_Get.calls k A c l n _ _ w hr hc hk

theorem getQ (l : List S66) (A : Option Addr) (c : Nat) (n : ByteArray) (w : World) (hr : Kd.C k66 w A l.length l) (hc : l.length ≤ c) (hl : l.length ≤ 1000000) :
    Calls Tryd.prog 19 #[.slice A l.length c, .string n] w fun e w' => e = .returned (.tuple #[.string (getOf l n).1, .bool (getOf l n).2]) ∧ ∃ m, w' = w.drewN m :=
  (getC l A c n w hr hc hl).mono fun _ _ ⟨h1, h2⟩ => ⟨h1, h2.out⟩

/-! ### Asked -/
theorem asked_l0 (c : S33) (kd : Int) (hl : c.f16.length ≤ 1000000) : ∀ (m j : Nat), j + m = c.f16.length → Ev (fun k => supercargoref31_Asked.l0 k kd (j : Int) c.f0 c.f1 c.f2 c.f3 c.f4 c.f5 c.f6 c.f7.f0 c.f7.f1 c.f8 c.f9 c.f10 c.f11 c.f12 c.f13 c.f14 c.f15 c.f16) ((c.f16.drop j).any fun n => decide (n.f0 = kd))
  | 0, j, h => by
    rw [List.drop_eq_nil_of_le (by omega)]
    exact Ev.succ (g := fun _ => some false) (fun k => by simp only [supercargoref31_Asked.l0]; rw [if_neg (by omega)]) (Ev.of fun _ => rfl)
  | m + 1, j, h => by
    have hj : j < c.f16.length := by omega
    rw [List.drop_eq_getElem_cons hj, List.any_cons]
    by_cases hk : c.f16[j].f0 = kd
    · rw [decide_eq_true hk, Bool.true_or]
      refine Ev.succ (g := fun _ => some true) (fun k => ?_) (Ev.of fun _ => rfl)
      simp only [supercargoref31_Asked.l0]
      rw [if_pos (by omega), if_pos (by omega), rd45 hj, if_pos hk]
    · rw [decide_eq_false hk, Bool.false_or]
      refine Ev.succ (fun k => ?_) (asked_l0 c kd hl m (j + 1) (by omega))
      simp only [supercargoref31_Asked.l0]
      rw [if_pos (by omega), if_pos (by omega), rd45 hj, if_neg hk, w64s (by omega)]
theorem askedC (c : S33) (A : Option Addr) (n : Nat) (kd : Int) (w : World) (hC : Kd.C k45 w A c.f16.length c.f16) (hCn : c.f16.length ≤ n) (hl : c.f16.length ≤ 1000000) :
    Calls Tryd.prog 15 #[.agg (cc c A n), .int .i64 kd] w fun e w' => e = .returned (.bool (askedB c kd)) ∧ Below w.heap.size w w' := by
  obtain ⟨k, hk⟩ := (asked_l0 c kd hl c.f16.length 0 (Nat.zero_add _)).get
  exact supercargoref31_Asked.calls k c.f0 c.f1 c.f2 c.f3 c.f4 c.f5 c.f6 c.f7.f0 c.f7.f1 c.f8 c.f9 c.f10 c.f11 c.f12 c.f13 c.f14 c.f15 A n c.f16 kd _ w hC hCn hk

/-! ### likes -/
mutual
def likesP (kd : Int) : S43 → Bool
  | ⟨f0, f1, f2, f3, f4, l⟩ => (decide (f0 = 7) && decide (f1 = kd)) || likessP kd l
def likessP (kd : Int) : List S43 → Bool
  | [] => false
  | x :: xs => likesP kd x || likessP kd xs
end
theorem likessP_any (kd : Int) : ∀ l, likessP kd l = l.any (likesP kd)
  | [] => by rw [likessP]; rfl
  | x :: xs => by rw [likessP, likessP_any kd xs]; rfl
theorem likesP_eq (kd : Int) (p : S43) : likesP kd p = ((decide (p.f0 = 7) && decide (p.f1 = kd)) || p.f5.any (likesP kd)) := by
  obtain ⟨f0, f1, f2, f3, f4, l⟩ := p
  rw [likesP, likessP_any]
abbrev likesK (p : S43) (kd : Int) (k : Nat) : Option Bool := supercargolaw31_likes.f k p.f0 p.f1 p.f2 p.f3 p.f4 p.f5 kd
theorem likes_l0 (p : S43) (kd : Int) (hl : p.f5.length ≤ 1000000) (ih : ∀ x ∈ p.f5, Ev (likesK x kd) (likesP kd x)) : ∀ (m j : Nat), j + m = p.f5.length → Ev (fun k => supercargolaw31_likes.l0 k kd (j : Int) p.f0 p.f1 p.f2 p.f3 p.f4 p.f5) ((p.f5.drop j).any (likesP kd))
  | 0, j, h => by
    rw [List.drop_eq_nil_of_le (by omega)]
    exact Ev.succ (g := fun _ => some false) (fun k => by simp only [supercargolaw31_likes.l0]; rw [if_neg (by omega)]) (Ev.of fun _ => rfl)
  | m + 1, j, h => by
    have hj : j < p.f5.length := by omega
    rw [List.drop_eq_getElem_cons hj, List.any_cons]
    refine Ev.succ (fun k => ?_) (Ev.bind (h := fun k t => if t = true then some true else supercargolaw31_likes.l0 k kd ((j + 1 : Nat) : Int) p.f0 p.f1 p.f2 p.f3 p.f4 p.f5) (ih p.f5[j] (List.getElem_mem hj)) ?_)
    · simp only [supercargolaw31_likes.l0]
      rw [if_pos (by omega), if_pos (by omega), rd43 hj, w64s (by omega)]
    · cases hb : likesP kd p.f5[j] with
      | true => exact Ev.of fun _ => rfl
      | false => exact likes_l0 p kd hl ih m (j + 1) (by omega)
theorem likes_ev (kd : Int) : ∀ (n : Nat) (p : S43), szP p ≤ n → n ≤ 1000000 → Ev (likesK p kd) (likesP kd p)
  | 0, p, h, _ => absurd (szP_pos p) (by omega)
  | n + 1, p, h, hn => by
    have hlen := szP_len p
    have h0 := likes_l0 p kd (by omega) (fun x hx => likes_ev kd n x (by have := szP_kid hx; omega) (by omega)) p.f5.length 0 (Nat.zero_add _)
    rw [List.drop_zero] at h0
    rw [likesP_eq]
    by_cases h7 : p.f0 = 7
    · by_cases h8 : p.f1 = kd
      · rw [decide_eq_true h7, decide_eq_true h8]
        refine Ev.succ (g := fun k => supercargolaw31_likes.j0 k kd true p.f0 p.f1 p.f2 p.f3 p.f4 p.f5) (fun k => ?_) (Ev.succ (g := fun _ => some true) (fun k => ?_) (Ev.of fun _ => rfl))
        · show supercargolaw31_likes.f (k + 1) p.f0 p.f1 p.f2 p.f3 p.f4 p.f5 kd = _
          simp only [supercargolaw31_likes.f]
          rw [if_pos h7, show (p.f1 == kd) = true from beq_iff_eq.2 h8]
        · simp only [supercargolaw31_likes.j0]
          rw [if_pos trivial]
      · rw [decide_eq_true h7, decide_eq_false h8, Bool.and_false, Bool.false_or]
        refine Ev.succ (g := fun k => supercargolaw31_likes.j0 k kd false p.f0 p.f1 p.f2 p.f3 p.f4 p.f5) (fun k => ?_) (Ev.succ (fun k => ?_) h0)
        · show supercargolaw31_likes.f (k + 1) p.f0 p.f1 p.f2 p.f3 p.f4 p.f5 kd = _
          simp only [supercargolaw31_likes.f]
          rw [if_pos h7, show (p.f1 == kd) = false from beq_eq_false_iff_ne.2 h8]
        · simp only [supercargolaw31_likes.j0]
          rw [if_neg (by decide)]
          rfl
    · rw [decide_eq_false h7, Bool.false_and, Bool.false_or]
      refine Ev.succ (g := fun k => supercargolaw31_likes.j0 k kd false p.f0 p.f1 p.f2 p.f3 p.f4 p.f5) (fun k => ?_) (Ev.succ (fun k => ?_) h0)
      · show supercargolaw31_likes.f (k + 1) p.f0 p.f1 p.f2 p.f3 p.f4 p.f5 kd = _
        simp only [supercargolaw31_likes.f]
        rw [if_neg h7]
      · simp only [supercargolaw31_likes.j0]
        rw [if_neg (by decide)]
        rfl
theorem likesC (p : S43) (A : Option Addr) (n : Nat) (kd : Int) (w : World) (hC : Kd.C k43 w A p.f5.length p.f5) (hn : p.f5.length ≤ n) (hs : szP p ≤ 1000000) :
    Calls Tryd.prog 16 #[.agg #[.int .i64 p.f0, .int .i64 p.f1, .string p.f2, .string p.f3, .int .i64 p.f4, .slice A p.f5.length n], .int .i64 kd] w fun e w' => e = .returned (.bool (likesP kd p)) ∧ Below w.heap.size w w' := by
  obtain ⟨k, hk⟩ := (likes_ev kd 1000000 p hs (Nat.le_refl _)).get
  exact supercargolaw31_likes.calls k p.f0 p.f1 p.f2 p.f3 p.f4 A n p.f5 kd _ w hC hn hk

/-! ### Parts, the document's -/
abbrev refPartsK (p : S43) (k : Nat) : Option (List S43) := supercargoref31_Parts.f k p.f0 p.f1 p.f2 p.f3 p.f4 p.f5
theorem szsP_drop : ∀ (i : Nat) (l : List S43), szsP (l.drop i) ≤ szsP l
  | 0, l => Nat.le_refl _
  | i + 1, [] => Nat.le_refl _
  | i + 1, x :: xs => by
    rw [List.drop_succ_cons, szsP_cons]
    have := szsP_drop i xs
    omega
theorem refParts_l0 (p : S43) (hl : szsP p.f5 ≤ 1000000) (ih : ∀ x ∈ p.f5, Ev (refPartsK x) (partsP x)) :
    ∀ (m j : Nat) (acc : List S43), j + m = p.f5.length → acc.length ≤ 1000000 - szsP (p.f5.drop j) →
      Ev (fun k => supercargoref31_Parts.l0 k acc (j : Int) p.f0 p.f1 p.f2 p.f3 p.f4 p.f5) (acc ++ (p.f5.drop j).flatMap partsP)
  | 0, j, acc, h, ha => by
    rw [List.drop_eq_nil_of_le (by omega), List.flatMap_nil, List.append_nil]
    refine Ev.succ (g := fun _ => some acc) (fun k => ?_) (Ev.of fun _ => rfl)
    simp only [supercargoref31_Parts.l0]
    rw [if_neg (by omega)]
  | m + 1, j, acc, h, ha => by
    have hj : j < p.f5.length := by omega
    have hlen := szsP_len p.f5
    have hd := szsP_drop j p.f5
    rw [List.drop_eq_getElem_cons hj, szsP_cons] at ha hd
    have hx := partsP_len p.f5[j]
    rw [List.drop_eq_getElem_cons hj, List.flatMap_cons, ← List.append_assoc]
    have h1 := refParts_l0 p hl ih m (j + 1) (acc ++ partsP p.f5[j]) (by omega) (by rw [List.length_append]; omega)
    refine Ev.succ (fun k => ?_) (Ev.bind (h := fun k t => if acc.length + t.length < 1759218604441 then supercargoref31_Parts.l0 k (acc ++ t) ((j + 1 : Nat) : Int) p.f0 p.f1 p.f2 p.f3 p.f4 p.f5 else none) (ih p.f5[j] (List.getElem_mem hj)) ?_)
    · simp only [supercargoref31_Parts.l0]
      rw [if_pos (by omega), if_pos (by omega), rd43 hj, w64s (by omega)]
    · simp only [if_pos (show acc.length + (partsP p.f5[j]).length < 1759218604441 by omega)]
      exact h1
theorem refParts_ev : ∀ (n : Nat) (p : S43), szP p ≤ n → n ≤ 1000000 → Ev (refPartsK p) (partsP p)
  | 0, p, h, _ => absurd (szP_pos p) (by omega)
  | n + 1, p, h, hn => by
    have hlen := szP_len p
    have hsz := szP_eq p
    rw [partsP_eq]
    by_cases h0 : p.f0 = 0
    · rw [if_pos h0]
      have h1 := refParts_l0 p (by omega) (fun x hx => refParts_ev n x (by have := szP_kid hx; omega) (by omega)) p.f5.length 0 [] (Nat.zero_add _) (by simp)
      rw [List.drop_zero, List.nil_append] at h1
      refine Ev.succ (fun k => ?_) h1
      show supercargoref31_Parts.f (k + 1) p.f0 p.f1 p.f2 p.f3 p.f4 p.f5 = _
      simp only [supercargoref31_Parts.f]
      rw [if_pos h0]
      rfl
    · rw [if_neg h0]
      refine Ev.succ (g := fun _ => some [p]) (fun k => ?_) (Ev.of fun _ => rfl)
      show supercargoref31_Parts.f (k + 1) p.f0 p.f1 p.f2 p.f3 p.f4 p.f5 = _
      simp only [supercargoref31_Parts.f]
      rw [if_neg h0]
      cases p
      rfl
theorem refPartsC (p : S43) (A : Option Addr) (n : Nat) (w : World) (hC : Kd.C k43 w A p.f5.length p.f5) (hn : p.f5.length ≤ n) (hs : szP p ≤ 1000000) :
    Calls Tryd.prog 35 #[.agg #[.int .i64 p.f0, .int .i64 p.f1, .string p.f2, .string p.f3, .int .i64 p.f4, .slice A p.f5.length n]] w fun e w' => ∃ Ar cr, e = .returned (.slice Ar (partsP p).length cr) ∧ (partsP p).length ≤ cr ∧ Kd.C k43 w' Ar (partsP p).length (partsP p) ∧ Below w.heap.size w w' := by
  obtain ⟨k, hk⟩ := (refParts_ev 1000000 p hs (Nat.le_refl _)).get
  refine (supercargoref31_Parts.calls k p.f0 p.f1 p.f2 p.f3 p.f4 (fun k_ => k_ < w.heap.size) A n p.f5 _ w (Kd.V_mk hn (Kd.C_F k43_heap hC)) hk).mono ?_
  rintro e w' ⟨v0, rfl, ho, hb⟩
  obtain ⟨Ar, cr, rfl⟩ := Kd.N_slice ho
  obtain ⟨h1, h2, h3⟩ := Kd.N_reads' ho
  exact ⟨Ar, cr, rfl, h2, h3, hb⟩

/-! ### A row of one need whose rule has no parts of its own -/
theorem C45_at {w : World} {b : Nat} (x : S45) (hx : x.f2.f5 = []) (h : w.heap[b]? = some (.cells #[.int .i64 x.f0, .int .i64 x.f1, .int .i64 x.f2.f0, .int .i64 x.f2.f1, .string x.f2.f2, .string x.f2.f3, .int .i64 x.f2.f4, .slice none 0 0] 45 (0, 0))) : Kd.C k45 w (some ⟨b, 0, none⟩) 1 [x] := by
  refine ⟨rfl, by decide, fun _ => ⟨_, rfl, fun j p hp => ?_⟩⟩
  cases j with
  | succ j => simp at hp
  | zero =>
    obtain rfl : x = p := by simpa using hp
    refine ⟨_, rfl, k45_mk w x (A7 := none) (c7 := 0) (by rw [hx]; exact Nat.le_refl _) (by rw [hx]; exact ⟨rfl, by decide, fun h => absurd h (by decide)⟩), fun i u hu => ?_⟩
    have e : ((⟨b, 0, none⟩ : Addr).add (0 * k45.sz + i)) = ⟨b, i, none⟩ := by
      have : k45.sz = 8 := rfl
      rw [this]
      unfold Addr.add
      split <;> simp_all
    rw [e]
    rw [hx] at hu
    exact cell_of_blk h (by simpa using hu)
end Go.Proofs.YtcibglpbfaffgaaDoor.X
