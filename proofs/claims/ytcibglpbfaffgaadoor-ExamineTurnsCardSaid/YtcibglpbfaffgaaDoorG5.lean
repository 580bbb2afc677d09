/- What is wrong with a bill of lading: the contract of its function over the state of a teller. -/
import Derived.Test.YtcibglpbfaffgaaDoorG1
import Derived.Test.YtcibglpbfaffgaaDoorG4
import Derived.Test.YtcibglpbfaffgaaDoorX2
import Derived.Test.YtcibglpbfaffgaaDoorX3
import Derived.Test.YtcibglpbfaffgaaDoorX25
namespace Go.Proofs.YtcibglpbfaffgaaDoor.X
open Go.RowKit Go.Proofs.YtcibglpbfaffgaaDoorW.PrintWords Go.Proofs.YtcibglpbfaffgaaDoorW.PrintLast Go.Proofs.YtcibglpbfaffgaaDoorW.PrintMore
set_option linter.unusedVariables false

/-- A block of another make stands as it did behind a tell. -/
theorem blk_fr {base : Nat} {w w' : World} {g M : Nat} {v v' : Value} {L : List S25} (hS : TS base w g M v L) (hF : Fr w w' g M v v') {b : Nat} {cs : Array Value} {t : TypeId} (hb : w.heap[b]? = some (.cells cs t (0, 0))) (h1 : t ≠ 70) (h2 : t ≠ 25) : w'.heap[b]? = some (.cells cs t (0, 0)) := by
  refine (hF.block b (blk_lt hb) ?_ ?_ ?_).trans hb
  · rintro rfl
    rw [hS.blk] at hb
    injection hb with hb
    injection hb with _ hb
    exact h1 hb.symm
  · rintro rfl
    obtain ⟨_, ⟨es, clock, hm, _⟩, _⟩ := hS.seen
    rw [hm] at hb
    exact absurd hb (by simp)
  · intro e
    obtain ⟨cs', hc⟩ := own_typed hS.own b e.symm
    rw [hc] at hb
    injection hb with hb
    injection hb with _ hb
    exact h2 hb.symm

def nIssued : ByteArray := ⟨#[105, 115, 115, 117, 101, 100]⟩
def nSum : ByteArray := ⟨#[115, 117, 109]⟩
def beyondP (day n within : Int) : Bool := (examine_beyond.f day n within).getD false
theorem beyond_is (day n within : Int) : examine_beyond.f day n within = some (beyondP day n within) := by
  have h : ∃ b, examine_beyond.f day n within = some b := by
    unfold examine_beyond.f
    by_cases h1 : day ≥ n
    · rw [if_pos h1]
      by_cases h2 : within < 0
      · rw [if_pos h2]; exact ⟨_, rfl⟩
      · rw [if_neg h2]; exact ⟨_, rfl⟩
    · rw [if_neg h1]
      by_cases h2 : within < 0
      · rw [if_pos h2]; exact ⟨_, rfl⟩
      · rw [if_neg h2]; exact ⟨_, rfl⟩
  obtain ⟨b, h⟩ := h
  rw [beyondP, h]; rfl
/-- Do all values of a paper's fields lie within what a number is read of? -/
def shortF (l : List S66) : Bool := l.all fun f => decide (f.f1.size ≤ lim48)
theorem short_get {l : List S66} (h : shortF l = true) (n : ByteArray) : (getOf l n).1.size ≤ lim48 := by
  induction l with
  | nil => exact Nat.zero_le _
  | cons x xs ih =>
    simp only [shortF, List.all_cons, Bool.and_eq_true, decide_eq_true_eq] at h
    unfold getOf
    split
    · exact h.1
    · exact ih h.2
/-- Why a bill of lading isn't right, by the credit. -/
def ladWhy (c : S33) (l : List S66) (day : Int) : Int :=
  if (getOf l nIssued).2 = false then 1 else if (numOf (getOf l nIssued).1).2 = false then 2 else if (numOf (getOf l nIssued).1).1 > c.f10 then 4 else if beyondP day (numOf (getOf l nIssued).1).1 c.f12 = true then 4 else 0

section
variable {w0 w : World} {g M ba bk bt : Nat} {v : Value} {L : List S25} {a k : Int}
set_option maxHeartbeats 400000 in
set_option maxRecDepth 100000 in
theorem lading32 (c : S33) (A : Option Addr) (n : Nat) (d : S37) (A3 : Option Addr) (n3 : Nat) (day : Int) (hB : Below w0.heap.size w0 w) (hG : Glob w0) (hS : TS w0.heap.size w g M v L)
    (h0 : w.heap[ba]? = some (.cells #[.int .i64 a] 3 (0, 0))) (h1 : w.heap[bk]? = some (.cells #[.int .i64 k] 3 (0, 0))) (h2 : w.heap[bt]? = some (.cells #[.pointer (some ⟨g, 0, none⟩)] 67 (0, 0)))
    (ha : (Lit.int .i64 a).wf = true) (hk : (Lit.int .i64 k).wf = true) (hlen : L.length < 1000000)
    (hd : Kd.C k66 w0 A3 d.f3.length d.f3) (hdc : d.f3.length ≤ n3) (hsh : shortF d.f3 = true) :
    Calls Tryd.prog 32 #[.agg (cc c A n), .agg #[.int .i64 d.f0, .string d.f1, .string d.f2, .slice A3 d.f3.length n3], .int .i64 day, .func (.func 41) #[] #[.pointer (some ⟨ba, 0, none⟩), .pointer (some ⟨bk, 0, none⟩), .pointer (some ⟨bt, 0, none⟩)]] w
      fun e w' => e = .returned (.tuple #[]) ∧ ∃ v', TS w0.heap.size w' g M v' (tellF L ⟨a, k, nIssued, ladWhy c d.f3 day⟩) ∧ Fr w w' g M v v' := by
  have hsz := short_get hsh nIssued
  obtain ⟨gv, gi, hg⟩ : ∃ gv gi, getOf d.f3 nIssued = (gv, gi) := ⟨_, _, rfl⟩
  obtain ⟨nn, nb, hn⟩ : ∃ nn nb, numOf gv = (nn, nb) := ⟨_, _, rfl⟩
  rw [hg] at hsz
  have C1 := fun W (hb : Below w0.heap.size w0 W) => Aside0.mk (field_Get.calls A3 n3 d.f3 nIssued gv gi W (Kd.C_below hd hb) hdc (by rw [field_Get.f, hg]))
  have C2 := fun W (hb : Below w0.heap.size w0 W) => Aside0.mk (field_Number.calls gv nn nb W (Glob_below hG hb) (by rw [field_Number.f, if_pos hsz, hn]))
  have hl : ladWhy c d.f3 day = if gi = false then 1 else if nb = false then 2 else if nn > c.f10 then 4 else if beyondP day nn c.f12 = true then 4 else 0 := by rw [ladWhy, hg]; simp only [hn]
  have HB := Aside0.mk hB
  have HS := Aside0.mk hS
  have H0 := Aside0.mk h0
  have H1 := Aside0.mk h1
  have H2 := Aside0.mk h2
  have HL := Aside0.mk hl
  have T := fun (W : World) (y : Int) (hb : Below w.heap.size w W) (hyw : (Lit.int .i64 y).wf = true) => Aside0.mk (tell41 (name := nIssued) (hS.below hb) (blk_below h0 hb) (blk_below h1 hb) (blk_below h2 hb) ha hk hyw (by decide) hlen)
  unfold nIssued at C1 T
  clear hB hS h0 h1 h2 hd hdc hsh hg hn hsz hl hlen ha hk hG
  cases gi with
  | false =>
    have HL := Aside0.mk (show ladWhy c d.f3 day = 1 from by rw [HL.out]; simp)
    go_enter Tryd.func32, Tryd.ntmps32
    unfold cc
    go_wp2_with fail
    refine (C1 _ (below_alloc (below_alloc HB.out _) _)).out.mono ?_
    rintro e w1 ⟨rfl, hb1⟩
    have HB1 := Aside0.mk (((Below.refl w.heap.size w).alloc (Nat.le_refl _) _).alloc (by simp) _ |>.trans (hb1.mono (by simp; omega)))
    have HCB := Aside0.mk (blk_below (blk_alloc (heap_alloc_new w _) _) hb1)
    clear hb1
    go_wp2_with fail
    refine (C2 _ (HB.out.trans (HB1.out.mono HB.out.size))).out.mono ?_
    rintro e w2 ⟨rfl, hb2⟩
    have HB2 := Aside0.mk (HB1.out.trans (hb2.mono HB1.out.size))
    have HC2 := Aside0.mk (blk_below HCB.out hb2)
    clear hb2
    go_wp2_with fail
    refine (T _ 1 HB2.out (by decide)).out.mono ?_
    rintro e w4 ⟨rfl, v', hts, hfr⟩
    have HTS := Aside0.mk hts
    have HFR := Aside0.mk hfr
    clear hts hfr
    go_wp2
    go_end0
    exact ⟨rfl, v', by rw [HL.out]; exact HTS.out, (Fr.of_below HB2.out g M v).trans HFR.out⟩
  | true =>
    cases nb with
    | false =>
      have HL := Aside0.mk (show ladWhy c d.f3 day = 2 from by rw [HL.out]; simp)
      go_enter Tryd.func32, Tryd.ntmps32
      unfold cc
      go_wp2_with fail
      refine (C1 _ (below_alloc (below_alloc HB.out _) _)).out.mono ?_
      rintro e w1 ⟨rfl, hb1⟩
      have HB1 := Aside0.mk (((Below.refl w.heap.size w).alloc (Nat.le_refl _) _).alloc (by simp) _ |>.trans (hb1.mono (by simp; omega)))
      have HCB := Aside0.mk (blk_below (blk_alloc (heap_alloc_new w _) _) hb1)
      clear hb1
      go_wp2_with fail
      refine (C2 _ (HB.out.trans (HB1.out.mono HB.out.size))).out.mono ?_
      rintro e w2 ⟨rfl, hb2⟩
      have HB2 := Aside0.mk (HB1.out.trans (hb2.mono HB1.out.size))
      have HC2 := Aside0.mk (blk_below HCB.out hb2)
      clear hb2
      go_wp2_with fail
      refine (T _ 2 HB2.out (by decide)).out.mono ?_
      rintro e w4 ⟨rfl, v', hts, hfr⟩
      have HTS := Aside0.mk hts
      have HFR := Aside0.mk hfr
      clear hts hfr
      go_wp2
      go_end0
      exact ⟨rfl, v', by rw [HL.out]; exact HTS.out, (Fr.of_below HB2.out g M v).trans HFR.out⟩
    | true =>
      by_cases c1 : nn > c.f10
      · have c1b : decide (nn > c.f10) = true := decide_eq_true c1
        have HL := Aside0.mk (show ladWhy c d.f3 day = 4 from by rw [HL.out]; simp [c1])
        clear c1
        go_enter Tryd.func32, Tryd.ntmps32
        unfold cc
        go_wp2_with fail
        refine (C1 _ (below_alloc (below_alloc HB.out _) _)).out.mono ?_
        rintro e w1 ⟨rfl, hb1⟩
        have HB1 := Aside0.mk (((Below.refl w.heap.size w).alloc (Nat.le_refl _) _).alloc (by simp) _ |>.trans (hb1.mono (by simp; omega)))
        have HCB := Aside0.mk (blk_below (blk_alloc (heap_alloc_new w _) _) hb1)
        clear hb1
        go_wp2_with fail
        refine (C2 _ (HB.out.trans (HB1.out.mono HB.out.size))).out.mono ?_
        rintro e w2 ⟨rfl, hb2⟩
        have HB2 := Aside0.mk (HB1.out.trans (hb2.mono HB1.out.size))
        have HC2 := Aside0.mk (blk_below HCB.out hb2)
        clear hb2
        have cl : w2.cell? ⟨w.heap.size, 11, none⟩ = some (.int .i64 c.f10) := cell_of_blk HC2.out rfl
        go_wp2_with fail
        refine (T _ 4 HB2.out (by decide)).out.mono ?_
        rintro e w4 ⟨rfl, v', hts, hfr⟩
        have HTS := Aside0.mk hts
        have HFR := Aside0.mk hfr
        clear hts hfr
        go_wp2
        go_end0
        exact ⟨rfl, v', by rw [HL.out]; exact HTS.out, (Fr.of_below HB2.out g M v).trans HFR.out⟩
      · have c1b : decide (nn > c.f10) = false := decide_eq_false c1
        cases hb3 : beyondP day nn c.f12 with
        | true =>
          have C3 := Aside0.mk ((beyond_is day nn c.f12).trans (by rw [hb3]) : examine_beyond.f day nn c.f12 = some true)
          have HL := Aside0.mk (show ladWhy c d.f3 day = 4 from by rw [HL.out]; simp [c1, hb3])
          clear c1 hb3
          go_enter Tryd.func32, Tryd.ntmps32
          unfold cc
          go_wp2_with fail
          refine (C1 _ (below_alloc (below_alloc HB.out _) _)).out.mono ?_
          rintro e w1 ⟨rfl, hb1⟩
          have HB1 := Aside0.mk (((Below.refl w.heap.size w).alloc (Nat.le_refl _) _).alloc (by simp) _ |>.trans (hb1.mono (by simp; omega)))
          have HCB := Aside0.mk (blk_below (blk_alloc (heap_alloc_new w _) _) hb1)
          clear hb1
          go_wp2_with fail
          refine (C2 _ (HB.out.trans (HB1.out.mono HB.out.size))).out.mono ?_
          rintro e w2 ⟨rfl, hb2⟩
          have HB2 := Aside0.mk (HB1.out.trans (hb2.mono HB1.out.size))
          have HC2 := Aside0.mk (blk_below HCB.out hb2)
          clear hb2
          have cl : w2.cell? ⟨w.heap.size, 11, none⟩ = some (.int .i64 c.f10) := cell_of_blk HC2.out rfl
          have cw : w2.cell? ⟨w.heap.size, 13, none⟩ = some (.int .i64 c.f12) := cell_of_blk HC2.out rfl
          go_wp2_with fail
          refine (examine_beyond.calls day nn c.f12 _ _ C3.out).mono ?_
          rintro e w3 ⟨rfl, hd3⟩
          obtain ⟨⟨m3, rfl⟩⟩ := hd3
          have HB3 := Aside0.mk (pw_below_drewN HB2.out m3)
          go_wp2_with fail
          refine (T _ 4 HB3.out (by decide)).out.mono ?_
          rintro e w4 ⟨rfl, v', hts, hfr⟩
          have HTS := Aside0.mk hts
          have HFR := Aside0.mk hfr
          clear hts hfr
          go_wp2
          go_end0
          exact ⟨rfl, v', by rw [HL.out]; exact HTS.out, (Fr.of_below HB3.out g M v).trans HFR.out⟩
        | false =>
          have C3 := Aside0.mk ((beyond_is day nn c.f12).trans (by rw [hb3]) : examine_beyond.f day nn c.f12 = some false)
          have HL := Aside0.mk (show ladWhy c d.f3 day = 0 from by rw [HL.out]; simp [c1, hb3])
          clear c1 hb3
          go_enter Tryd.func32, Tryd.ntmps32
          unfold cc
          go_wp2_with fail
          refine (C1 _ (below_alloc (below_alloc HB.out _) _)).out.mono ?_
          rintro e w1 ⟨rfl, hb1⟩
          have HB1 := Aside0.mk (((Below.refl w.heap.size w).alloc (Nat.le_refl _) _).alloc (by simp) _ |>.trans (hb1.mono (by simp; omega)))
          have HCB := Aside0.mk (blk_below (blk_alloc (heap_alloc_new w _) _) hb1)
          clear hb1
          go_wp2_with fail
          refine (C2 _ (HB.out.trans (HB1.out.mono HB.out.size))).out.mono ?_
          rintro e w2 ⟨rfl, hb2⟩
          have HB2 := Aside0.mk (HB1.out.trans (hb2.mono HB1.out.size))
          have HC2 := Aside0.mk (blk_below HCB.out hb2)
          clear hb2
          have cl : w2.cell? ⟨w.heap.size, 11, none⟩ = some (.int .i64 c.f10) := cell_of_blk HC2.out rfl
          have cw : w2.cell? ⟨w.heap.size, 13, none⟩ = some (.int .i64 c.f12) := cell_of_blk HC2.out rfl
          go_wp2_with fail
          refine (examine_beyond.calls day nn c.f12 _ _ C3.out).mono ?_
          rintro e w3 ⟨rfl, hd3⟩
          obtain ⟨⟨m3, rfl⟩⟩ := hd3
          have HB3 := Aside0.mk (pw_below_drewN HB2.out m3)
          go_wp2
          go_end0
          exact ⟨rfl, v, by rw [HL.out, tellF, if_pos rfl]; exact HS.out.below HB3.out, Fr.of_below HB3.out g M v⟩
end
end Go.Proofs.YtcibglpbfaffgaaDoor.X
