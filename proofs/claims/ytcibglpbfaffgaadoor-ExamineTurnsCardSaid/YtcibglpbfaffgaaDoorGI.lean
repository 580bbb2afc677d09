/- What is wrong with an invoice: the contract of its function over the state of a teller. -/
import Derived.Test.YtcibglpbfaffgaaDoorG5
namespace Go.Proofs.YtcibglpbfaffgaaDoor.X
open Go.RowKit Go.Proofs.YtcibglpbfaffgaaDoorW.PrintWords Go.Proofs.YtcibglpbfaffgaaDoorW.PrintLast Go.Proofs.YtcibglpbfaffgaaDoorW.PrintMore
set_option linter.unusedVariables false
set_option linter.unusedSimpArgs false

def nSeller : ByteArray := ⟨#[115, 101, 108, 108, 101, 114]⟩
def nBuyer : ByteArray := ⟨#[98, 117, 121, 101, 114]⟩
def nCurrency : ByteArray := ⟨#[99, 117, 114, 114, 101, 110, 99, 121]⟩
def partyWhy (l : List S66) (n want : ByteArray) : Int := if (getOf l n).2 = false then 1 else if (getOf l n).1.toList = want.toList then 0 else 3
def sumWhy (c : S33) (l : List S66) : Int :=
  if (getOf l nSum).2 = false then 1 else if (numOf (getOf l nSum).1).2 = false then 2 else if bnd c = false then 0 else if (numOf (getOf l nSum).1).1 > mostOf c then 5 else if (numOf (getOf l nSum).1).1 < leastOf c then 6 else 0
/-- The names and the texts of the first three fields that an invoice is asked for. -/
def ivName : Nat → ByteArray
  | 0 => nSeller
  | 1 => nBuyer
  | _ => nCurrency
def ivWant (c : S33) : Nat → ByteArray
  | 0 => c.f2
  | 1 => c.f1
  | _ => c.f7.f0
def ivL (c : S33) (l : List S66) (a k : Int) (L : List S25) : Nat → List S25
  | 0 => L
  | j + 1 => tellF (ivL c l a k L j) ⟨a, k, ivName j, partyWhy l (ivName j) (ivWant c j)⟩
def invF (c : S33) (l : List S66) (a k : Int) (L : List S25) : List S25 := tellF (ivL c l a k L 3) ⟨a, k, nSum, sumWhy c l⟩
theorem tellF_len (L : List S25) (x : S25) : L.length ≤ (tellF L x).length ∧ (tellF L x).length ≤ L.length + 1 := by
  unfold tellF
  split
  · omega
  · split
    · omega
    · simp
theorem ivL_len (c : S33) (l : List S66) (a k : Int) (L : List S25) : ∀ j, (ivL c l a k L j).length ≤ L.length + j
  | 0 => Nat.le_refl _
  | j + 1 => by have := ivL_len c l a k L j; have := (tellF_len (ivL c l a k L j) ⟨a, k, ivName j, partyWhy l (ivName j) (ivWant c j)⟩).2; rw [ivL]; omega

section
variable {w0 w : World} {g M ba bk bt : Nat} {v : Value} {L : List S25} {a k : Int}
set_option maxHeartbeats 1600000 in
set_option maxRecDepth 100000 in
theorem invoice31 (c : S33) (A : Option Addr) (n : Nat) (d : S37) (A3 : Option Addr) (n3 : Nat) (hB : Below w0.heap.size w0 w) (hG : Glob w0) (hS : TS w0.heap.size w g M v L)
    (h0 : w.heap[ba]? = some (.cells #[.int .i64 a] 3 (0, 0))) (h1 : w.heap[bk]? = some (.cells #[.int .i64 k] 3 (0, 0))) (h2 : w.heap[bt]? = some (.cells #[.pointer (some ⟨g, 0, none⟩)] 67 (0, 0)))
    (ha : (Lit.int .i64 a).wf = true) (hk : (Lit.int .i64 k).wf = true) (hlen : L.length < 900000)
    (hd : Kd.C k66 w0 A3 d.f3.length d.f3) (hdc : d.f3.length ≤ n3) (hsh : shortF d.f3 = true) :
    Calls Tryd.prog 31 #[.agg (cc c A n), .agg #[.int .i64 d.f0, .string d.f1, .string d.f2, .slice A3 d.f3.length n3], .func (.func 41) #[] #[.pointer (some ⟨ba, 0, none⟩), .pointer (some ⟨bk, 0, none⟩), .pointer (some ⟨bt, 0, none⟩)]] w
      fun e w' => e = .returned (.tuple #[]) ∧ ∃ v', TS w0.heap.size w' g M v' (invF c d.f3 a k L) ∧ Fr w w' g M v v' := by
  have hu33 := Tryd.underlying33
  obtain ⟨W1, hW1⟩ : ∃ W1, W1 = (((w.alloc (.cells (cc c A n) 33)).alloc (.cells #[.int .i64 d.f0, .string d.f1, .string d.f2, .slice A3 d.f3.length n3] 37)).alloc (.cells #[.string nSeller, .string c.f2, .string nBuyer, .string c.f1, .string nCurrency, .string c.f7.f0] 91)) := ⟨_, rfl⟩
  have HBW : Aside0 (Below w.heap.size w W1) := ⟨by rw [hW1]; exact below_alloc (below_alloc (below_alloc (Below.refl _ _) _) _) _⟩
  have HCB : Aside0 (W1.heap[w.heap.size]? = some (.cells (cc c A n) 33 (0, 0))) := ⟨by rw [hW1]; exact blk_alloc (blk_alloc (heap_alloc_new w _) _) _⟩
  have HDB : Aside0 (W1.heap[w.heap.size + 1]? = some (.cells #[.int .i64 d.f0, .string d.f1, .string d.f2, .slice A3 d.f3.length n3] 37 (0, 0))) := ⟨by rw [hW1]; have := heap_alloc_new (w.alloc (.cells (cc c A n) 33)) (.cells #[.int .i64 d.f0, .string d.f1, .string d.f2, .slice A3 d.f3.length n3] 37); exact blk_alloc (by simpa using this) _⟩
  have HRB : Aside0 (W1.heap[w.heap.size + 1 + 1]? = some (.cells #[.string nSeller, .string c.f2, .string nBuyer, .string c.f1, .string nCurrency, .string c.f7.f0] 91 (0, 0))) := ⟨by rw [hW1]; have := heap_alloc_new ((w.alloc (.cells (cc c A n) 33)).alloc (.cells #[.int .i64 d.f0, .string d.f1, .string d.f2, .slice A3 d.f3.length n3] 37)) (.cells #[.string nSeller, .string c.f2, .string nBuyer, .string c.f1, .string nCurrency, .string c.f7.f0] 91); simpa using this⟩
  have HS1 := Aside0.mk (hS.below HBW.out)
  have HB1 := Aside0.mk (hB.trans (HBW.out.mono hB.size))
  have E0 := Aside0.mk (blk_below h0 HBW.out)
  have E1 := Aside0.mk (blk_below h1 HBW.out)
  have E2 := Aside0.mk (blk_below h2 HBW.out)
  have HHd := Aside0.mk hd
  have HG := Aside0.mk hG
  have HDC := Aside0.mk hdc
  have HA := Aside0.mk ha
  have HK := Aside0.mk hk
  have HSH := Aside0.mk hsh
  have HLEN := Aside0.mk hlen
  have IL := fun j => Aside0.mk (ivL_len c d.f3 a k L j)
  unfold cc nSeller nBuyer nCurrency at hW1
  unfold cc
  have HW1 := Aside0.mk hW1
  clear hB hS h0 h1 h2 hd hG hdc ha hk hsh hlen hW1
  go_enter Tryd.func31, Tryd.ntmps31
  go_wp2
  rw [← HW1.out]
  go_loopw [31] (fun i wr => (i = .int .i64 0 ∧ ∃ v1, Aside0 (TS w0.heap.size wr g M v1 (ivL c d.f3 a k L 0)) ∧ Aside0 (Fr W1 wr g M v v1)) ∨ (i = .int .i64 1 ∧ ∃ v1, Aside0 (TS w0.heap.size wr g M v1 (ivL c d.f3 a k L 1)) ∧ Aside0 (Fr W1 wr g M v v1)) ∨ (i = .int .i64 2 ∧ ∃ v1, Aside0 (TS w0.heap.size wr g M v1 (ivL c d.f3 a k L 2)) ∧ Aside0 (Fr W1 wr g M v v1)) ∨ (i = .int .i64 3 ∧ ∃ v1, Aside0 (TS w0.heap.size wr g M v1 (ivL c d.f3 a k L 3)) ∧ Aside0 (Fr W1 wr g M v v1))) (fun i _ => 3 - (intOf i).toNat)
  case atStart => exact .inl ⟨rfl, v, HS1, ⟨Fr.refl _ _ _ _⟩⟩
  case round =>
    rcases hrel with ⟨rfl, v1, HSr, HF⟩ | ⟨rfl, v1, HSr, HF⟩ | ⟨rfl, v1, HSr, HF⟩ | ⟨rfl, v1, HSr, HF⟩
    · have HBr := Aside0.mk (HB1.out.trans (HF.out.base HS1.out HB1.out.size))
      have rb := blk_fr HS1.out HF.out HRB.out (by decide) (by decide)
      have r0 : wr.cell? ⟨w.heap.size + 1 + 1, 0, none⟩ = some (.string nSeller) := cell_of_blk rb rfl
      have r1 : wr.cell? ⟨w.heap.size + 1 + 1, 1, none⟩ = some (.string c.f2) := cell_of_blk rb rfl
      have db := blk_fr HS1.out HF.out HDB.out (by decide) (by decide)
      have d3 : wr.cell? ⟨w.heap.size + 1, 3, none⟩ = some (.slice A3 d.f3.length n3) := cell_of_blk db rfl
      have ld := (cell_lt d3).2
      have dn3 := fun o => cell_new wr o d3 ld
      have hl1 : (ivL c d.f3 a k L 0).length < 1000000 := by have := (IL 0).out; have := HLEN.out; omega
      have T := fun (W : World) (y : Int) (hb : Below wr.heap.size wr W) (hyw : (Lit.int .i64 y).wf = true) => Aside0.mk (tell41 (name := nSeller) (HSr.out.below hb) (blk_below (blk_fr HS1.out HF.out E0.out (by decide) (by decide)) hb) (blk_below (blk_fr HS1.out HF.out E1.out (by decide) (by decide)) hb) (blk_below (blk_fr HS1.out HF.out E2.out (by decide) (by decide)) hb) HA.out HK.out hyw (by decide) hl1)
      obtain ⟨gv, gi, hg⟩ : ∃ gv gi, getOf d.f3 nSeller = (gv, gi) := ⟨_, _, rfl⟩
      have hp : partyWhy d.f3 nSeller c.f2 = if gi = false then 1 else if gv.toList = c.f2.toList then 0 else 3 := by rw [partyWhy, hg]
      have hx : ivL c d.f3 a k L 1 = tellF (ivL c d.f3 a k L 0) ⟨a, k, nSeller, partyWhy d.f3 nSeller c.f2⟩ := rfl
      rw [hp] at hx
      have HX := Aside0.mk hx
      have C1 := Aside0.mk (fun W (hb : Below w0.heap.size w0 W) => field_Get.calls A3 n3 d.f3 nSeller gv gi W (Kd.C_below HHd.out hb) HDC.out (by rw [field_Get.f, hg]))
      unfold nSeller at C1 T r0
      clear rb db hl1 hg hp hx
      cases gi with
      | false =>
        rw [if_pos rfl] at HX
        go_wp2_with fail
        refine (C1.out _ (below_alloc HBr.out _)).mono ?_
        rintro e w2 ⟨rfl, hb2⟩
        have HB2 := Aside0.mk ((below_alloc (Below.refl wr.heap.size wr) (.cells #[.string ⟨#[115, 101, 108, 108, 101, 114]⟩, .string c.f2] 91)).trans (hb2.mono (by simp)))
        have qb := blk_below (heap_alloc_new wr _) hb2
        have q0 : w2.cell? ⟨wr.heap.size, 0, none⟩ = some (.string ⟨#[115, 101, 108, 108, 101, 114]⟩) := cell_of_blk qb rfl
        have q1 : w2.cell? ⟨wr.heap.size, 1, none⟩ = some (.string c.f2) := cell_of_blk qb rfl
        clear hb2 qb
        go_wp2_with fail
        refine (T _ 1 HB2.out (by decide)).out.mono ?_
        rintro e w4 ⟨rfl, v', hts, hfr⟩
        have HTS := Aside0.mk hts
        have HFR := Aside0.mk hfr
        clear hts hfr
        go_wp2
        go_roundw
        case rel => exact (.inr (.inl ⟨rfl, v', ⟨by rw [HX.out]; exact HTS.out⟩, ⟨HF.out.trans ((Fr.of_below HB2.out g M v1).trans HFR.out)⟩⟩))
        case measure => simp [intOf]
      | true =>
        rw [if_neg (by decide)] at HX
        by_cases he : gv.toList = c.f2.toList
        · have heb : (gv.toList == c.f2.toList) = true := beq_iff_eq.2 he
          rw [if_pos he] at HX
          clear he
          go_wp2_with fail
          refine (C1.out _ (below_alloc HBr.out _)).mono ?_
          rintro e w2 ⟨rfl, hb2⟩
          have HB2 := Aside0.mk ((below_alloc (Below.refl wr.heap.size wr) (.cells #[.string ⟨#[115, 101, 108, 108, 101, 114]⟩, .string c.f2] 91)).trans (hb2.mono (by simp)))
          have qb := blk_below (heap_alloc_new wr _) hb2
          have q0 : w2.cell? ⟨wr.heap.size, 0, none⟩ = some (.string ⟨#[115, 101, 108, 108, 101, 114]⟩) := cell_of_blk qb rfl
          have q1 : w2.cell? ⟨wr.heap.size, 1, none⟩ = some (.string c.f2) := cell_of_blk qb rfl
          clear hb2 qb
          go_wp2
          go_roundw
          case rel => exact (.inr (.inl ⟨rfl, v1, ⟨by rw [HX.out, tellF, if_pos rfl]; exact HSr.out.below HB2.out⟩, ⟨HF.out.trans (Fr.of_below HB2.out g M v1)⟩⟩))
          case measure => simp [intOf]
        · have heb : (gv.toList == c.f2.toList) = false := beq_eq_false_iff_ne.2 he
          rw [if_neg he] at HX
          clear he
          go_wp2_with fail
          refine (C1.out _ (below_alloc HBr.out _)).mono ?_
          rintro e w2 ⟨rfl, hb2⟩
          have HB2 := Aside0.mk ((below_alloc (Below.refl wr.heap.size wr) (.cells #[.string ⟨#[115, 101, 108, 108, 101, 114]⟩, .string c.f2] 91)).trans (hb2.mono (by simp)))
          have qb := blk_below (heap_alloc_new wr _) hb2
          have q0 : w2.cell? ⟨wr.heap.size, 0, none⟩ = some (.string ⟨#[115, 101, 108, 108, 101, 114]⟩) := cell_of_blk qb rfl
          have q1 : w2.cell? ⟨wr.heap.size, 1, none⟩ = some (.string c.f2) := cell_of_blk qb rfl
          clear hb2 qb
          go_wp2_with fail
          refine (T _ 3 HB2.out (by decide)).out.mono ?_
          rintro e w4 ⟨rfl, v', hts, hfr⟩
          have HTS := Aside0.mk hts
          have HFR := Aside0.mk hfr
          clear hts hfr
          go_wp2
          go_roundw
          case rel => exact (.inr (.inl ⟨rfl, v', ⟨by rw [HX.out]; exact HTS.out⟩, ⟨HF.out.trans ((Fr.of_below HB2.out g M v1).trans HFR.out)⟩⟩))
          case measure => simp [intOf]
    · have HBr := Aside0.mk (HB1.out.trans (HF.out.base HS1.out HB1.out.size))
      have rb := blk_fr HS1.out HF.out HRB.out (by decide) (by decide)
      have r0 : wr.cell? ⟨w.heap.size + 1 + 1, 2, none⟩ = some (.string nBuyer) := cell_of_blk rb rfl
      have r1 : wr.cell? ⟨w.heap.size + 1 + 1, 3, none⟩ = some (.string c.f1) := cell_of_blk rb rfl
      have db := blk_fr HS1.out HF.out HDB.out (by decide) (by decide)
      have d3 : wr.cell? ⟨w.heap.size + 1, 3, none⟩ = some (.slice A3 d.f3.length n3) := cell_of_blk db rfl
      have ld := (cell_lt d3).2
      have dn3 := fun o => cell_new wr o d3 ld
      have hl1 : (ivL c d.f3 a k L 1).length < 1000000 := by have := (IL 1).out; have := HLEN.out; omega
      have T := fun (W : World) (y : Int) (hb : Below wr.heap.size wr W) (hyw : (Lit.int .i64 y).wf = true) => Aside0.mk (tell41 (name := nBuyer) (HSr.out.below hb) (blk_below (blk_fr HS1.out HF.out E0.out (by decide) (by decide)) hb) (blk_below (blk_fr HS1.out HF.out E1.out (by decide) (by decide)) hb) (blk_below (blk_fr HS1.out HF.out E2.out (by decide) (by decide)) hb) HA.out HK.out hyw (by decide) hl1)
      obtain ⟨gv, gi, hg⟩ : ∃ gv gi, getOf d.f3 nBuyer = (gv, gi) := ⟨_, _, rfl⟩
      have hp : partyWhy d.f3 nBuyer c.f1 = if gi = false then 1 else if gv.toList = c.f1.toList then 0 else 3 := by rw [partyWhy, hg]
      have hx : ivL c d.f3 a k L 2 = tellF (ivL c d.f3 a k L 1) ⟨a, k, nBuyer, partyWhy d.f3 nBuyer c.f1⟩ := rfl
      rw [hp] at hx
      have HX := Aside0.mk hx
      have C1 := Aside0.mk (fun W (hb : Below w0.heap.size w0 W) => field_Get.calls A3 n3 d.f3 nBuyer gv gi W (Kd.C_below HHd.out hb) HDC.out (by rw [field_Get.f, hg]))
      unfold nBuyer at C1 T r0
      clear rb db hl1 hg hp hx
      cases gi with
      | false =>
        rw [if_pos rfl] at HX
        go_wp2_with fail
        refine (C1.out _ (below_alloc HBr.out _)).mono ?_
        rintro e w2 ⟨rfl, hb2⟩
        have HB2 := Aside0.mk ((below_alloc (Below.refl wr.heap.size wr) (.cells #[.string ⟨#[98, 117, 121, 101, 114]⟩, .string c.f1] 91)).trans (hb2.mono (by simp)))
        have qb := blk_below (heap_alloc_new wr _) hb2
        have q0 : w2.cell? ⟨wr.heap.size, 0, none⟩ = some (.string ⟨#[98, 117, 121, 101, 114]⟩) := cell_of_blk qb rfl
        have q1 : w2.cell? ⟨wr.heap.size, 1, none⟩ = some (.string c.f1) := cell_of_blk qb rfl
        clear hb2 qb
        go_wp2_with fail
        refine (T _ 1 HB2.out (by decide)).out.mono ?_
        rintro e w4 ⟨rfl, v', hts, hfr⟩
        have HTS := Aside0.mk hts
        have HFR := Aside0.mk hfr
        clear hts hfr
        go_wp2
        go_roundw
        case rel => exact (.inr (.inr (.inl ⟨rfl, v', ⟨by rw [HX.out]; exact HTS.out⟩, ⟨HF.out.trans ((Fr.of_below HB2.out g M v1).trans HFR.out)⟩⟩)))
        case measure => simp [intOf]
      | true =>
        rw [if_neg (by decide)] at HX
        by_cases he : gv.toList = c.f1.toList
        · have heb : (gv.toList == c.f1.toList) = true := beq_iff_eq.2 he
          rw [if_pos he] at HX
          clear he
          go_wp2_with fail
          refine (C1.out _ (below_alloc HBr.out _)).mono ?_
          rintro e w2 ⟨rfl, hb2⟩
          have HB2 := Aside0.mk ((below_alloc (Below.refl wr.heap.size wr) (.cells #[.string ⟨#[98, 117, 121, 101, 114]⟩, .string c.f1] 91)).trans (hb2.mono (by simp)))
          have qb := blk_below (heap_alloc_new wr _) hb2
          have q0 : w2.cell? ⟨wr.heap.size, 0, none⟩ = some (.string ⟨#[98, 117, 121, 101, 114]⟩) := cell_of_blk qb rfl
          have q1 : w2.cell? ⟨wr.heap.size, 1, none⟩ = some (.string c.f1) := cell_of_blk qb rfl
          clear hb2 qb
          go_wp2
          go_roundw
          case rel => exact (.inr (.inr (.inl ⟨rfl, v1, ⟨by rw [HX.out, tellF, if_pos rfl]; exact HSr.out.below HB2.out⟩, ⟨HF.out.trans (Fr.of_below HB2.out g M v1)⟩⟩)))
          case measure => simp [intOf]
        · have heb : (gv.toList == c.f1.toList) = false := beq_eq_false_iff_ne.2 he
          rw [if_neg he] at HX
          clear he
          go_wp2_with fail
          refine (C1.out _ (below_alloc HBr.out _)).mono ?_
          rintro e w2 ⟨rfl, hb2⟩
          have HB2 := Aside0.mk ((below_alloc (Below.refl wr.heap.size wr) (.cells #[.string ⟨#[98, 117, 121, 101, 114]⟩, .string c.f1] 91)).trans (hb2.mono (by simp)))
          have qb := blk_below (heap_alloc_new wr _) hb2
          have q0 : w2.cell? ⟨wr.heap.size, 0, none⟩ = some (.string ⟨#[98, 117, 121, 101, 114]⟩) := cell_of_blk qb rfl
          have q1 : w2.cell? ⟨wr.heap.size, 1, none⟩ = some (.string c.f1) := cell_of_blk qb rfl
          clear hb2 qb
          go_wp2_with fail
          refine (T _ 3 HB2.out (by decide)).out.mono ?_
          rintro e w4 ⟨rfl, v', hts, hfr⟩
          have HTS := Aside0.mk hts
          have HFR := Aside0.mk hfr
          clear hts hfr
          go_wp2
          go_roundw
          case rel => exact (.inr (.inr (.inl ⟨rfl, v', ⟨by rw [HX.out]; exact HTS.out⟩, ⟨HF.out.trans ((Fr.of_below HB2.out g M v1).trans HFR.out)⟩⟩)))
          case measure => simp [intOf]
    · have HBr := Aside0.mk (HB1.out.trans (HF.out.base HS1.out HB1.out.size))
      have rb := blk_fr HS1.out HF.out HRB.out (by decide) (by decide)
      have r0 : wr.cell? ⟨w.heap.size + 1 + 1, 4, none⟩ = some (.string nCurrency) := cell_of_blk rb rfl
      have r1 : wr.cell? ⟨w.heap.size + 1 + 1, 5, none⟩ = some (.string c.f7.f0) := cell_of_blk rb rfl
      have db := blk_fr HS1.out HF.out HDB.out (by decide) (by decide)
      have d3 : wr.cell? ⟨w.heap.size + 1, 3, none⟩ = some (.slice A3 d.f3.length n3) := cell_of_blk db rfl
      have ld := (cell_lt d3).2
      have dn3 := fun o => cell_new wr o d3 ld
      have hl1 : (ivL c d.f3 a k L 2).length < 1000000 := by have := (IL 2).out; have := HLEN.out; omega
      have T := fun (W : World) (y : Int) (hb : Below wr.heap.size wr W) (hyw : (Lit.int .i64 y).wf = true) => Aside0.mk (tell41 (name := nCurrency) (HSr.out.below hb) (blk_below (blk_fr HS1.out HF.out E0.out (by decide) (by decide)) hb) (blk_below (blk_fr HS1.out HF.out E1.out (by decide) (by decide)) hb) (blk_below (blk_fr HS1.out HF.out E2.out (by decide) (by decide)) hb) HA.out HK.out hyw (by decide) hl1)
      obtain ⟨gv, gi, hg⟩ : ∃ gv gi, getOf d.f3 nCurrency = (gv, gi) := ⟨_, _, rfl⟩
      have hp : partyWhy d.f3 nCurrency c.f7.f0 = if gi = false then 1 else if gv.toList = c.f7.f0.toList then 0 else 3 := by rw [partyWhy, hg]
      have hx : ivL c d.f3 a k L 3 = tellF (ivL c d.f3 a k L 2) ⟨a, k, nCurrency, partyWhy d.f3 nCurrency c.f7.f0⟩ := rfl
      rw [hp] at hx
      have HX := Aside0.mk hx
      have C1 := Aside0.mk (fun W (hb : Below w0.heap.size w0 W) => field_Get.calls A3 n3 d.f3 nCurrency gv gi W (Kd.C_below HHd.out hb) HDC.out (by rw [field_Get.f, hg]))
      unfold nCurrency at C1 T r0
      clear rb db hl1 hg hp hx
      cases gi with
      | false =>
        rw [if_pos rfl] at HX
        go_wp2_with fail
        refine (C1.out _ (below_alloc HBr.out _)).mono ?_
        rintro e w2 ⟨rfl, hb2⟩
        have HB2 := Aside0.mk ((below_alloc (Below.refl wr.heap.size wr) (.cells #[.string ⟨#[99, 117, 114, 114, 101, 110, 99, 121]⟩, .string c.f7.f0] 91)).trans (hb2.mono (by simp)))
        have qb := blk_below (heap_alloc_new wr _) hb2
        have q0 : w2.cell? ⟨wr.heap.size, 0, none⟩ = some (.string ⟨#[99, 117, 114, 114, 101, 110, 99, 121]⟩) := cell_of_blk qb rfl
        have q1 : w2.cell? ⟨wr.heap.size, 1, none⟩ = some (.string c.f7.f0) := cell_of_blk qb rfl
        clear hb2 qb
        go_wp2_with fail
        refine (T _ 1 HB2.out (by decide)).out.mono ?_
        rintro e w4 ⟨rfl, v', hts, hfr⟩
        have HTS := Aside0.mk hts
        have HFR := Aside0.mk hfr
        clear hts hfr
        go_wp2
        go_roundw
        case rel => exact (.inr (.inr (.inr ⟨rfl, v', ⟨by rw [HX.out]; exact HTS.out⟩, ⟨HF.out.trans ((Fr.of_below HB2.out g M v1).trans HFR.out)⟩⟩)))
        case measure => simp [intOf]
      | true =>
        rw [if_neg (by decide)] at HX
        by_cases he : gv.toList = c.f7.f0.toList
        · have heb : (gv.toList == c.f7.f0.toList) = true := beq_iff_eq.2 he
          rw [if_pos he] at HX
          clear he
          go_wp2_with fail
          refine (C1.out _ (below_alloc HBr.out _)).mono ?_
          rintro e w2 ⟨rfl, hb2⟩
          have HB2 := Aside0.mk ((below_alloc (Below.refl wr.heap.size wr) (.cells #[.string ⟨#[99, 117, 114, 114, 101, 110, 99, 121]⟩, .string c.f7.f0] 91)).trans (hb2.mono (by simp)))
          have qb := blk_below (heap_alloc_new wr _) hb2
          have q0 : w2.cell? ⟨wr.heap.size, 0, none⟩ = some (.string ⟨#[99, 117, 114, 114, 101, 110, 99, 121]⟩) := cell_of_blk qb rfl
          have q1 : w2.cell? ⟨wr.heap.size, 1, none⟩ = some (.string c.f7.f0) := cell_of_blk qb rfl
          clear hb2 qb
          go_wp2
          go_roundw
          case rel => exact (.inr (.inr (.inr ⟨rfl, v1, ⟨by rw [HX.out, tellF, if_pos rfl]; exact HSr.out.below HB2.out⟩, ⟨HF.out.trans (Fr.of_below HB2.out g M v1)⟩⟩)))
          case measure => simp [intOf]
        · have heb : (gv.toList == c.f7.f0.toList) = false := beq_eq_false_iff_ne.2 he
          rw [if_neg he] at HX
          clear he
          go_wp2_with fail
          refine (C1.out _ (below_alloc HBr.out _)).mono ?_
          rintro e w2 ⟨rfl, hb2⟩
          have HB2 := Aside0.mk ((below_alloc (Below.refl wr.heap.size wr) (.cells #[.string ⟨#[99, 117, 114, 114, 101, 110, 99, 121]⟩, .string c.f7.f0] 91)).trans (hb2.mono (by simp)))
          have qb := blk_below (heap_alloc_new wr _) hb2
          have q0 : w2.cell? ⟨wr.heap.size, 0, none⟩ = some (.string ⟨#[99, 117, 114, 114, 101, 110, 99, 121]⟩) := cell_of_blk qb rfl
          have q1 : w2.cell? ⟨wr.heap.size, 1, none⟩ = some (.string c.f7.f0) := cell_of_blk qb rfl
          clear hb2 qb
          go_wp2_with fail
          refine (T _ 3 HB2.out (by decide)).out.mono ?_
          rintro e w4 ⟨rfl, v', hts, hfr⟩
          have HTS := Aside0.mk hts
          have HFR := Aside0.mk hfr
          clear hts hfr
          go_wp2
          go_roundw
          case rel => exact (.inr (.inr (.inr ⟨rfl, v', ⟨by rw [HX.out]; exact HTS.out⟩, ⟨HF.out.trans ((Fr.of_below HB2.out g M v1).trans HFR.out)⟩⟩)))
          case measure => simp [intOf]
    · have HBr := Aside0.mk (HB1.out.trans (HF.out.base HS1.out HB1.out.size))
      have db := blk_fr HS1.out HF.out HDB.out (by decide) (by decide)
      have d3 : wr.cell? ⟨w.heap.size + 1, 3, none⟩ = some (.slice A3 d.f3.length n3) := cell_of_blk db rfl
      have CB := Aside0.mk (blk_fr HS1.out HF.out HCB.out (by decide) (by decide))
      have hl1 : (ivL c d.f3 a k L 3).length < 1000000 := by have := (IL 3).out; have := HLEN.out; omega
      have T := fun (W : World) (y : Int) (hb : Below wr.heap.size wr W) (hyw : (Lit.int .i64 y).wf = true) => Aside0.mk (tell41 (name := nSum) (HSr.out.below hb) (blk_below (blk_fr HS1.out HF.out E0.out (by decide) (by decide)) hb) (blk_below (blk_fr HS1.out HF.out E1.out (by decide) (by decide)) hb) (blk_below (blk_fr HS1.out HF.out E2.out (by decide) (by decide)) hb) HA.out HK.out hyw (by decide) hl1)
      have hsz := short_get HSH.out nSum
      obtain ⟨gv, gi, hg⟩ : ∃ gv gi, getOf d.f3 nSum = (gv, gi) := ⟨_, _, rfl⟩
      obtain ⟨nn, nb, hn⟩ : ∃ nn nb, numOf gv = (nn, nb) := ⟨_, _, rfl⟩
      rw [hg] at hsz
      have hx : invF c d.f3 a k L = tellF (ivL c d.f3 a k L 3) ⟨a, k, nSum, if gi = false then 1 else if nb = false then 2 else if bnd c = false then 0 else if nn > mostOf c then 5 else if nn < leastOf c then 6 else 0⟩ := by
        rw [invF, sumWhy, hg]; simp only [hn]
      have HX := Aside0.mk hx
      have C1 := Aside0.mk (fun W (hb : Below w0.heap.size w0 W) => field_Get.calls A3 n3 d.f3 nSum gv gi W (Kd.C_below HHd.out hb) HDC.out (by rw [field_Get.f, hg]))
      have C2 := Aside0.mk (fun W (hb : Below w0.heap.size w0 W) => field_Number.calls gv nn nb W (Glob_below HG.out hb) (by rw [field_Number.f, if_pos hsz, hn]))
      have C3 := Aside0.mk (fun W => Most43 c A n W)
      have C4 := Aside0.mk (fun W => Least44 c A n W)
      unfold nSum at C1 T
      unfold cc at C3 C4 CB
      clear db hl1 hg hx hn hsz
      cases gi with
      | false =>
        cases hbnd : bnd c with
        | false =>
          have HBND := Aside0.mk hbnd
          have HX := Aside0.mk (show invF c d.f3 a k L = tellF (ivL c d.f3 a k L 3) ⟨a, k, nSum, 1⟩ from by rw [HX.out]; simp)
          clear hbnd
          go_wp2_with fail
          refine (C1.out _ HBr.out).mono ?_
          rintro e w2 ⟨rfl, hb2⟩
          have HB2 := Aside0.mk hb2
          clear hb2
          go_wp2_with fail
          refine (C2.out _ (HBr.out.trans (HB2.out.mono HBr.out.size))).mono ?_
          rintro e w3 ⟨rfl, hb3⟩
          have HB3 := Aside0.mk (HB2.out.trans (hb3.mono HB2.out.size))
          have CB3 := Aside0.mk (blk_below CB.out HB3.out)
          clear hb3
          go_wp2_with (refine wpList_load_row rfl 33 _ rfl w.heap.size rfl 33 _ (0, 0) _ CB3.out hu33 rfl (by kernel_rfl) ?_)
          refine (C3.out _).mono ?_
          rintro e w4 ⟨rfl, hb4⟩
          have HB4 := Aside0.mk (HB3.out.trans (hb4.mono HB3.out.size))
          have CB4 := Aside0.mk (blk_below CB.out HB4.out)
          clear hb4
          rw [HBND.out]
          simp only [if_true, if_false, Bool.false_eq_true]
          go_wp2_with (refine wpList_load_row rfl 33 _ rfl w.heap.size rfl 33 _ (0, 0) _ CB4.out hu33 rfl (by kernel_rfl) ?_)
          refine (C4.out _).mono ?_
          rintro e w5 ⟨rfl, hb5⟩
          have HB5 := Aside0.mk (HB4.out.trans (hb5.mono HB4.out.size))
          clear hb5
          rw [HBND.out]
          simp only [if_true, if_false, Bool.false_eq_true]
          go_wp2_with fail
          refine (T _ 1 HB5.out (by decide)).out.mono ?_
          rintro e w6 ⟨rfl, v', hts, hfr⟩
          have HTS := Aside0.mk hts
          have HFR := Aside0.mk hfr
          clear hts hfr
          go_wp2
          go_end0
          exact ⟨rfl, v', by rw [HX.out]; exact HTS.out, (Fr.of_below HBW.out g M v).trans (HF.out.trans ((Fr.of_below HB5.out g M v1).trans HFR.out))⟩
        | true =>
          have HBND := Aside0.mk hbnd
          have HX := Aside0.mk (show invF c d.f3 a k L = tellF (ivL c d.f3 a k L 3) ⟨a, k, nSum, 1⟩ from by rw [HX.out]; simp)
          clear hbnd
          go_wp2_with fail
          refine (C1.out _ HBr.out).mono ?_
          rintro e w2 ⟨rfl, hb2⟩
          have HB2 := Aside0.mk hb2
          clear hb2
          go_wp2_with fail
          refine (C2.out _ (HBr.out.trans (HB2.out.mono HBr.out.size))).mono ?_
          rintro e w3 ⟨rfl, hb3⟩
          have HB3 := Aside0.mk (HB2.out.trans (hb3.mono HB2.out.size))
          have CB3 := Aside0.mk (blk_below CB.out HB3.out)
          clear hb3
          go_wp2_with (refine wpList_load_row rfl 33 _ rfl w.heap.size rfl 33 _ (0, 0) _ CB3.out hu33 rfl (by kernel_rfl) ?_)
          refine (C3.out _).mono ?_
          rintro e w4 ⟨rfl, hb4⟩
          have HB4 := Aside0.mk (HB3.out.trans (hb4.mono HB3.out.size))
          have CB4 := Aside0.mk (blk_below CB.out HB4.out)
          clear hb4
          rw [HBND.out]
          simp only [if_true, if_false, Bool.false_eq_true]
          go_wp2_with (refine wpList_load_row rfl 33 _ rfl w.heap.size rfl 33 _ (0, 0) _ CB4.out hu33 rfl (by kernel_rfl) ?_)
          refine (C4.out _).mono ?_
          rintro e w5 ⟨rfl, hb5⟩
          have HB5 := Aside0.mk (HB4.out.trans (hb5.mono HB4.out.size))
          clear hb5
          rw [HBND.out]
          simp only [if_true, if_false, Bool.false_eq_true]
          go_wp2_with fail
          refine (T _ 1 HB5.out (by decide)).out.mono ?_
          rintro e w6 ⟨rfl, v', hts, hfr⟩
          have HTS := Aside0.mk hts
          have HFR := Aside0.mk hfr
          clear hts hfr
          go_wp2
          go_end0
          exact ⟨rfl, v', by rw [HX.out]; exact HTS.out, (Fr.of_below HBW.out g M v).trans (HF.out.trans ((Fr.of_below HB5.out g M v1).trans HFR.out))⟩
      | true =>
        cases nb with
        | false =>
          cases hbnd : bnd c with
          | false =>
            have HBND := Aside0.mk hbnd
            have HX := Aside0.mk (show invF c d.f3 a k L = tellF (ivL c d.f3 a k L 3) ⟨a, k, nSum, 2⟩ from by rw [HX.out]; simp)
            clear hbnd
            go_wp2_with fail
            refine (C1.out _ HBr.out).mono ?_
            rintro e w2 ⟨rfl, hb2⟩
            have HB2 := Aside0.mk hb2
            clear hb2
            go_wp2_with fail
            refine (C2.out _ (HBr.out.trans (HB2.out.mono HBr.out.size))).mono ?_
            rintro e w3 ⟨rfl, hb3⟩
            have HB3 := Aside0.mk (HB2.out.trans (hb3.mono HB2.out.size))
            have CB3 := Aside0.mk (blk_below CB.out HB3.out)
            clear hb3
            go_wp2_with (refine wpList_load_row rfl 33 _ rfl w.heap.size rfl 33 _ (0, 0) _ CB3.out hu33 rfl (by kernel_rfl) ?_)
            refine (C3.out _).mono ?_
            rintro e w4 ⟨rfl, hb4⟩
            have HB4 := Aside0.mk (HB3.out.trans (hb4.mono HB3.out.size))
            have CB4 := Aside0.mk (blk_below CB.out HB4.out)
            clear hb4
            rw [HBND.out]
            simp only [if_true, if_false, Bool.false_eq_true]
            go_wp2_with (refine wpList_load_row rfl 33 _ rfl w.heap.size rfl 33 _ (0, 0) _ CB4.out hu33 rfl (by kernel_rfl) ?_)
            refine (C4.out _).mono ?_
            rintro e w5 ⟨rfl, hb5⟩
            have HB5 := Aside0.mk (HB4.out.trans (hb5.mono HB4.out.size))
            clear hb5
            rw [HBND.out]
            simp only [if_true, if_false, Bool.false_eq_true]
            go_wp2_with fail
            refine (T _ 2 HB5.out (by decide)).out.mono ?_
            rintro e w6 ⟨rfl, v', hts, hfr⟩
            have HTS := Aside0.mk hts
            have HFR := Aside0.mk hfr
            clear hts hfr
            go_wp2
            go_end0
            exact ⟨rfl, v', by rw [HX.out]; exact HTS.out, (Fr.of_below HBW.out g M v).trans (HF.out.trans ((Fr.of_below HB5.out g M v1).trans HFR.out))⟩
          | true =>
            have HBND := Aside0.mk hbnd
            have HX := Aside0.mk (show invF c d.f3 a k L = tellF (ivL c d.f3 a k L 3) ⟨a, k, nSum, 2⟩ from by rw [HX.out]; simp)
            clear hbnd
            go_wp2_with fail
            refine (C1.out _ HBr.out).mono ?_
            rintro e w2 ⟨rfl, hb2⟩
            have HB2 := Aside0.mk hb2
            clear hb2
            go_wp2_with fail
            refine (C2.out _ (HBr.out.trans (HB2.out.mono HBr.out.size))).mono ?_
            rintro e w3 ⟨rfl, hb3⟩
            have HB3 := Aside0.mk (HB2.out.trans (hb3.mono HB2.out.size))
            have CB3 := Aside0.mk (blk_below CB.out HB3.out)
            clear hb3
            go_wp2_with (refine wpList_load_row rfl 33 _ rfl w.heap.size rfl 33 _ (0, 0) _ CB3.out hu33 rfl (by kernel_rfl) ?_)
            refine (C3.out _).mono ?_
            rintro e w4 ⟨rfl, hb4⟩
            have HB4 := Aside0.mk (HB3.out.trans (hb4.mono HB3.out.size))
            have CB4 := Aside0.mk (blk_below CB.out HB4.out)
            clear hb4
            rw [HBND.out]
            simp only [if_true, if_false, Bool.false_eq_true]
            go_wp2_with (refine wpList_load_row rfl 33 _ rfl w.heap.size rfl 33 _ (0, 0) _ CB4.out hu33 rfl (by kernel_rfl) ?_)
            refine (C4.out _).mono ?_
            rintro e w5 ⟨rfl, hb5⟩
            have HB5 := Aside0.mk (HB4.out.trans (hb5.mono HB4.out.size))
            clear hb5
            rw [HBND.out]
            simp only [if_true, if_false, Bool.false_eq_true]
            go_wp2_with fail
            refine (T _ 2 HB5.out (by decide)).out.mono ?_
            rintro e w6 ⟨rfl, v', hts, hfr⟩
            have HTS := Aside0.mk hts
            have HFR := Aside0.mk hfr
            clear hts hfr
            go_wp2
            go_end0
            exact ⟨rfl, v', by rw [HX.out]; exact HTS.out, (Fr.of_below HBW.out g M v).trans (HF.out.trans ((Fr.of_below HB5.out g M v1).trans HFR.out))⟩
        | true =>
          cases hbnd : bnd c with
          | false =>
            have HBND := Aside0.mk hbnd
            have HX := Aside0.mk (show invF c d.f3 a k L = tellF (ivL c d.f3 a k L 3) ⟨a, k, nSum, 0⟩ from by rw [HX.out]; simp [hbnd])
            clear hbnd
            go_wp2_with fail
            refine (C1.out _ HBr.out).mono ?_
            rintro e w2 ⟨rfl, hb2⟩
            have HB2 := Aside0.mk hb2
            clear hb2
            go_wp2_with fail
            refine (C2.out _ (HBr.out.trans (HB2.out.mono HBr.out.size))).mono ?_
            rintro e w3 ⟨rfl, hb3⟩
            have HB3 := Aside0.mk (HB2.out.trans (hb3.mono HB2.out.size))
            have CB3 := Aside0.mk (blk_below CB.out HB3.out)
            clear hb3
            go_wp2_with (refine wpList_load_row rfl 33 _ rfl w.heap.size rfl 33 _ (0, 0) _ CB3.out hu33 rfl (by kernel_rfl) ?_)
            refine (C3.out _).mono ?_
            rintro e w4 ⟨rfl, hb4⟩
            have HB4 := Aside0.mk (HB3.out.trans (hb4.mono HB3.out.size))
            have CB4 := Aside0.mk (blk_below CB.out HB4.out)
            clear hb4
            rw [HBND.out]
            simp only [if_true, if_false, Bool.false_eq_true]
            go_wp2_with (refine wpList_load_row rfl 33 _ rfl w.heap.size rfl 33 _ (0, 0) _ CB4.out hu33 rfl (by kernel_rfl) ?_)
            refine (C4.out _).mono ?_
            rintro e w5 ⟨rfl, hb5⟩
            have HB5 := Aside0.mk (HB4.out.trans (hb5.mono HB4.out.size))
            clear hb5
            rw [HBND.out]
            simp only [if_true, if_false, Bool.false_eq_true]
            go_wp2
            go_end0
            exact ⟨rfl, v1, by rw [HX.out, tellF, if_pos rfl]; exact HSr.out.below HB5.out, (Fr.of_below HBW.out g M v).trans (HF.out.trans (Fr.of_below HB5.out g M v1))⟩
          | true =>
            have HBND := Aside0.mk hbnd
            by_cases c1 : nn > mostOf c
            · have c1b : decide (nn > mostOf c) = true := decide_eq_true c1
              have HX := Aside0.mk (show invF c d.f3 a k L = tellF (ivL c d.f3 a k L 3) ⟨a, k, nSum, 5⟩ from by rw [HX.out]; simp [hbnd, c1])
              clear hbnd c1
              go_wp2_with fail
              refine (C1.out _ HBr.out).mono ?_
              rintro e w2 ⟨rfl, hb2⟩
              have HB2 := Aside0.mk hb2
              clear hb2
              go_wp2_with fail
              refine (C2.out _ (HBr.out.trans (HB2.out.mono HBr.out.size))).mono ?_
              rintro e w3 ⟨rfl, hb3⟩
              have HB3 := Aside0.mk (HB2.out.trans (hb3.mono HB2.out.size))
              have CB3 := Aside0.mk (blk_below CB.out HB3.out)
              clear hb3
              go_wp2_with (refine wpList_load_row rfl 33 _ rfl w.heap.size rfl 33 _ (0, 0) _ CB3.out hu33 rfl (by kernel_rfl) ?_)
              refine (C3.out _).mono ?_
              rintro e w4 ⟨rfl, hb4⟩
              have HB4 := Aside0.mk (HB3.out.trans (hb4.mono HB3.out.size))
              have CB4 := Aside0.mk (blk_below CB.out HB4.out)
              clear hb4
              rw [HBND.out]
              simp only [if_true, if_false, Bool.false_eq_true]
              go_wp2_with (refine wpList_load_row rfl 33 _ rfl w.heap.size rfl 33 _ (0, 0) _ CB4.out hu33 rfl (by kernel_rfl) ?_)
              refine (C4.out _).mono ?_
              rintro e w5 ⟨rfl, hb5⟩
              have HB5 := Aside0.mk (HB4.out.trans (hb5.mono HB4.out.size))
              clear hb5
              rw [HBND.out]
              simp only [if_true, if_false, Bool.false_eq_true]
              go_wp2_with fail
              refine (T _ 5 HB5.out (by decide)).out.mono ?_
              rintro e w6 ⟨rfl, v', hts, hfr⟩
              have HTS := Aside0.mk hts
              have HFR := Aside0.mk hfr
              clear hts hfr
              go_wp2
              go_end0
              exact ⟨rfl, v', by rw [HX.out]; exact HTS.out, (Fr.of_below HBW.out g M v).trans (HF.out.trans ((Fr.of_below HB5.out g M v1).trans HFR.out))⟩
            · have c1b : decide (nn > mostOf c) = false := decide_eq_false c1
              by_cases c2 : nn < leastOf c
              · have c2b : decide (nn < leastOf c) = true := decide_eq_true c2
                have HX := Aside0.mk (show invF c d.f3 a k L = tellF (ivL c d.f3 a k L 3) ⟨a, k, nSum, 6⟩ from by rw [HX.out]; simp [hbnd, c1, c2])
                clear hbnd c1 c2
                go_wp2_with fail
                refine (C1.out _ HBr.out).mono ?_
                rintro e w2 ⟨rfl, hb2⟩
                have HB2 := Aside0.mk hb2
                clear hb2
                go_wp2_with fail
                refine (C2.out _ (HBr.out.trans (HB2.out.mono HBr.out.size))).mono ?_
                rintro e w3 ⟨rfl, hb3⟩
                have HB3 := Aside0.mk (HB2.out.trans (hb3.mono HB2.out.size))
                have CB3 := Aside0.mk (blk_below CB.out HB3.out)
                clear hb3
                go_wp2_with (refine wpList_load_row rfl 33 _ rfl w.heap.size rfl 33 _ (0, 0) _ CB3.out hu33 rfl (by kernel_rfl) ?_)
                refine (C3.out _).mono ?_
                rintro e w4 ⟨rfl, hb4⟩
                have HB4 := Aside0.mk (HB3.out.trans (hb4.mono HB3.out.size))
                have CB4 := Aside0.mk (blk_below CB.out HB4.out)
                clear hb4
                rw [HBND.out]
                simp only [if_true, if_false, Bool.false_eq_true]
                go_wp2_with (refine wpList_load_row rfl 33 _ rfl w.heap.size rfl 33 _ (0, 0) _ CB4.out hu33 rfl (by kernel_rfl) ?_)
                refine (C4.out _).mono ?_
                rintro e w5 ⟨rfl, hb5⟩
                have HB5 := Aside0.mk (HB4.out.trans (hb5.mono HB4.out.size))
                clear hb5
                rw [HBND.out]
                simp only [if_true, if_false, Bool.false_eq_true]
                go_wp2_with fail
                refine (T _ 6 HB5.out (by decide)).out.mono ?_
                rintro e w6 ⟨rfl, v', hts, hfr⟩
                have HTS := Aside0.mk hts
                have HFR := Aside0.mk hfr
                clear hts hfr
                go_wp2
                go_end0
                exact ⟨rfl, v', by rw [HX.out]; exact HTS.out, (Fr.of_below HBW.out g M v).trans (HF.out.trans ((Fr.of_below HB5.out g M v1).trans HFR.out))⟩
              · have c2b : decide (nn < leastOf c) = false := decide_eq_false c2
                have HX := Aside0.mk (show invF c d.f3 a k L = tellF (ivL c d.f3 a k L 3) ⟨a, k, nSum, 0⟩ from by rw [HX.out]; simp [hbnd, c1, c2])
                clear hbnd c1 c2
                go_wp2_with fail
                refine (C1.out _ HBr.out).mono ?_
                rintro e w2 ⟨rfl, hb2⟩
                have HB2 := Aside0.mk hb2
                clear hb2
                go_wp2_with fail
                refine (C2.out _ (HBr.out.trans (HB2.out.mono HBr.out.size))).mono ?_
                rintro e w3 ⟨rfl, hb3⟩
                have HB3 := Aside0.mk (HB2.out.trans (hb3.mono HB2.out.size))
                have CB3 := Aside0.mk (blk_below CB.out HB3.out)
                clear hb3
                go_wp2_with (refine wpList_load_row rfl 33 _ rfl w.heap.size rfl 33 _ (0, 0) _ CB3.out hu33 rfl (by kernel_rfl) ?_)
                refine (C3.out _).mono ?_
                rintro e w4 ⟨rfl, hb4⟩
                have HB4 := Aside0.mk (HB3.out.trans (hb4.mono HB3.out.size))
                have CB4 := Aside0.mk (blk_below CB.out HB4.out)
                clear hb4
                rw [HBND.out]
                simp only [if_true, if_false, Bool.false_eq_true]
                go_wp2_with (refine wpList_load_row rfl 33 _ rfl w.heap.size rfl 33 _ (0, 0) _ CB4.out hu33 rfl (by kernel_rfl) ?_)
                refine (C4.out _).mono ?_
                rintro e w5 ⟨rfl, hb5⟩
                have HB5 := Aside0.mk (HB4.out.trans (hb5.mono HB4.out.size))
                clear hb5
                rw [HBND.out]
                simp only [if_true, if_false, Bool.false_eq_true]
                go_wp2
                go_end0
                exact ⟨rfl, v1, by rw [HX.out, tellF, if_pos rfl]; exact HSr.out.below HB5.out, (Fr.of_below HBW.out g M v).trans (HF.out.trans (Fr.of_below HB5.out g M v1))⟩
end
end Go.Proofs.YtcibglpbfaffgaaDoor.X
