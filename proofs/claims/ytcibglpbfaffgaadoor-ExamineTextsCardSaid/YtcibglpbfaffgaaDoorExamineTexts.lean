/- For every list of faults the law ExamineTexts answers true: the program's text of them is just the document's; the tied card. Conditions: none beyond the given card's. -/
import Derived.Test.YtcibglpbfaffgaaDoorX7
import Derived.Test.YtcibglpbfaffgaaDoorGP
import Derived.Lib.ItoaLen
import Derived.Lib.SmallJoins
import Derived.Test.YtcibglpbfaffgaaDoorGL
import Derived.Test.YtcibglpbfaffgaaDoorCards
namespace Go.Proofs.YtcibglpbfaffgaaDoor.X
open Go Go.RowKit Go.Proofs.YtcibglpbfaffgaaDoorW.PrintWords Go.Proofs.YtcibglpbfaffgaaDoorW.PrintLast Go.Proofs.YtcibglpbfaffgaaDoorW.PrintMore
set_option linter.unusedVariables false
set_option linter.unusedSimpArgs false

theorem ba_ext {a b : ByteArray} (h : a.data.toList = b.data.toList) : a = b := by
  obtain ⟨⟨a⟩⟩ := a
  obtain ⟨⟨b⟩⟩ := b
  have : a = b := h
  rw [this]
theorem ba_app (a b : ByteArray) : (a ++ b).data.toList = a.data.toList ++ b.data.toList := Go.Joins.data_append a b
theorem ba_size (a : ByteArray) : a.size = a.data.toList.length := Array.length_toList.symm
theorem ba_appsize (a b : ByteArray) : (a ++ b).size = a.size + b.size := by rw [ba_size, ba_size, ba_size, ba_app, List.length_append]
theorem w64 {n : Int} (h0 : -9223372036854775808 ≤ n) (h1 : n ≤ 9223372036854775807) : wrap64 n = n := by unfold wrap64; omega

/-! ### Digits -/
theorem u8_of (u : Nat) : ([48 + (u : Int)] : List Int).map (fun n => UInt8.ofNat n.toNat) = [UInt8.ofNat (48 + u)] := by
  show [UInt8.ofNat (48 + (u : Int)).toNat] = _
  rw [show (48 + (u : Int)).toNat = 48 + u by omega]
theorem tdiv_neg (u : Nat) : Int.tdiv (-(u : Int)) 10 = -((u / 10 : Nat) : Int) := by rw [Int.neg_tdiv]; rfl
theorem tmod_neg (u : Nat) : Int.tmod (-(u : Int)) 10 = -((u % 10 : Nat) : Int) := by rw [Int.neg_tmod]; rfl
theorem tdiv_pos (u : Nat) : Int.tdiv (u : Int) 10 = ((u / 10 : Nat) : Int) := rfl
theorem tmod_pos (u : Nat) : Int.tmod (u : Int) 10 = ((u % 10 : Nat) : Int) := rfl
theorem digits_ok : ∀ (k : Nat) (n : Int), -9223372036854775808 ≤ n → n ≤ 9223372036854775807 → n.natAbs < 10 ^ k → 1 ≤ k → supercargoref05_Digits.f k n = some ⟨(Lib.itoa n).toArray⟩
  | 0, _, _, _, _, h => absurd h (by decide)
  | k + 1, n, h0, h1, h2, _ => by
    have hp : 10 ^ (k + 1) = 10 * 10 ^ k := by rw [Nat.pow_succ, Nat.mul_comm]
    unfold supercargoref05_Digits.f
    by_cases hn : n < 0
    · rw [if_pos hn]
      by_cases hs : n > -10
      · rw [if_pos hs]
        have hw : wrap64 (48 - n) % 256 = 48 + (n.natAbs : Int) := by rw [w64 (by omega) (by omega)]; omega
        rw [hw]
        simp only [Option.bind_some]
        rw [strOfNums_size, if_pos (by simp)]
        refine congrArg some (ba_ext ?_)
        rw [ba_app, strOfNums_data, u8_of]
        show _ = Lib.itoa n
        unfold Lib.itoa
        rw [if_pos hn, Lib.decDigits_one (by omega)]
        rfl
      · rw [if_neg hs]
        have ht : Int.tdiv n 10 = -((n.natAbs / 10 : Nat) : Int) := by
          have h := tdiv_neg n.natAbs
          rwa [← show n = -(n.natAbs : Int) by omega] at h
        have hk : 1 ≤ k := by
          cases k with
          | zero => simp at h2; omega
          | succ k => omega
        have hm : Int.tmod n 10 = -((n.natAbs % 10 : Nat) : Int) := by
          have h := tmod_neg n.natAbs
          rwa [← show n = -(n.natAbs : Int) by omega] at h
        have hw : wrap64 (48 - Int.tmod n 10) % 256 = 48 + ((n.natAbs % 10 : Nat) : Int) := by rw [hm, w64 (by omega) (by omega)]; omega
        rw [w64 (by omega) (by omega), digits_ok k _ (by omega) (by omega) (by rw [ht]; omega) hk, hw]
        have hit : Lib.itoa (Int.tdiv n 10) = 45 :: Lib.decDigits (n.natAbs / 10) := by
          rw [ht]
          exact Lib.itoa_neg _ (by omega)
        have hl := Lib.itoa_length_le (Int.tdiv n 10) (by omega) (by omega)
        simp only [Option.bind_some]
        rw [strOfNums_size, if_pos (by rw [ba_size]; simp; omega)]
        refine congrArg some (ba_ext ?_)
        rw [ba_app, strOfNums_data, u8_of, hit]
        show _ = Lib.itoa n
        unfold Lib.itoa
        rw [if_pos hn]
        conv => rhs; rw [Lib.decDigits, dif_neg (by omega)]
        rfl
    · rw [if_neg hn]
      by_cases hs : n < 10
      · rw [if_pos hs]
        have hw : wrap64 (48 + n) % 256 = 48 + (n.toNat : Int) := by rw [w64 (by omega) (by omega)]; omega
        rw [hw]
        refine congrArg some (ba_ext ?_)
        rw [strOfNums_data, u8_of]
        show _ = Lib.itoa n
        unfold Lib.itoa
        rw [if_neg hn, Lib.decDigits_one (by omega)]
      · rw [if_neg hs]
        have ht : Int.tdiv n 10 = ((n.toNat / 10 : Nat) : Int) := by
          have h := tdiv_pos n.toNat
          rwa [← show n = (n.toNat : Int) by omega] at h
        have hk : 1 ≤ k := by
          cases k with
          | zero => simp at h2; omega
          | succ k => omega
        have hm : Int.tmod n 10 = ((n.toNat % 10 : Nat) : Int) := by
          have h := tmod_pos n.toNat
          rwa [← show n = (n.toNat : Int) by omega] at h
        have hw : wrap64 (48 + Int.tmod n 10) % 256 = 48 + ((n.toNat % 10 : Nat) : Int) := by rw [hm, w64 (by omega) (by omega)]; omega
        rw [w64 (by omega) (by omega), digits_ok k _ (by omega) (by omega) (by rw [ht]; omega) hk, hw]
        have hit : Lib.itoa (Int.tdiv n 10) = Lib.decDigits (n.toNat / 10) := by
          rw [ht]
          exact Lib.itoa_nonneg _
        have hl := Lib.itoa_length_le (Int.tdiv n 10) (by omega) (by omega)
        simp only [Option.bind_some]
        rw [strOfNums_size, if_pos (by rw [ba_size]; simp; omega)]
        refine congrArg some (ba_ext ?_)
        rw [ba_app, strOfNums_data, u8_of, hit]
        show _ = Lib.itoa n
        unfold Lib.itoa
        rw [if_neg hn]
        conv => rhs; rw [Lib.decDigits, dif_neg (by omega)]

/-! ### Lines -/
def kindsL : List ByteArray := [(⟨#[105, 110, 118, 111, 105, 99, 101]⟩ : ByteArray), (⟨#[112, 97, 99, 107, 105, 110, 103]⟩ : ByteArray), (⟨#[108, 97, 100, 105, 110, 103]⟩ : ByteArray), (⟨#[105, 110, 115, 117, 114, 97, 110, 99, 101]⟩ : ByteArray), (⟨#[111, 114, 105, 103, 105, 110]⟩ : ByteArray), (⟨#[100, 114, 97, 102, 116]⟩ : ByteArray)]
def whysL : List ByteArray := [(⟨#[102, 105, 110, 101]⟩ : ByteArray), (⟨#[108, 97, 99, 107, 115]⟩ : ByteArray), (⟨#[102, 97, 105, 108, 115]⟩ : ByteArray), (⟨#[117, 110, 108, 105, 107, 101]⟩ : ByteArray), (⟨#[108, 97, 116, 101]⟩ : ByteArray), (⟨#[109, 117, 99, 104]⟩ : ByteArray), (⟨#[102, 101, 119]⟩ : ByteArray)]
def wordB (l : List ByteArray) (a : Int) : ByteArray := if a < 0 then ⟨#[45]⟩ else if a ≥ (l.length : Int) then ⟨#[45]⟩ else rdOf ByteArray.empty l a
theorem word_e (l : List ByteArray) (a : Int) : examine_word.f l a = some (wordB l a) := by
  unfold examine_word.f wordB
  by_cases h1 : a < 0
  · rw [if_pos h1, if_pos h1]
  · rw [if_neg h1, if_neg h1]
    by_cases h2 : a ≥ (l.length : Int)
    · rw [if_pos h2, if_pos h2]
    · rw [if_neg h2, if_neg h2, if_pos (by omega), if_pos (by omega)]
theorem word_r (l : List ByteArray) (a : Int) : supercargoref31_word.f l a = some (wordB l a) := word_e l a
theorem wordB_size {l : List ByteArray} {n : Nat} (h : ∀ x ∈ l, x.size ≤ n) (hn : 1 ≤ n) (a : Int) : (wordB l a).size ≤ n := by
  unfold wordB
  split
  · exact hn
  · split
    · exact hn
    · rename_i h1 h2
      unfold rdOf
      rw [List.getD_eq_getElem?_getD, List.getElem?_eq_getElem (by omega)]
      exact h _ (List.getElem_mem _)
theorem kind_size (a : Int) : (wordB kindsL a).size ≤ 9 := wordB_size (by decide) (by decide) a
theorem why_size (a : Int) : (wordB whysL a).size ≤ 9 := wordB_size (by decide) (by decide) a

def paperB (x : S25) : ByteArray := if x.f0 = -1 then ⟨#[45]⟩ else ⟨(Lib.itoa x.f0).toArray⟩
def fieldB (x : S25) : ByteArray := if x.f2.toList = [] then ⟨#[45]⟩ else x.f2
def lineL (x : S25) : List UInt8 := (paperB x).data.toList ++ [32] ++ (wordB kindsL x.f1).data.toList ++ [32] ++ (fieldB x).data.toList ++ [32] ++ (wordB whysL x.f3).data.toList
def okL (x : S25) : Prop := x.f2.size ≤ 100 ∧ -9223372036854775808 ≤ x.f0 ∧ x.f0 ≤ 9223372036854775807
theorem paper_size {x : S25} (h : okL x) : (paperB x).size ≤ 21 := by
  unfold paperB
  split
  · decide
  · rw [ba_size]
    exact Lib.itoa_length_le _ h.2.1 h.2.2
theorem field_size {x : S25} (h : okL x) : (fieldB x).size ≤ 100 := by
  unfold fieldB
  split
  · decide
  · exact h.1
theorem line_size {x : S25} (h : okL x) : (lineL x).length ≤ 142 := by
  unfold lineL
  have := paper_size h
  have := field_size h
  have := kind_size x.f1
  have := why_size x.f3
  simp only [List.length_append, ← ba_size, List.length_cons, List.length_nil]
  omega

/-- The lines from a place on, each with its semicolon ahead but for the first of all. -/
def restL : Bool → List S25 → List UInt8
  | _, [] => []
  | first, x :: r => (if first then [] else [59, 32]) ++ lineL x ++ restL false r
theorem rest_false (l : List S25) : restL false l = Lib.joinTail [59, 32] (l.map lineL) := by
  induction l with
  | nil => rfl
  | cons x r ih => simp only [restL, ih, Lib.joinTail, List.map_cons, List.flatten_cons]; rfl
theorem rest_true (l : List S25) : restL true l = Lib.join (l.map lineL) [59, 32] := by
  cases l with
  | nil => rfl
  | cons x r => rw [List.map_cons, Lib.join_cons, ← rest_false]; simp [restL]
theorem rest_len (l : List S25) (h : ∀ x ∈ l, okL x) (b : Bool) : (restL b l).length ≤ 144 * l.length := by
  induction l generalizing b with
  | nil => simp [restL]
  | cons x r ih =>
    have h1 := line_size (h x (List.mem_cons_self ..))
    have h2 := ih (fun y hy => h y (List.mem_cons_of_mem _ hy)) false
    cases b <;> simp only [restL, List.length_append, List.length_cons] <;> simp <;> omega
theorem drop_at {l : List S25} {i : Nat} (h : i < l.length) : l.drop i = rd_T25 l (i : Int) :: l.drop (i + 1) := by
  rw [List.drop_eq_getElem_cons h]
  congr 1
  unfold rd_T25
  rw [List.getD_eq_getElem?_getD, Int.toNat_natCast, List.getElem?_eq_getElem h]
  rfl
theorem rd_mem {l : List S25} {i : Nat} (h : i < l.length) : rd_T25 l (i : Int) ∈ l := by
  unfold rd_T25
  rw [List.getD_eq_getElem?_getD, Int.toNat_natCast, List.getElem?_eq_getElem h]
  exact List.getElem_mem h
theorem emp_iff (x : ByteArray) : x.toList = ([] : List UInt8) ↔ x.toList = [] := Iff.rfl

/-! ### The document's text -/
theorem ref_line (k : Nat) (l : List S25) (acc : ByteArray) (i : Nat) (hi : i < l.length) (hl : l.length ≤ 1000) (hx : okL (rd_T25 l (i : Int))) (ha : acc.size ≤ 1000000) :
    supercargoref31_Text.j1 (k + 22) l acc (i : Int) = supercargoref31_Text.l0 (k + 20) l ⟨(acc.data.toList ++ lineL (rd_T25 l (i : Int))).toArray⟩ ((i + 1 : Nat) : Int) := by
  unfold supercargoref31_Text.j1
  rw [if_pos (by omega), if_pos (by omega), digits_ok (k + 21) _ hx.2.1 hx.2.2 (Nat.lt_of_lt_of_le (show _ < 10 ^ 21 by have := hx.2; omega) (Nat.pow_le_pow_right (by decide) (by omega))) (by omega)]
  simp only [Option.bind_some]
  have key : ∀ p : ByteArray, p = paperB (rd_T25 l (i : Int)) → supercargoref31_Text.j2 (k + 21) l acc (i : Int) p (rd_T25 l (i : Int)).f2 = supercargoref31_Text.l0 (k + 20) l ⟨(acc.data.toList ++ lineL (rd_T25 l (i : Int))).toArray⟩ ((i + 1 : Nat) : Int) := by
    rintro p rfl
    have s1 := paper_size hx
    have s2 := kind_size (rd_T25 l (i : Int)).f1
    have s3 := why_size (rd_T25 l (i : Int)).f3
    have s4 := hx.1
    have t1 : (⟨#[32]⟩ : ByteArray).size = 1 := rfl
    have t2 : (⟨#[45]⟩ : ByteArray).size = 1 := rfl
    have w1 : wrap64 ((i : Int) + 1) = ((i + 1 : Nat) : Int) := by rw [w64 (by omega) (by omega)]; omega
    unfold supercargoref31_Text.j2
    simp only [word_r, Option.bind_some, ba_appsize]
    rw [show wordB [(⟨#[105, 110, 118, 111, 105, 99, 101]⟩ : ByteArray), (⟨#[112, 97, 99, 107, 105, 110, 103]⟩ : ByteArray), (⟨#[108, 97, 100, 105, 110, 103]⟩ : ByteArray), (⟨#[105, 110, 115, 117, 114, 97, 110, 99, 101]⟩ : ByteArray), (⟨#[111, 114, 105, 103, 105, 110]⟩ : ByteArray), (⟨#[100, 114, 97, 102, 116]⟩ : ByteArray)] (rd_T25 l (i : Int)).f1 = wordB kindsL (rd_T25 l (i : Int)).f1 from rfl]
    rw [show wordB [(⟨#[102, 105, 110, 101]⟩ : ByteArray), (⟨#[108, 97, 99, 107, 115]⟩ : ByteArray), (⟨#[102, 97, 105, 108, 115]⟩ : ByteArray), (⟨#[117, 110, 108, 105, 107, 101]⟩ : ByteArray), (⟨#[108, 97, 116, 101]⟩ : ByteArray), (⟨#[109, 117, 99, 104]⟩ : ByteArray), (⟨#[102, 101, 119]⟩ : ByteArray)] (rd_T25 l (i : Int)).f3 = wordB whysL (rd_T25 l (i : Int)).f3 from rfl]
    by_cases he : (rd_T25 l (i : Int)).f2.toList = ([] : List UInt8)
    · rw [if_pos he]
      rw [if_pos (by omega), if_pos (by omega), if_pos (by omega), if_pos (by omega), if_pos (by omega), if_pos (by omega), if_pos (by omega), if_pos (by omega), if_pos (by omega), w1]
      congr 1
      refine ba_ext ?_
      simp only [ba_app, lineL, fieldB, if_pos he, List.append_assoc]
    · rw [if_neg he]
      rw [if_pos (by omega), if_pos (by omega), if_pos (by omega), if_pos (by omega), if_pos (by omega), if_pos (by omega), if_pos (by omega), if_pos (by omega), if_pos (by omega), w1]
      congr 1
      refine ba_ext ?_
      simp only [ba_app, lineL, fieldB, if_neg he, List.append_assoc]
  by_cases hp : (rd_T25 l (i : Int)).f0 = -1
  · rw [if_pos hp]
    exact key _ (by unfold paperB; rw [if_pos hp])
  · rw [if_neg hp]
    exact key _ (by unfold paperB; rw [if_neg hp])

theorem ref_go : ∀ (m : Nat) (k : Nat) (l : List S25) (acc : ByteArray) (i : Nat), i + m = l.length → l.length ≤ 1000 → (∀ x ∈ l, okL x) → acc.size + 144 * m ≤ 1000000 →
    supercargoref31_Text.l0 (k + 3 * m + 23) l acc (i : Int) = some ⟨(acc.data.toList ++ restL (i == 0) (l.drop i)).toArray⟩
  | 0, k, l, acc, i, h, hl, ho, ha => by
    unfold supercargoref31_Text.l0
    rw [if_neg (by omega), List.drop_eq_nil_of_le (by omega)]
    refine congrArg some (ba_ext ?_)
    simp [restL]
  | m + 1, k, l, acc, i, h, hl, ho, ha => by
    have hi : i < l.length := by omega
    have hx := ho _ (rd_mem hi)
    have hln := line_size hx
    rw [show k + 3 * (m + 1) + 23 = (k + 3 * m + 3) + 22 + 1 by omega]
    unfold supercargoref31_Text.l0
    rw [if_pos (by omega), drop_at hi]
    by_cases h0 : i = 0
    · subst h0
      rw [if_neg (by omega)]
      rw [ref_line (k + 3 * m + 3) l acc 0 hi hl hx (by omega)]
      rw [show k + 3 * m + 3 + 20 = k + 3 * m + 23 by omega, ref_go m k l _ (0 + 1) (by omega) hl ho (by rw [ba_size]; simp only [List.length_append, ← ba_size]; omega)]
      refine congrArg some (ba_ext ?_)
      simp [restL]
    · rw [if_pos (by omega)]
      have t1 : (⟨#[59, 32]⟩ : ByteArray).size = 2 := rfl
      rw [if_pos (by omega)]
      rw [ref_line (k + 3 * m + 3) l _ i hi hl hx (by rw [ba_appsize]; omega)]
      rw [show k + 3 * m + 3 + 20 = k + 3 * m + 23 by omega, ref_go m k l _ (i + 1) (by omega) hl ho (by rw [ba_size]; simp only [List.length_append, ← ba_size, ba_appsize]; omega)]
      refine congrArg some (ba_ext ?_)
      have e0 : (i == 0) = false := by simp [h0]
      have e1 : (i + 1 == 0) = false := by simp
      simp only [restL, e0, e1, ba_app]
      simp

/-! ### The program's text -/
theorem join_ok {l : List ByteArray} {s : ByteArray} (h1 : l.length ≤ 1000) (h2 : (joinOf l s).length ≤ 1000000) : strings_Join.f l s = some ⟨(joinOf l s).toArray⟩ := by
  unfold strings_Join.f
  rw [if_pos]
  have : lim47 = 140737488355328 := rfl
  simp
  omega
theorem itoa_ok {n : Int} (h0 : -9223372036854775808 ≤ n) (h1 : n ≤ 9223372036854775807) : strconv_Itoa.f n = some ⟨(Lib.itoa n).toArray⟩ := by
  unfold strconv_Itoa.f i64ok
  rw [if_pos]
  simp
  exact ⟨h0, h1⟩
theorem join4 (a b c d : ByteArray) : joinOf [a, b, c, d] ⟨#[32]⟩ = a.data.toList ++ [32] ++ b.data.toList ++ [32] ++ c.data.toList ++ [32] ++ d.data.toList := by
  unfold joinOf
  simp only [List.map_cons, List.map_nil, Lib.join_cons, Lib.joinTail]
  simp
theorem ex_line (k : Nat) (l : List S25) (ls : List ByteArray) (i : Nat) (hi : i < l.length) (hl : l.length ≤ 1000) (hx : okL (rd_T25 l (i : Int))) (hs : ls.length ≤ 1000) (p : ByteArray) (hp : p = paperB (rd_T25 l (i : Int))) :
    examine_Text.j1 (k + 1) kindsL whysL ls p (rd_T25 l (i : Int)).f2 l (l.length : Int) (i : Int) (rd_T25 l (i : Int)).f0 (rd_T25 l (i : Int)).f1 (rd_T25 l (i : Int)).f2 (rd_T25 l (i : Int)).f3 = examine_Text.l0 k kindsL whysL (ls ++ [⟨(lineL (rd_T25 l (i : Int))).toArray⟩]) l (l.length : Int) ((i + 1 : Nat) : Int) := by
  subst hp
  have hln := line_size hx
  have w1 : wrap64 ((i : Int) + 1) = ((i + 1 : Nat) : Int) := by rw [w64 (by omega) (by omega)]; omega
  unfold examine_Text.j1
  simp only [word_e, Option.bind_some]
  by_cases he : (rd_T25 l (i : Int)).f2.toList = ([] : List UInt8)
  · have e : joinOf [paperB (rd_T25 l (i : Int)), wordB kindsL (rd_T25 l (i : Int)).f1, (⟨#[45]⟩ : ByteArray), wordB whysL (rd_T25 l (i : Int)).f3] ⟨#[32]⟩ = lineL (rd_T25 l (i : Int)) := by
      rw [join4]
      simp only [lineL, fieldB, if_pos he]
    rw [if_pos he, join_ok (by simp) (by rw [e]; omega), e]
    simp only [Option.bind_some]
    rw [if_pos (by omega), w1]
  · have e : joinOf [paperB (rd_T25 l (i : Int)), wordB kindsL (rd_T25 l (i : Int)).f1, (rd_T25 l (i : Int)).f2, wordB whysL (rd_T25 l (i : Int)).f3] ⟨#[32]⟩ = lineL (rd_T25 l (i : Int)) := by
      rw [join4]
      simp only [lineL, fieldB, if_neg he]
    rw [if_neg he, join_ok (by simp) (by rw [e]; omega), e]
    simp only [Option.bind_some]
    rw [if_pos (by omega), w1]
theorem ex_go : ∀ (m : Nat) (k : Nat) (l : List S25) (ls : List ByteArray) (i : Nat), i + m = l.length → l.length ≤ 1000 → (∀ x ∈ l, okL x) → ls = (l.take i).map (fun x => ⟨(lineL x).toArray⟩) →
    examine_Text.l0 (k + 2 * m + 1) kindsL whysL ls l (l.length : Int) (i : Int) = some ⟨(restL true l).toArray⟩
  | 0, k, l, ls, i, h, hl, ho, hs => by
    unfold examine_Text.l0
    rw [if_neg (by omega)]
    have e : joinOf ls ⟨#[59, 32]⟩ = restL true l := by
      rw [rest_true, hs, List.take_of_length_le (by omega)]
      unfold joinOf
      rw [List.map_map]
      rfl
    have := rest_len l ho true
    rw [join_ok (by rw [hs]; simp; omega) (by rw [e]; omega), e]
    rfl
  | m + 1, k, l, ls, i, h, hl, ho, hs => by
    have hi : i < l.length := by omega
    have hx := ho _ (rd_mem hi)
    have hsl : ls.length ≤ 1000 := by rw [hs]; simp; omega
    rw [show k + 2 * (m + 1) + 1 = (k + 2 * m + 1) + 1 + 1 by omega]
    unfold examine_Text.l0
    rw [if_pos (by omega), if_pos (by omega), if_pos (by omega), itoa_ok hx.2.1 hx.2.2]
    simp only [Option.bind_some]
    have fin := ex_go m k l (ls ++ [⟨(lineL (rd_T25 l (i : Int))).toArray⟩]) (i + 1) (by omega) hl ho (by
      rw [hs, List.take_add_one, List.getElem?_eq_getElem hi, List.map_append]
      unfold rd_T25
      rw [List.getD_eq_getElem?_getD, Int.toNat_natCast, List.getElem?_eq_getElem hi]
      rfl)
    by_cases hp : (rd_T25 l (i : Int)).f0 = -1
    · rw [if_pos hp, ex_line _ l ls i hi hl hx hsl _ (by unfold paperB; rw [if_pos hp]), fin]
    · rw [if_neg hp, ex_line _ l ls i hi hl hx hsl _ (by unfold paperB; rw [if_neg hp]), fin]

theorem both_texts (l : List S25) (hl : l.length ≤ 1000) (ho : ∀ x ∈ l, okL x) (k : Nat) (hk : 3 * l.length + 23 ≤ k) :
    examine_Text.f k l = some ⟨(restL true l).toArray⟩ ∧ supercargoref31_Text.f k l = some ⟨(restL true l).toArray⟩ := by
  constructor
  · have h := ex_go l.length (k - 2 * l.length - 1) l [] 0 (by omega) hl ho rfl
    rw [show k - 2 * l.length - 1 + 2 * l.length + 1 = k by omega] at h
    exact h
  · have h := ref_go l.length (k - 3 * l.length - 23) l ⟨#[]⟩ 0 (by omega) hl ho (by show 0 + _ ≤ _; omega)
    rw [show k - 3 * l.length - 23 + 3 * l.length + 23 = k by omega] at h
    exact h

/-! ### The law -/
theorem texts_go : ∀ (m : Nat) (l : List S25) (i : Nat), i + m = l.length → l.length ≤ maxLen → (∀ x ∈ l, ok25 x) → (∀ x ∈ l.take i, okL x) → i ≤ 41 → ∃ k, supercargolaw31_ExamineTexts.l0 k l (i : Int) = some true
  | 0, l, i, h, hl, ho, hx, h4 => by
    refine ⟨3 * l.length + 24, ?_⟩
    unfold supercargolaw31_ExamineTexts.l0
    rw [if_neg (by omega)]
    obtain ⟨h1, h2⟩ := both_texts l (by omega) (by rw [List.take_of_length_le (by omega)] at hx; exact hx) (3 * l.length + 23) (Nat.le_refl _)
    rw [h1, h2]
    simp
  | m + 1, l, i, h, hl, ho, hx, h4 => by
    have hi : i < l.length := by omega
    by_cases c : (i : Int) > 40
    · exact ⟨1, by unfold supercargolaw31_ExamineTexts.l0; rw [if_pos (by omega), if_pos c]⟩
    by_cases c1 : ((rd_T25 l (i : Int)).f2.size : Int) > 100
    · exact ⟨1, by unfold supercargolaw31_ExamineTexts.l0; rw [if_pos (by omega), if_neg c, if_pos (by omega), if_pos c1]⟩
    by_cases c2 : (rd_T25 l (i : Int)).f0 < -1152921504606846976
    · exact ⟨1, by unfold supercargolaw31_ExamineTexts.l0; rw [if_pos (by omega), if_neg c, if_pos (by omega), if_neg c1, if_pos c2]⟩
    by_cases c3 : (rd_T25 l (i : Int)).f0 > 1152921504606846976
    · exact ⟨1, by unfold supercargolaw31_ExamineTexts.l0; rw [if_pos (by omega), if_neg c, if_pos (by omega), if_neg c1, if_neg c2, if_pos c3]⟩
    obtain ⟨k, hk⟩ := texts_go m l (i + 1) (by omega) hl ho (by
      intro x hxx
      rw [List.take_add_one, List.getElem?_eq_getElem hi] at hxx
      rcases List.mem_append.1 hxx with hxx | hxx
      · exact hx x hxx
      · have e : x = rd_T25 l (i : Int) := by
          unfold rd_T25
          rw [List.getD_eq_getElem?_getD, Int.toNat_natCast, List.getElem?_eq_getElem hi]
          simpa using hxx
        rw [e]
        exact ⟨by omega, by omega, by omega⟩) (by omega)
    refine ⟨k + 1, ?_⟩
    unfold supercargolaw31_ExamineTexts.l0
    rw [if_pos (by omega), if_neg c, if_pos (by omega), if_neg c1, if_neg c2, if_neg c3, w64 (by omega) (by omega)]
    exact hk
theorem texts_law (l : List S25) (hl : l.length ≤ maxLen) (ho : ∀ x ∈ l, ok25 x) : ∃ k, supercargolaw31_ExamineTexts.f k l = some true := by
  obtain ⟨k, hk⟩ := texts_go l.length l 0 (by omega) hl ho (by simp) (by omega)
  exact ⟨k, hk⟩
end Go.Proofs.YtcibglpbfaffgaaDoor.X

namespace Go.Proofs.YtcibglpbfaffgaaDoor.X
open Go Go.ChangeShapes Go.WideShapes Go.ChangeAt Go.RowKit Go.Proofs.YtcibglpbfaffgaaDoorW.PrintWords Go.Proofs.YtcibglpbfaffgaaDoorW.PrintLast Go.Proofs.YtcibglpbfaffgaaDoorW.PrintMore
set_option linter.unusedVariables false

def TextsLaw : Prop := ∀ l : List S25, l.length ≤ maxLen → (∀ x ∈ l, ok25 x) → ∃ k, supercargolaw31_ExamineTexts.f k l = some true

set_option maxRecDepth 100000 in
theorem texts_lifted (P : TextsLaw) (os : Os) (started : os.Started) (H : Type) (enc : TypeId × Value → H) :
    ReturnsInHanded {} Tryd.checked os 3 .any (fun w args => (Rows.examineTextsSpec.pre enc Tryd.prog Tryd.f3 [] false w args ∧ laidMetH Tryd.prog laidL w) ∧ sizedMet enc Tryd.prog Tryd.f3 (OpenSpec.ofChange Rows.examineTextsSpec) false w args)
      (Rows.examineTextsSpec.post enc Tryd.prog Tryd.f3 false true false false) := by
  refine returnsInHanded_of_change_and_shaped (C := Tryd.checked) (X := fun w _ => laidMetH Tryd.prog laidL w) (fun _ _ _ hh h => h.of_heap hh) own started (by kernel_rfl) Tryd.func3
    (ChangeSpec.witness_shaped (enc := enc) (C := Tryd.checked) (os := os) (X := fun w _ => laidMetH Tryd.prog laidL w) false (World.doorLaid Tryd.prog 67 os) #[.slice none 0 0] 8 rfl (World.shaped_of_RefB (by kernel_rfl) (by kernel_rfl)) (by kernel_rfl) (by kernel_rfl) (by kernel_rfl) (door_met os _)) ?_
  intro W base args ds gs before hval0 hW hcnd _ hL hsh _
  have hval : ∀ (j : Nat) t v, Tryd.f3.params[j]? = some t → args[j]? = some v → Value.okWide Tryd.prog W .any base t v := hval0
  have hW' := hW
  obtain ⟨p, q, hA0, hV, rfl, hfz, hnd⟩ := hW
  have hA : DataW.TrodAll enc Tryd.prog W 0 (fun _ => true) true Tryd.f3.params.toList args.toList ds p := hA0
  rw [Tryd.params3] at hA hval
  obtain ⟨v0, vs0, d0, ds0, p0, q0, hargs, rfl, rfl, h0, r0⟩ := trodAll_cons hA
  obtain ⟨rfl, rfl, rfl⟩ := trodAll_nil r0
  obtain rfl : args = #[v0] := by cases args; simp_all
  obtain ⟨rfl, rfl⟩ := trodVars_none hV
  obtain ⟨a0, len0, cap0, rfl⟩ := okWide_slice Tryd.underlying22 (hval 0 22 v0 rfl rfl)
  have k0 := h0
  have lt0 : ∀ x ∈ p0, x.block < W.heap.size := by obtain ⟨m, hm⟩ := k0; exact DataW.trod_lt m _ _ _ hm
  obtain ⟨l0, e0, y0, z0, w0, o0⟩ : ∃ l : List S25, len0 = l.length ∧ l.length ≤ cap0 ∧ k25.C W a0 l.length l ∧ l.length ≤ maxLen ∧ ∀ x ∈ l, ok25 x := by
    obtain ⟨fuel, hf⟩ := h0
    obtain ⟨l, ⟨A, c, hcs, hle, hC⟩, hm, ho⟩ := (opens22 fuel).2 H enc W 0 _ _ fuel _ _ (by omega) hf
    simp [Value.cells] at hcs
    obtain ⟨rfl, rfl, rfl⟩ := hcs
    exact ⟨l, rfl, hle, hC, hm, ho⟩
  subst e0
  have hG := glob_of_laid hL hsh
  clear hA0 hval0
  obtain ⟨k, hk⟩ := P l0 w0 o0
  refine (supercargolaw31_ExamineTexts.calls k a0 cap0 l0 true W z0 y0 hG hk).mono fun e W' ⟨he, bel⟩ => ?_
  subst he
  exact ⟨_, rfl, _, _, _, [], _, [], hW', trodAll_mk1 (shut_bool Tryd.underlying4 _), trodAll_cons_mk (Below.trod laidOut (by kernel_rfl) (of_decide_eq_true (by kernel_rfl)) k0 bel lt0) trodAll_mk0, rfl, bel.frame _, fun h => by cases h⟩
theorem texts_holds (P : TextsLaw) : Rows.ExamineTextsSaid :=
  OpenClaim.holds_of_wide 3 Tryd.f3 rfl rfl rfl rfl rfl rfl rfl ⟨rfl, rfl, rfl, rfl, rfl⟩ rfl rfl rfl rfl rfl (by kernel_rfl) Tryd.func3 (by kernel_rfl)
    (of_decide_eq_true (by kernel_rfl)) (by unfold Func.isWrapper; first | (rw [if_pos (by decide +kernel)]; kernel_rfl) | (rw [if_neg (by decide +kernel)]; exact ⟨rfl, rfl⟩))
    (fun os started H enc _ => texts_lifted P os started H enc)
theorem texts_card (P : TextsLaw) : Rows.ExamineTextsCardSaid :=
  Claim7.holds_tied_plain_at .later [] [.data, .data, .data, .sentinel, .sentinel, .data] true (true, "d75b90e3a55475a2bd39b0bccd58f92fb1dd6aa4258298bc3114d20e934d3b42") true
    (texts_holds P) (fun _ h => by cases h) (by kernel_rfl) (fun _ h => by cases h) examineTexts_row_tie rfl ⟨rfl, rfl⟩ (by kernel_rfl) rfl
    (fun f fn hf hfn => by
      obtain rfl : f = 3 := Option.some.inj ((show Tryd.prog.funcNamed "supercargo/supercargolaw31.ExamineTexts" = some 3 by kernel_rfl).symm.trans hf) |>.symm
      obtain rfl : fn = Tryd.f3 := (Option.some.inj (Tryd.func3.symm.trans hfn)).symm
      exact ⟨by kernel_rfl, fun j t ht => by
        rw [Tryd.params3] at ht
        have h3 : t = 22 := by
          rcases j with _ | j
          · simpa using ht.symm
          · simp at ht
        subst h3
        exact (show Tryd.prog.wantsStandIn 22 = false by kernel_rfl)⟩)
    (by kernel_rfl)
end Go.Proofs.YtcibglpbfaffgaaDoor.X

namespace Go.Proofs.YtcibglpbfaffgaaDoor
theorem examineTexts_card : Rows.ExamineTextsCardSaid := X.texts_card X.texts_law
end Go.Proofs.YtcibglpbfaffgaaDoor
