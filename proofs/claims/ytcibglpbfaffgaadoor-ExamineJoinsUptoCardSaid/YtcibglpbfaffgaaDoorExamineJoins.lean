/- For any two lists of faults, of bulk at most 1048576 together, the law ExamineJoins answers true: the text of both is both texts with a semicolon between; the tied card of the second form. Conditions: the bulk, and none beyond the given card's. -/
import Derived.Test.YtcibglpbfaffgaaDoorX21
import Derived.Test.YtcibglpbfaffgaaDoorGB
import Derived.Lib.ItoaLen
import Derived.Lib.SmallJoins
import Derived.Test.YtcibglpbfaffgaaDoorCards
namespace Go.Proofs.YtcibglpbfaffgaaDoor.X.J
open Go Go.RowKit Go.Proofs.YtcibglpbfaffgaaDoorW.PrintWords Go.Proofs.YtcibglpbfaffgaaDoorW.PrintLast Go.Proofs.YtcibglpbfaffgaaDoorW.PrintMore
set_option linter.unusedVariables false
set_option linter.unusedSimpArgs false

theorem ba_ext {a b : ByteArray} (h : a.data.toList = b.data.toList) : a = b := by
  obtain ⟨⟨a⟩⟩ := a
  obtain ⟨⟨b⟩⟩ := b
  have : a = b := h
  rw [this]
theorem ba_app (a b : ByteArray) : (a ++ b).data.toList = a.data.toList ++ b.data.toList := Go.Joins.data_append a b
theorem ba_size (a : ByteArray) : a.size = a.data.toList.length := Array.length_toList.symm
theorem ba_appsize (a b : ByteArray) : (a ++ b).size = a.size + b.size := by rw [ba_size, ba_size, ba_size, ba_app, List.length_append]
theorem w64 {n : Int} (h0 : -9223372036854775808 ≤ n) (h1 : n ≤ 9223372036854775807) : wrap64 n = n := by unfold wrap64; omega

/-! ### Lines -/
def kindsL : List ByteArray := [(⟨#[105, 110, 118, 111, 105, 99, 101]⟩ : ByteArray), (⟨#[112, 97, 99, 107, 105, 110, 103]⟩ : ByteArray), (⟨#[108, 97, 100, 105, 110, 103]⟩ : ByteArray), (⟨#[105, 110, 115, 117, 114, 97, 110, 99, 101]⟩ : ByteArray), (⟨#[111, 114, 105, 103, 105, 110]⟩ : ByteArray), (⟨#[100, 114, 97, 102, 116]⟩ : ByteArray)]
def whysL : List ByteArray := [(⟨#[102, 105, 110, 101]⟩ : ByteArray), (⟨#[108, 97, 99, 107, 115]⟩ : ByteArray), (⟨#[102, 97, 105, 108, 115]⟩ : ByteArray), (⟨#[117, 110, 108, 105, 107, 101]⟩ : ByteArray), (⟨#[108, 97, 116, 101]⟩ : ByteArray), (⟨#[109, 117, 99, 104]⟩ : ByteArray), (⟨#[102, 101, 119]⟩ : ByteArray)]
def wordB (l : List ByteArray) (a : Int) : ByteArray := if a < 0 then ⟨#[45]⟩ else if a ≥ (l.length : Int) then ⟨#[45]⟩ else rdOf ByteArray.empty l a
theorem word_e (l : List ByteArray) (a : Int) : examine_word.f l a = some (wordB l a) := by
  unfold examine_word.f wordB
  by_cases h1 : a < 0
  · rw [if_pos h1, if_pos h1]
  · rw [if_neg h1, if_neg h1]
    by_cases h2 : a ≥ (l.length : Int)
    · rw [if_pos h2, if_pos h2]
    · rw [if_neg h2, if_neg h2, if_pos (by omega), if_pos (by omega)]
theorem wordB_size {l : List ByteArray} {n : Nat} (h : ∀ x ∈ l, x.size ≤ n) (hn : 1 ≤ n) (a : Int) : (wordB l a).size ≤ n := by
  unfold wordB
  split
  · exact hn
  · split
    · exact hn
    · rename_i h1 h2
      unfold rdOf
      rw [List.getD_eq_getElem?_getD, List.getElem?_eq_getElem (by omega)]
      exact h _ (List.getElem_mem _)
theorem kind_size (a : Int) : (wordB kindsL a).size ≤ 9 := wordB_size (by decide) (by decide) a
theorem why_size (a : Int) : (wordB whysL a).size ≤ 9 := wordB_size (by decide) (by decide) a

def paperB (x : S25) : ByteArray := if x.f0 = -1 then ⟨#[45]⟩ else ⟨(Lib.itoa x.f0).toArray⟩
def fieldB (x : S25) : ByteArray := if x.f2.toList = [] then ⟨#[45]⟩ else x.f2
def lineL (x : S25) : List UInt8 := (paperB x).data.toList ++ [32] ++ (wordB kindsL x.f1).data.toList ++ [32] ++ (fieldB x).data.toList ++ [32] ++ (wordB whysL x.f3).data.toList
def okL (x : S25) : Prop := x.f2.size ≤ 2000000 ∧ -9223372036854775808 ≤ x.f0 ∧ x.f0 ≤ 9223372036854775807
theorem paper_size {x : S25} (h : okL x) : (paperB x).size ≤ 21 := by
  unfold paperB
  split
  · decide
  · rw [ba_size]
    exact Lib.itoa_length_le _ h.2.1 h.2.2
theorem field_size {x : S25} (h : okL x) : (fieldB x).size ≤ 2000000 := by
  unfold fieldB
  split
  · decide
  · exact h.1
theorem line_size {x : S25} (h : okL x) : (lineL x).length ≤ 2000042 := by
  unfold lineL
  have := paper_size h
  have := field_size h
  have := kind_size x.f1
  have := why_size x.f3
  simp only [List.length_append, ← ba_size, List.length_cons, List.length_nil]
  omega

/-- The lines from a place on, each with its semicolon ahead but for the first of all. -/
def restL : Bool → List S25 → List UInt8
  | _, [] => []
  | first, x :: r => (if first then [] else [59, 32]) ++ lineL x ++ restL false r
theorem rest_false (l : List S25) : restL false l = Lib.joinTail [59, 32] (l.map lineL) := by
  induction l with
  | nil => rfl
  | cons x r ih => simp only [restL, ih, Lib.joinTail, List.map_cons, List.flatten_cons]; rfl
theorem rest_true (l : List S25) : restL true l = Lib.join (l.map lineL) [59, 32] := by
  cases l with
  | nil => rfl
  | cons x r => rw [List.map_cons, Lib.join_cons, ← rest_false]; simp [restL]
theorem rest_len (l : List S25) (h : ∀ x ∈ l, okL x) (b : Bool) : (restL b l).length ≤ 2000044 * l.length := by
  induction l generalizing b with
  | nil => simp [restL]
  | cons x r ih =>
    have h1 := line_size (h x (List.mem_cons_self ..))
    have h2 := ih (fun y hy => h y (List.mem_cons_of_mem _ hy)) false
    cases b <;> simp only [restL, List.length_append, List.length_cons] <;> simp <;> omega
theorem drop_at {l : List S25} {i : Nat} (h : i < l.length) : l.drop i = rd_T25 l (i : Int) :: l.drop (i + 1) := by
  rw [List.drop_eq_getElem_cons h]
  congr 1
  unfold rd_T25
  rw [List.getD_eq_getElem?_getD, Int.toNat_natCast, List.getElem?_eq_getElem h]
  rfl
theorem rd_mem {l : List S25} {i : Nat} (h : i < l.length) : rd_T25 l (i : Int) ∈ l := by
  unfold rd_T25
  rw [List.getD_eq_getElem?_getD, Int.toNat_natCast, List.getElem?_eq_getElem h]
  exact List.getElem_mem h
theorem emp_iff (x : ByteArray) : x.toList = ([] : List UInt8) ↔ x.toList = [] := Iff.rfl

/-! ### The program's text -/
theorem join_ok {l : List ByteArray} {s : ByteArray} (h1 : l.length ≤ 1000) (h2 : (joinOf l s).length ≤ 10000000000) : strings_Join.f l s = some ⟨(joinOf l s).toArray⟩ := by
  unfold strings_Join.f
  rw [if_pos]
  have : lim47 = 140737488355328 := rfl
  simp
  omega
theorem itoa_ok {n : Int} (h0 : -9223372036854775808 ≤ n) (h1 : n ≤ 9223372036854775807) : strconv_Itoa.f n = some ⟨(Lib.itoa n).toArray⟩ := by
  unfold strconv_Itoa.f i64ok
  rw [if_pos]
  simp
  exact ⟨h0, h1⟩
theorem join4 (a b c d : ByteArray) : joinOf [a, b, c, d] ⟨#[32]⟩ = a.data.toList ++ [32] ++ b.data.toList ++ [32] ++ c.data.toList ++ [32] ++ d.data.toList := by
  unfold joinOf
  simp only [List.map_cons, List.map_nil, Lib.join_cons, Lib.joinTail]
  simp
theorem ex_line (k : Nat) (l : List S25) (ls : List ByteArray) (i : Nat) (hi : i < l.length) (hl : l.length ≤ 1000) (hx : okL (rd_T25 l (i : Int))) (hs : ls.length ≤ 1000) (p : ByteArray) (hp : p = paperB (rd_T25 l (i : Int))) :
    examine_Text.j1 (k + 1) kindsL whysL ls p (rd_T25 l (i : Int)).f2 l (l.length : Int) (i : Int) (rd_T25 l (i : Int)).f0 (rd_T25 l (i : Int)).f1 (rd_T25 l (i : Int)).f2 (rd_T25 l (i : Int)).f3 = examine_Text.l0 k kindsL whysL (ls ++ [⟨(lineL (rd_T25 l (i : Int))).toArray⟩]) l (l.length : Int) ((i + 1 : Nat) : Int) := by
  subst hp
  have hln := line_size hx
  have w1 : wrap64 ((i : Int) + 1) = ((i + 1 : Nat) : Int) := by rw [w64 (by omega) (by omega)]; omega
  unfold examine_Text.j1
  simp only [word_e, Option.bind_some]
  by_cases he : (rd_T25 l (i : Int)).f2.toList = ([] : List UInt8)
  · have e : joinOf [paperB (rd_T25 l (i : Int)), wordB kindsL (rd_T25 l (i : Int)).f1, (⟨#[45]⟩ : ByteArray), wordB whysL (rd_T25 l (i : Int)).f3] ⟨#[32]⟩ = lineL (rd_T25 l (i : Int)) := by
      rw [join4]
      simp only [lineL, fieldB, if_pos he]
    rw [if_pos he, join_ok (by simp) (by rw [e]; omega), e]
    simp only [Option.bind_some]
    rw [if_pos (by omega), w1]
  · have e : joinOf [paperB (rd_T25 l (i : Int)), wordB kindsL (rd_T25 l (i : Int)).f1, (rd_T25 l (i : Int)).f2, wordB whysL (rd_T25 l (i : Int)).f3] ⟨#[32]⟩ = lineL (rd_T25 l (i : Int)) := by
      rw [join4]
      simp only [lineL, fieldB, if_neg he]
    rw [if_neg he, join_ok (by simp) (by rw [e]; omega), e]
    simp only [Option.bind_some]
    rw [if_pos (by omega), w1]
theorem ex_go : ∀ (m : Nat) (k : Nat) (l : List S25) (ls : List ByteArray) (i : Nat), i + m = l.length → l.length ≤ 1000 → (∀ x ∈ l, okL x) → ls = (l.take i).map (fun x => ⟨(lineL x).toArray⟩) →
    examine_Text.l0 (k + 2 * m + 1) kindsL whysL ls l (l.length : Int) (i : Int) = some ⟨(restL true l).toArray⟩
  | 0, k, l, ls, i, h, hl, ho, hs => by
    unfold examine_Text.l0
    rw [if_neg (by omega)]
    have e : joinOf ls ⟨#[59, 32]⟩ = restL true l := by
      rw [rest_true, hs, List.take_of_length_le (by omega)]
      unfold joinOf
      rw [List.map_map]
      rfl
    have := rest_len l ho true
    rw [join_ok (by rw [hs]; simp; omega) (by rw [e]; omega), e]
    rfl
  | m + 1, k, l, ls, i, h, hl, ho, hs => by
    have hi : i < l.length := by omega
    have hx := ho _ (rd_mem hi)
    have hsl : ls.length ≤ 1000 := by rw [hs]; simp; omega
    rw [show k + 2 * (m + 1) + 1 = (k + 2 * m + 1) + 1 + 1 by omega]
    unfold examine_Text.l0
    rw [if_pos (by omega), if_pos (by omega), if_pos (by omega), itoa_ok hx.2.1 hx.2.2]
    simp only [Option.bind_some]
    have fin := ex_go m k l (ls ++ [⟨(lineL (rd_T25 l (i : Int))).toArray⟩]) (i + 1) (by omega) hl ho (by
      rw [hs, List.take_add_one, List.getElem?_eq_getElem hi, List.map_append]
      unfold rd_T25
      rw [List.getD_eq_getElem?_getD, Int.toNat_natCast, List.getElem?_eq_getElem hi]
      rfl)
    by_cases hp : (rd_T25 l (i : Int)).f0 = -1
    · rw [if_pos hp, ex_line _ l ls i hi hl hx hsl _ (by unfold paperB; rw [if_pos hp]), fin]
    · rw [if_neg hp, ex_line _ l ls i hi hl hx hsl _ (by unfold paperB; rw [if_neg hp]), fin]


theorem text_ok (l : List S25) (hl : l.length ≤ 1000) (ho : ∀ x ∈ l, okL x) (k : Nat) (hk : 2 * l.length + 1 ≤ k) : examine_Text.f k l = some ⟨(restL true l).toArray⟩ := by
  have h := ex_go l.length (k - 2 * l.length - 1) l [] 0 (by omega) hl ho rfl
  rw [show k - 2 * l.length - 1 + 2 * l.length + 1 = k by omega] at h
  exact h
theorem rest_app (b : Bool) (l m : List S25) (h : l ≠ []) : restL b (l ++ m) = restL b l ++ restL false m := by
  cases l with
  | nil => exact absurd rfl h
  | cons x r =>
    simp only [List.cons_append, restL, List.append_assoc]
    congr 2
    rw [rest_false, rest_false, rest_false, List.map_append]
    simp [Lib.joinTail]
theorem rest_semi (m : List S25) (h : m ≠ []) : restL false m = [59, 32] ++ restL true m := by
  cases m with
  | nil => exact absurd rfl h
  | cons x r => simp [restL]
theorem rest_emp (l : List S25) : restL true l = [] ↔ l = [] := by
  cases l with
  | nil => simp [restL]
  | cons x r => simp [restL, lineL]
theorem tl_mk (l : List UInt8) : (⟨l.toArray⟩ : ByteArray).toList = l := by rw [Lib.toList_data]
theorem emp_beq (l : List S25) : ((⟨(restL true l).toArray⟩ : ByteArray).toList == ([] : List UInt8)) = ((l.length : Int) == 0) := by
  rw [tl_mk]
  cases l with
  | nil => rfl
  | cons x r =>
    have h1 : restL true (x :: r) ≠ [] := by simp [restL, lineL]
    have h2 : (((x :: r).length : Nat) : Int) ≠ 0 := by rw [List.length_cons]; omega
    rw [beq_eq_false_iff_ne.2 h1, beq_eq_false_iff_ne.2 h2]
theorem joins_law (l m : List S25) (hl : ∀ x ∈ l, ok25B 1048576 x) (hm : ∀ x ∈ m, ok25B 1048576 x) : ∃ k, supercargolaw31_ExamineJoins.f k l m = some true := by
  have aw : supercargolaw31_awake.f = some true := rfl
  by_cases c1 : (l.length : Int) > 30
  · refine ⟨1, ?_⟩
    unfold supercargolaw31_ExamineJoins.f
    rw [aw]
    simp only [Option.bind_some]
    rw [if_pos trivial, if_pos c1]
    rw [supercargolaw31_ExamineJoins.j0]
    rw [if_pos rfl]
  by_cases c2 : (m.length : Int) > 30
  · refine ⟨1, ?_⟩
    unfold supercargolaw31_ExamineJoins.f
    rw [aw]
    simp only [Option.bind_some]
    rw [if_pos trivial, if_neg c1, decide_eq_true c2]
    rw [supercargolaw31_ExamineJoins.j0]
    rw [if_pos rfl]
  have conv : ∀ x, ok25B 1048576 x → okL x := fun x h => by
    obtain ⟨h0, _, h2, _⟩ := h
    have b : -9223372036854775808 ≤ x.f0 ∧ x.f0 ≤ 9223372036854775807 := by
      have e1 : IntKind.i64.min = -9223372036854775808 := rfl
      have e2 : IntKind.i64.max = 9223372036854775807 := rfl
      simp [wf64, Lit.wf, e1, e2] at h0
      omega
    exact ⟨by omega, b.1, b.2⟩
  have ol : ∀ x ∈ l, okL x := fun x hx => conv x (hl x hx)
  have om : ∀ x ∈ m, okL x := fun x hx => conv x (hm x hx)
  have olm : ∀ x ∈ l ++ m, okL x := fun x hx => (List.mem_append.1 hx).elim (ol x) (om x)
  refine ⟨201, ?_⟩
  have ll := rest_len l ol true
  have lm := rest_len m om true
  have sl : (⟨(restL true l).toArray⟩ : ByteArray).size = (restL true l).length := ba_size _
  have sm : (⟨(restL true m).toArray⟩ : ByteArray).size = (restL true m).length := ba_size _
  have s2 : (⟨#[59, 32]⟩ : ByteArray).size = 2 := rfl
  unfold supercargolaw31_ExamineJoins.f
  rw [aw]
  simp only [Option.bind_some]
  rw [if_pos trivial, if_neg c1, decide_eq_false c2]
  rw [supercargolaw31_ExamineJoins.j0, if_neg (by decide), text_ok l (by omega) ol 200 (by omega), text_ok m (by omega) om 200 (by omega)]
  simp only [Option.bind_some, List.nil_append, List.length_nil]
  rw [if_pos (by omega), if_pos (by omega), text_ok (l ++ m) (by simp; omega) olm 200 (by simp; omega)]
  simp only [Option.bind_some]
  by_cases e1 : l = []
  · subst e1
    have e : (⟨(restL true ([] ++ m)).toArray⟩ : ByteArray).toList = ((⟨(restL true []).toArray⟩ : ByteArray) ++ (⟨(restL true m).toArray⟩ : ByteArray)).toList := by
      rw [Lib.toList_data, Lib.toList_data, ba_app]
      simp [restL]
    rw [if_pos (by simp), if_pos (by omega), if_pos e, emp_beq, emp_beq]
    simp
  · have n1 : ¬ (l.length : Int) = 0 := fun h => e1 (List.length_eq_zero_iff.1 (by omega))
    rw [if_neg n1]
    by_cases e2 : m = []
    · subst e2
      have e : (⟨(restL true (l ++ [])).toArray⟩ : ByteArray).toList = ((⟨(restL true l).toArray⟩ : ByteArray) ++ (⟨(restL true []).toArray⟩ : ByteArray)).toList := by
        rw [Lib.toList_data, Lib.toList_data, ba_app]
        simp [restL]
      rw [if_pos (by simp), if_pos (by omega), if_pos e, emp_beq, emp_beq]
      simp
    · have n2 : ¬ (m.length : Int) = 0 := fun h => e2 (List.length_eq_zero_iff.1 (by omega))
      rw [if_neg n2, if_pos (by omega), if_pos (by rw [ba_appsize]; omega)]
      congr 1
      rw [beq_iff_eq, Lib.toList_data, Lib.toList_data, ba_app, ba_app]
      show restL true (l ++ m) = restL true l ++ [59, 32] ++ restL true m
      rw [rest_app _ _ _ e1, rest_semi m e2, List.append_assoc]
end Go.Proofs.YtcibglpbfaffgaaDoor.X.J

namespace Go.Proofs.YtcibglpbfaffgaaDoor.X
open Go Go.ChangeShapes Go.WideShapes Go.ChangeAt Go.RowKit Go.Proofs.YtcibglpbfaffgaaDoorW.PrintWords Go.Proofs.YtcibglpbfaffgaaDoorW.PrintLast Go.Proofs.YtcibglpbfaffgaaDoorW.PrintMore
set_option linter.unusedVariables false
set_option linter.unusedSimpArgs false

theorem witness_cond_shaped {H : Type} {enc : TypeId × Value → H} {C : Checked} {os : Os} {f : FuncId} {fn : Func} {s : OpenSpec} {k : (H : Type) → List (DataW H) → Bool} (hk : s.cond = some k) {conds : List PathCond} {apart : Bool} {X : World → Array Value → Prop} (modest : Bool) (w0 : World) (args : Array Value) (fuel : Nat) (hos : w0.os = os)
    (hsh : (w0.forCall (fun _ _ => 0) ⟨#[], args, []⟩).Shaped C.prog)
    (hok : Input.okWideB C.prog (w0.forCall (fun _ _ => 0) ⟨#[], args, []⟩) f ⟨#[], args, []⟩ = true)
    {x : List (DataW H) × List (DataW H) × List MemPlace} (hx : DataW.whole enc C.prog (w0.forCall (fun _ _ => 0) ⟨#[], args, []⟩).memory fn.params.toList s.vars apart args.toList fuel = some x)
    (hconds : conds.all (PathCond.test C.prog ⟨fn.params.toList, x.1, s.bare.plain.varTypes C.prog, x.2.1⟩) = true) (hkk : k H (x.1 ++ x.2.1) = true)
    (hsz : s.bare.sizedB enc C.prog fn apart (w0.forCall (fun _ _ => 0) ⟨#[], args, []⟩).memory args fuel = true)
    (hX : X (w0.forCall (fun _ _ => 0) ⟨#[], args, []⟩).memory args) :
    ∃ (w : World) (tape : Tape) (i : Input), w.os = os ∧ (w.forCall tape i).Shaped C.prog ∧ i.vars = [] ∧ Input.okWide C.prog (w.forCall tape i) .any w.heap.size f i ∧
      ((s.pre enc C.prog fn conds apart (w.forCall tape i).memory i.args ∧ X (w.forCall tape i).memory i.args) ∧ sizedMet enc C.prog fn s apart (w.forCall tape i).memory i.args) ∧ ({ modest := modest } : Assume).holds C.prog (lone (Frame.enter C.prog f i.args .normal) [] (w.forCall tape i)) :=
  ⟨w0, fun _ _ => 0, ⟨#[], args, []⟩, hos, hsh, (Input.okWide_of_okWideB (base := 0) hok).1, (Input.okWide_of_okWideB hok).2, ⟨⟨(OpenSpec.pre_some hk conds apart _ _).2 ⟨x.1, x.2.1, x.2.2, DataW.Whole_of_whole hx, hconds, hkk⟩, hX⟩, sizedMet_of_sizedB hsz⟩, by
    simp only [Assume.holds]
    exact ⟨by simp, by simp, fun _ => Modest.zero, by simp, by simp⟩⟩

def JoinsLaw : Prop := ∀ l m : List S25, (∀ x ∈ l, ok25B 1048576 x) → (∀ x ∈ m, ok25B 1048576 x) → ∃ k, supercargolaw31_ExamineJoins.f k l m = some true

set_option maxRecDepth 100000 in
theorem joins_lifted (P : JoinsLaw) (os : Os) (started : os.Started) (H : Type) (enc : TypeId × Value → H) (F : Stop.Interp) :
    ReturnsInHanded {} Tryd.checked os 9 .any (fun w args => ((Rows.OpenSpec.upto Rows.examineJoinsSpec).pre enc Tryd.prog Tryd.f9 [] false w args ∧ laidMetH Tryd.prog laidL w) ∧ sizedMet enc Tryd.prog Tryd.f9 (Rows.OpenSpec.upto Rows.examineJoinsSpec) false w args)
      (((Rows.OpenSpec.upto Rows.examineJoinsSpec).at F).post enc Tryd.prog Tryd.f9 false true false false) := by
  refine returnsInHanded_of_cond_and_shaped (C := Tryd.checked) (s := Rows.OpenSpec.upto Rows.examineJoinsSpec) (k := Rows.uptoSmall) rfl (X := fun w _ => laidMetH Tryd.prog laidL w) (fun _ _ _ hh h => h.of_heap hh) own started (by kernel_rfl) Tryd.func9
    (witness_cond_shaped (enc := enc) (C := Tryd.checked) (os := os) (k := Rows.uptoSmall) rfl (X := fun w _ => laidMetH Tryd.prog laidL w) (x := ([.nil, .nil], [], [])) false (World.doorLaid Tryd.prog 67 os) #[.slice none 0 0, .slice none 0 0] 8 rfl (World.shaped_of_RefB (by kernel_rfl) (by kernel_rfl)) (by kernel_rfl) (by kernel_rfl) (by kernel_rfl) (by kernel_rfl) (by kernel_rfl) (door_met os _)) ?_
  intro W base args ds gs before hval0 hW hsm hL hsh _
  have hval : ∀ (j : Nat) t v, Tryd.f9.params[j]? = some t → args[j]? = some v → Value.okWide Tryd.prog W .any base t v := hval0
  have hW' := hW
  obtain ⟨p, q, hA0, hV, rfl, hfz, hnd⟩ := hW
  have hA : DataW.TrodAll enc Tryd.prog W 0 (fun _ => true) true Tryd.f9.params.toList args.toList ds p := hA0
  rw [Tryd.params9] at hA hval
  obtain ⟨v0, vs0, d0, ds0, p0, q0, hargs, rfl, rfl, h0, r0⟩ := trodAll_cons hA
  obtain ⟨v1, vs1, d1, ds1, p1, q1, rfl, rfl, rfl, h1, r1⟩ := trodAll_cons r0
  obtain ⟨rfl, rfl, rfl⟩ := trodAll_nil r1
  obtain rfl : args = #[v0, v1] := by cases args; simp_all
  obtain ⟨rfl, rfl⟩ := trodVars_none hV
  obtain ⟨a0, len0, cap0, rfl⟩ := okWide_slice Tryd.underlying22 (hval 0 22 v0 rfl rfl)
  obtain ⟨a1, len1, cap1, rfl⟩ := okWide_slice Tryd.underlying22 (hval 1 22 v1 rfl rfl)
  have hbulk : Rows.uptoBulk d0 ≤ 1048576 ∧ Rows.uptoBulk d1 ≤ 1048576 := by
    have h : Rows.uptoBulkAll ([d0, d1] ++ []) ≤ 1048576 := of_decide_eq_true hsm
    simp only [List.append_nil, Rows.uptoBulkAll] at h
    omega
  have k0 := h0
  have k1 := h1
  have lt0 : ∀ x ∈ p0, x.block < W.heap.size := by obtain ⟨m, hm⟩ := k0; exact DataW.trod_lt m _ _ _ hm
  have lt1 : ∀ x ∈ p1, x.block < W.heap.size := by obtain ⟨m, hm⟩ := k1; exact DataW.trod_lt m _ _ _ hm
  obtain ⟨l0, e0, y0, z0, o0⟩ : ∃ l : List S25, len0 = l.length ∧ l.length ≤ cap0 ∧ k25.C W a0 l.length l ∧ ∀ x ∈ l, ok25B 1048576 x := by
    obtain ⟨fuel, hf⟩ := h0
    obtain ⟨l, ⟨A, c, hcs, hle, hC⟩, ho⟩ := (opens22B fuel).2 H enc W 0 _ _ fuel _ _ (by omega) hf
    simp [Value.cells] at hcs
    obtain ⟨rfl, rfl, rfl⟩ := hcs
    exact ⟨l, rfl, hle, hC, (ho _ hbulk.1).2⟩
  obtain ⟨l1, e1, y1, z1, o1⟩ : ∃ l : List S25, len1 = l.length ∧ l.length ≤ cap1 ∧ k25.C W a1 l.length l ∧ ∀ x ∈ l, ok25B 1048576 x := by
    obtain ⟨fuel, hf⟩ := h1
    obtain ⟨l, ⟨A, c, hcs, hle, hC⟩, ho⟩ := (opens22B fuel).2 H enc W 0 _ _ fuel _ _ (by omega) hf
    simp [Value.cells] at hcs
    obtain ⟨rfl, rfl, rfl⟩ := hcs
    exact ⟨l, rfl, hle, hC, (ho _ hbulk.2).2⟩
  subst e0 e1
  have hG := glob_of_laid hL hsh
  clear hA0 hval0
  obtain ⟨k, hk⟩ := P l0 l1 o0 o1
  refine (supercargolaw31_ExamineJoins.calls k a0 cap0 l0 a1 cap1 l1 true W z0 y0 z1 y1 hG hk).mono fun e W' ⟨he, bel⟩ => ?_
  subst he
  exact ⟨_, rfl, _, _, _, [], _, [], hW', trodAll_mk1 (shut_bool Tryd.underlying4 _), trodAll_cons_mk (Below.trod laidOut (by kernel_rfl) (of_decide_eq_true (by kernel_rfl)) k0 bel lt0) (trodAll_cons_mk (Below.trod laidOut (by kernel_rfl) (of_decide_eq_true (by kernel_rfl)) k1 bel lt1) trodAll_mk0), rfl, bel.frame _, fun h => by cases h⟩
theorem joins_holds (P : JoinsLaw) : Rows.ExamineJoinsUptoSaid :=
  OpenClaim.holds_of_cond 9 Tryd.f9 rfl rfl rfl rfl rfl rfl rfl ⟨rfl, rfl, rfl, rfl, rfl⟩ rfl rfl rfl rfl rfl (by kernel_rfl) Tryd.func9 (by kernel_rfl)
    (of_decide_eq_true (by kernel_rfl)) (by unfold Func.isWrapper; first | (rw [if_pos (by decide +kernel)]; kernel_rfl) | (rw [if_neg (by decide +kernel)]; exact ⟨rfl, rfl⟩))
    (fun os started H enc _ F => joins_lifted P os started H enc F)
theorem joins_card (P : JoinsLaw) : Rows.ExamineJoinsUptoCardSaid :=
  Claim7.holds_tied_plain_at .later [] [.data, .data, .data, .sentinel, .sentinel, .data] true (true, "d75b90e3a55475a2bd39b0bccd58f92fb1dd6aa4258298bc3114d20e934d3b42") true
    (joins_holds P) (fun _ h => by cases h) (by kernel_rfl) (fun _ h => by cases h) examineJoinsUpto_row_tie rfl ⟨rfl, rfl⟩ (by kernel_rfl) rfl
    (fun f fn hf hfn => by
      obtain rfl : f = 9 := Option.some.inj ((show Tryd.prog.funcNamed "supercargo/supercargolaw31.ExamineJoins" = some 9 by kernel_rfl).symm.trans hf) |>.symm
      obtain rfl : fn = Tryd.f9 := (Option.some.inj (Tryd.func9.symm.trans hfn)).symm
      exact ⟨by kernel_rfl, fun j t ht => by
        rw [Tryd.params9] at ht
        have h3 : t = 22 := by
          rcases j with _ | _ | j
          · simpa using ht.symm
          · simpa using ht.symm
          · simp at ht
        subst h3
        exact (show Tryd.prog.wantsStandIn 22 = false by kernel_rfl)⟩)
    (by kernel_rfl)
end Go.Proofs.YtcibglpbfaffgaaDoor.X

namespace Go.Proofs.YtcibglpbfaffgaaDoor
theorem examineJoins_card : Rows.ExamineJoinsUptoCardSaid := X.joins_card X.J.joins_law
end Go.Proofs.YtcibglpbfaffgaaDoor
