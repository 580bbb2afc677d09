/- Examine in the printed form: its function of rounds, that more rounds tell the same, and the contract of the call. -/
import Derived.Test.YtcibglpbfaffgaaDoorGE
namespace Go.Proofs.YtcibglpbfaffgaaDoor.X
open Go.RowKit Go.Proofs.YtcibglpbfaffgaaDoorW.PrintWords Go.Proofs.YtcibglpbfaffgaaDoorW.PrintLast Go.Proofs.YtcibglpbfaffgaaDoorW.PrintMore
set_option linter.unusedVariables false
set_option linter.unusedSimpArgs false

theorem partsF_mono (k : Nat) (docs : List S37) (d : S37) (a : Int) : ∀ (ps : List S43) (L : List S25), LeO (partsF k docs d a ps L) (partsF (k + 1) docs d a ps L)
  | [], L => LeO.refl _
  | p :: ps, L => by
    unfold partsF
    intro r h
    obtain ⟨x, hx, h2⟩ := Option.bind_eq_some_iff.1 h
    refine Option.bind_eq_some_iff.2 ⟨x, examine_rule.mono _ _ _ _ _ _ _ _ _ _ _ _ _ hx, ?_⟩
    split at h2
    · rename_i ho
      rw [if_pos ho]
      exact partsF_mono k docs d a ps _ r h2
    · exact absurd h2 (by simp)
theorem ruledF_mono (k : Nat) (docs : List S37) (d : S37) (a : Int) : ∀ (ns : List S45) (L : List S25), LeO (ruledF k docs d a ns L) (ruledF (k + 1) docs d a ns L)
  | [], L => LeO.refl _
  | n :: ns, L => by
    unfold ruledF
    intro r h
    split at h
    · rename_i hk
      rw [if_pos hk]
      obtain ⟨ps, hps, h2⟩ := Option.bind_eq_some_iff.1 h
      obtain ⟨L1, hL1, h3⟩ := Option.bind_eq_some_iff.1 h2
      exact Option.bind_eq_some_iff.2 ⟨ps, examine_parts.mono _ _ _ _ _ _ _ _ hps, Option.bind_eq_some_iff.2 ⟨L1, partsF_mono k docs d a ps L _ hL1, ruledF_mono k docs d a ns L1 r h3⟩⟩
    · rename_i hk
      rw [if_neg hk]
      exact ruledF_mono k docs d a ns L r h
theorem docF_mono (k : Nat) (c : S33) (docs : List S37) (day : Int) : ∀ (ds : List S37) (j : Nat) (s : List S25 × (ByteArray → Option ByteArray)), LeO (docF k c docs day ds j s) (docF (k + 1) c docs day ds j s)
  | [], j, s => LeO.refl _
  | d :: ds, j, s => by
    unfold docF
    intro r h
    split at h
    · rename_i hk
      rw [if_pos hk]
      split at h
      · rename_i hl
        rw [if_pos hl]
        obtain ⟨L, hL, h2⟩ := Option.bind_eq_some_iff.1 h
        refine Option.bind_eq_some_iff.2 ⟨L, ruledF_mono k docs d _ _ _ _ hL, ?_⟩
        split at h2
        · rename_i hl2
          rw [if_pos hl2]
          exact docF_mono k c docs day ds _ _ r h2
        · exact absurd h2 (by simp)
      · exact absurd h (by simp)
    · rename_i hk
      rw [if_neg hk]
      exact docF_mono k c docs day ds _ _ r h
theorem exF_mono (k : Nat) (c : S33) (docs : List S37) (day : Int) : LeO (exF k c docs day) (exF (k + 1) c docs day) := by
  unfold exF
  intro r h
  split at h
  · rename_i hk
    rw [if_pos hk]
    exact docF_mono k c docs day _ _ _ r h
  · exact absurd h (by simp)

theorem rows_flat (w : World) (base : Nat) (ok : Nat → Prop) : ∀ L : List S25, Reps (k25.M w base ok) 4 L (L.flatMap c25) := by
  intro L
  refine ⟨?_, ?_⟩
  · induction L with
    | nil => rfl
    | cons x xs ih => simp [c25, ih]; omega
  · induction L with
    | nil => intro j p h; simp at h
    | cons x xs ih =>
      intro j p h
      cases j with
      | zero =>
        obtain rfl : x = p := by simpa using h
        have e : ((List.flatMap c25 (x :: xs)).drop (0 * 4)).take 4 = c25 x := by simp [c25]
        rw [e]
        exact k25_mkM w base _ x
      | succ j =>
        have e : (List.flatMap c25 (x :: xs)).drop ((j + 1) * 4) = (List.flatMap c25 xs).drop (j * 4) := by
          have h4 : (j + 1) * 4 = 4 + j * 4 := by omega
          rw [h4, ← List.drop_drop]
          simp [c25]
        rw [e]
        exact ih j p (by simpa using h)
theorem own_R25 {w : World} {base : Nat} {v : Value} {L : List S25} (h : w.ownsRow base 25 4 v L.length (L.flatMap c25)) : Kd.R k25 25 w base (fun _ => True) v L :=
  ⟨fun _ _ => trivial, L.flatMap c25, h, rows_flat w base _ L⟩

def examine_Examine.f (k : Nat) (a0_0 : ByteArray) (a0_1 : ByteArray) (a0_2 : ByteArray) (a0_3 : ByteArray) (a0_4 : ByteArray) (a0_5 : ByteArray) (a0_6 : ByteArray) (a0_7 : ByteArray) (a0_8 : Int) (a0_9 : Int) (a0_10 : Int) (a0_11 : Int) (a0_12 : Int) (a0_13 : Int) (a0_14 : Int) (a0_15 : Bool) (a0_16 : Bool) (l0_17 : List (S45)) (l1 : List (S37)) (a2 : Int) : Option (List S25) :=
  exF k ⟨a0_0, a0_1, a0_2, a0_3, a0_4, a0_5, a0_6, ⟨a0_7, a0_8⟩, a0_9, a0_10, a0_11, a0_12, a0_13, a0_14, a0_15, a0_16, l0_17⟩ l1 a2
theorem examine_Examine.mono : ∀ a0 a1 a2 a3 a4 a5 a6 a7 a8 a9 a10 a11 a12 a13 a14 a15 a16 a17 a18 a19 k, LeO (examine_Examine.f k a0 a1 a2 a3 a4 a5 a6 a7 a8 a9 a10 a11 a12 a13 a14 a15 a16 a17 a18 a19) (examine_Examine.f (k + 1) a0 a1 a2 a3 a4 a5 a6 a7 a8 a9 a10 a11 a12 a13 a14 a15 a16 a17 a18 a19) :=
  fun _ _ _ _ _ _ _ _ _ _ _ _ _ _ _ _ _ _ _ _ k => exF_mono k _ _ _
theorem examine_Examine.calls (k : Nat) (a0_0 : ByteArray) (a0_1 : ByteArray) (a0_2 : ByteArray) (a0_3 : ByteArray) (a0_4 : ByteArray) (a0_5 : ByteArray) (a0_6 : ByteArray) (a0_7 : ByteArray) (a0_8 : Int) (a0_9 : Int) (a0_10 : Int) (a0_11 : Int) (a0_12 : Int) (a0_13 : Int) (a0_14 : Int) (a0_15 : Bool) (a0_16 : Bool) (A0_17 : Option Addr) (c0_17 : Nat) (l0_17 : List (S45)) (A1 : Option Addr) (c1 : Nat) (l1 : List (S37)) (a2 : Int) (r : List S25) (w : World) (hr0_17 : Kd.C k45 w A0_17 l0_17.length l0_17) (hc0_17 : l0_17.length ≤ c0_17) (hr1 : Kd.C k37 w A1 l1.length l1) (hc1 : l1.length ≤ c1) (hG : Glob w) (h : examine_Examine.f k a0_0 a0_1 a0_2 a0_3 a0_4 a0_5 a0_6 a0_7 a0_8 a0_9 a0_10 a0_11 a0_12 a0_13 a0_14 a0_15 a0_16 l0_17 l1 a2 = some r) :
    Calls Tryd.prog 18 #[.agg #[.string a0_0, .string a0_1, .string a0_2, .string a0_3, .string a0_4, .string a0_5, .string a0_6, .string a0_7, .int .i64 a0_8, .int .i64 a0_9, .int .i64 a0_10, .int .i64 a0_11, .int .i64 a0_12, .int .i64 a0_13, .int .i64 a0_14, .bool a0_15, .bool a0_16, .slice A0_17 l0_17.length c0_17], .slice A1 l1.length c1, .int .i64 a2] w fun e w' => ∃ v0_ : Value, e = .returned (v0_) ∧ Kd.R k25 25 w' w.heap.size (fun _ => True) v0_ r ∧ Below w.heap.size w w' := by
  refine (examine18 k ⟨a0_0, a0_1, a0_2, a0_3, a0_4, a0_5, a0_6, ⟨a0_7, a0_8⟩, a0_9, a0_10, a0_11, a0_12, a0_13, a0_14, a0_15, a0_16, l0_17⟩ A0_17 c0_17 l1 A1 c1 a2 r w hr0_17 hc0_17 hr1 hc1 hG h).mono ?_
  rintro e w' ⟨v0, rfl, ho, hb⟩
  exact ⟨v0, rfl, own_R25 ho, hb⟩
end Go.Proofs.YtcibglpbfaffgaaDoor.X
