/- Contracts of the library functions that the layer comes to (strconv.Itoa, strings.Join, slices.Max, slices.Min, strings.Contains, field.Number), in the printed form, in worlds in which the listed package variables read as they were laid. -/
import Derived.Test.YtcibglpbfaffgaaDoorX0
import Derived.Test.YtcibglpbfaffgaaDoorShelf
import Derived.WalkSpells
import Derived.Lib.Hide
import Derived.Lib.AppendIntMem
namespace Go.Proofs.YtcibglpbfaffgaaDoor.X
open Go.RowKit Go.Proofs.YtcibglpbfaffgaaDoorW.PrintWords Go.Proofs.YtcibglpbfaffgaaDoorW.PrintLast Go.Proofs.YtcibglpbfaffgaaDoorW.PrintMore
set_option linter.unusedVariables false

theorem cell_new (w : World) (o : Obj) {b k : Nat} {v : Value} (h : w.cell? ⟨b, k, none⟩ = some v) (hlt : b < w.heap.size) : (w.alloc o).cell? ⟨b, k, none⟩ = some v :=
  (((Below.refl w.heap.size w).alloc (Nat.le_refl _) o).cell (p := ⟨b, k, none⟩) hlt).trans h
theorem cell_lt {w : World} {a : Addr} {v : Value} (h : w.cell? a = some v) : a = ⟨a.block, a.off, none⟩ ∧ a.block < w.heap.size := by
  unfold World.cell? at h
  cases hb : w.heap[a.block]? with
  | none => rw [hb] at h; exact absurd h (by simp)
  | some o =>
    rw [hb] at h
    refine ⟨?_, (Array.getElem?_eq_some_iff.1 hb).1⟩
    cases o with
    | cells c e r =>
      cases hs : a.spot with
      | none => cases a; simp_all
      | some n => simp [hs] at h
    | _ => simp at h

/-- The six fields in which papers may conflict. -/
def sharedNames : List ByteArray := [⟨#[115, 101, 108, 108, 101, 114]⟩, ⟨#[102, 114, 111, 109]⟩, ⟨#[116, 111]⟩, ⟨#[99, 117, 114, 114, 101, 110, 99, 121]⟩, ⟨#[98, 111, 120, 101, 115]⟩, ⟨#[109, 97, 114, 107, 115]⟩]

/-- What the package variables hold. -/
structure Glob (w : World) : Prop where
  tab : Lib.TabIs Tryd.prog w "internal/strconv.uint64pow10" .u64 Lib.pow10Tab
  len : ∃ m, w.cell? ⟨2, 0, none⟩ = some (.int .i64 m)
  syn : ∃ ev, w.cell? ⟨3, 0, none⟩ = some ev ∧ (ev = Value.nilIface ∨ ∃ te pe, ev = Value.iface te pe)
  rng : ∃ ev, w.cell? ⟨4, 0, none⟩ = some ev ∧ (ev = Value.nilIface ∨ ∃ te pe, ev = Value.iface te pe)
  shared : ∃ b o c, w.cell? ⟨0, 0, none⟩ = some (.slice (some ⟨b, o, none⟩) 6 c) ∧ ∀ i s, sharedNames[i]? = some s → w.cell? ⟨b, o + i, none⟩ = some (.string s)

theorem cell_keep {w w' : World} {a : Addr} {v : Value} (hb : Below w.heap.size w w') (h : w.cell? a = some v) : w'.cell? a = some v := by
  obtain ⟨_, h2⟩ := cell_lt h
  exact (hb.cell h2).trans h
theorem Glob_below {w w' : World} (h : Glob w) (hb : Below w.heap.size w w') : Glob w' := by
  obtain ⟨h1, ⟨m, h2⟩, ⟨e3, h3, h3'⟩, ⟨e4, h4, h4'⟩, ⟨b, o, c, h5, h5'⟩⟩ := h
  refine ⟨?_, ⟨m, cell_keep hb h2⟩, ⟨e3, cell_keep hb h3, h3'⟩, ⟨e4, cell_keep hb h4, h4'⟩, ⟨b, o, c, cell_keep hb h5, fun i s hs => cell_keep hb (h5' i s hs)⟩⟩
  unfold Lib.TabIs World.var? at h1 ⊢
  revert h1
  cases Tryd.prog.globalNamed "internal/strconv.uint64pow10" with
  | none => exact fun h => h
  | some g =>
    intro h1
    simp only [Option.bind_some] at h1 ⊢
    cases hg : w.heap[g]? with
    | none => rw [hg] at h1; exact absurd h1 (by simp)
    | some o =>
      rw [hg] at h1
      rw [hb.block g (Array.getElem?_eq_some_iff.1 hg).1, hg]
      exact h1
theorem Glob_drewN {w : World} {n : Nat} (h : Glob w) : Glob (w.drewN n) := Glob_below h (pw_below_drewN (Below.refl _ _) n)
theorem Glob_drew {w : World} (h : Glob w) : Glob w.drew := Glob_below h (below_drew1 (Below.refl _ _))
theorem Glob_alloc {w : World} {o : Obj} (h : Glob w) : Glob (w.alloc o) := Glob_below h ((Below.refl _ _).alloc (Nat.le_refl _) o)

/-- A row of one-cell values, as addresses: where there is an element. -/
theorem C_cells {α : Type} {enc : α → Value} {h1 : ∀ x, (enc x).oneCell' = true} {w : World} {A : Option Addr} {n : Nat} {xs : List α} (h : Kd.C (Kd.scalar enc h1) w A n xs) (hn : 0 < n) :
    ∃ b o, A = some ⟨b, o, none⟩ ∧ b < w.heap.size ∧ ∀ (j : Nat) p, xs[j]? = some p → w.cell? ⟨b, o + j, none⟩ = some (enc p) := by
  obtain ⟨hl, _, hc⟩ := h
  obtain ⟨ad, e, hcell⟩ := hc hn
  obtain ⟨x0, hx0⟩ : ∃ x, xs[0]? = some x := ⟨xs[0]'(by omega), by simp⟩
  obtain ⟨c, _, hK, hu⟩ := hcell 0 x0 hx0
  have hK' : c = [enc x0] := hK
  subst hK'
  have h0 := hu 0 _ rfl
  have h0' : w.cell? ad = some (enc x0) := by simpa [Addr.add] using h0
  obtain ⟨ha, hlt⟩ := cell_lt h0'
  refine ⟨ad.block, ad.off, by rw [e, ← ha], hlt, fun j p hp => ?_⟩
  obtain ⟨c, _, hK, hu⟩ := hcell j p hp
  have hK' : c = [enc p] := hK
  subst hK'
  have hj := hu 0 _ rfl
  have hs : (Kd.scalar enc h1).sz = 1 := rfl
  rw [hs, Nat.mul_one, Nat.add_zero] at hj
  rw [← hj]
  by_cases h0 : j = 0
  · subst h0
    rw [ha]
    simp [Addr.add]
  · simp [Addr.add, h0]

def i64ok (n : Int) : Bool := decide (-9223372036854775808 ≤ n) && decide (n ≤ 9223372036854775807)
def strconv_Itoa.f (a0 : Int) : Option (ByteArray) := if i64ok a0 = true then some ⟨(Lib.itoa a0).toArray⟩ else none
theorem strconv_Itoa.calls (a0 : Int) (r : ByteArray) (w : World) (hG : Glob w) (h : strconv_Itoa.f a0 = some r) :
    Calls Tryd.prog 25 #[.int .i64 a0] w fun e w' => e = .returned (.string r) ∧ Below w.heap.size w w' := by
  unfold strconv_Itoa.f at h
  by_cases hb : i64ok a0 = true
  · rw [if_pos hb] at h
    obtain rfl := Option.some.inj h
    have hb' := hb
    simp only [i64ok, Bool.and_eq_true, decide_eq_true_eq] at hb'
    refine (Tryd.strconv_Itoa a0 hb'.1 hb'.2 w hG.tab).mono ?_
    rintro e w' ⟨rfl, k, os, rfl⟩
    exact ⟨rfl, Lib.below_grow _ w (Nat.le_refl _) k os⟩
  · rw [if_neg hb] at h
    exact absurd h (by simp)

def joinOf (l : List ByteArray) (sep : ByteArray) : List UInt8 := Lib.join (l.map fun x => x.data.toList) sep.data.toList
def lim47 : Nat := 140737488355328
def strings_Join.f (l0 : List ByteArray) (a1 : ByteArray) : Option (ByteArray) := if (decide (l0.length ≤ lim47) && decide ((joinOf l0 a1).length ≤ lim47)) = true then some ⟨(joinOf l0 a1).toArray⟩ else none
theorem strings_Join.calls (A0 : Option Addr) (c0 : Nat) (l0 : List ByteArray) (a1 : ByteArray) (r : ByteArray) (w : World) (hr0 : Kd.C Kd.string w A0 l0.length l0) (hc0 : l0.length ≤ c0) (h : strings_Join.f l0 a1 = some r) :
    Calls Tryd.prog 26 #[.slice A0 l0.length c0, .string a1] w fun e w' => e = .returned (.string r) ∧ Below w.heap.size w w' := by
  unfold strings_Join.f at h
  by_cases hb : (decide (l0.length ≤ lim47) && decide ((joinOf l0 a1).length ≤ lim47)) = true
  · rw [if_pos hb] at h
    obtain rfl := Option.some.inj h
    simp only [Bool.and_eq_true, decide_eq_true_eq] at hb
    cases l0 with
    | nil =>
      refine (Tryd.strings_Join_none A0 c0 a1 w).mono ?_
      rintro e w' ⟨rfl, rfl⟩
      exact ⟨rfl, Below.refl _ _⟩
    | cons x xs =>
      obtain ⟨b, o, rfl, hlt, hc⟩ := C_cells hr0 (by simp)
      refine (Tryd.strings_Join b o c0 (x :: xs) a1 w hc hlt hb.1 hc0 hb.2).mono ?_
      rintro e w' ⟨rfl, hw⟩
      exact ⟨rfl, hw⟩
  · rw [if_neg hb] at h
    exact absurd h (by simp)

theorem getD_of {xs : List Int} {j : Nat} (hj : j < xs.length) : xs[j]? = some (xs.getD j 0) := by
  rw [List.getD_eq_getElem?_getD, List.getElem?_eq_getElem hj]; rfl
def slices_Max_int_int.f (l0 : List Int) : Option Int := if l0 = [] then none else some (Lib.maxOf l0)
theorem slices_Max_int_int.calls (A0 : Option Addr) (c0 : Nat) (l0 : List Int) (r : Int) (w : World) (hr0 : Kd.C (Kd.int .i64) w A0 l0.length l0) (hc0 : l0.length ≤ c0) (h : slices_Max_int_int.f l0 = some r) :
    Calls Tryd.prog 48 #[.slice A0 l0.length c0] w fun e w' => e = .returned (.int .i64 r) ∧ Below w.heap.size w w' := by
  unfold slices_Max_int_int.f at h
  by_cases hn : l0 = []
  · rw [if_pos hn] at h; exact absurd h (by simp)
  · rw [if_neg hn] at h
    obtain rfl := Option.some.inj h
    have hp := List.length_pos_iff.2 hn
    obtain ⟨b, o, rfl, hlt, hc⟩ := C_cells hr0 hp
    refine (Tryd.slices_Max_int b o l0.length c0 l0 w hp (Nat.le_refl _) hr0.2.1 (fun j hj => hc j _ (getD_of hj))).mono ?_
    rintro e w' ⟨rfl, rfl⟩
    rw [List.take_length]
    exact ⟨rfl, Below.refl _ _⟩
def slices_Min_int_int.f (l0 : List Int) : Option Int := if l0 = [] then none else some (Lib.minOf l0)
theorem slices_Min_int_int.calls (A0 : Option Addr) (c0 : Nat) (l0 : List Int) (r : Int) (w : World) (hr0 : Kd.C (Kd.int .i64) w A0 l0.length l0) (hc0 : l0.length ≤ c0) (h : slices_Min_int_int.f l0 = some r) :
    Calls Tryd.prog 49 #[.slice A0 l0.length c0] w fun e w' => e = .returned (.int .i64 r) ∧ Below w.heap.size w w' := by
  unfold slices_Min_int_int.f at h
  by_cases hn : l0 = []
  · rw [if_pos hn] at h; exact absurd h (by simp)
  · rw [if_neg hn] at h
    obtain rfl := Option.some.inj h
    have hp := List.length_pos_iff.2 hn
    obtain ⟨b, o, rfl, hlt, hc⟩ := C_cells hr0 hp
    refine (Tryd.slices_Min_int b o l0.length c0 l0 w hp (Nat.le_refl _) hr0.2.1 (fun j hj => hc j _ (getD_of hj))).mono ?_
    rintro e w' ⟨rfl, rfl⟩
    rw [List.take_length]
    exact ⟨rfl, Below.refl _ _⟩

def lim32 : Nat := 4294967281
def strings_Contains.f (a0 a1 : ByteArray) : Option Bool := if a0.size < lim32 then some (Lib.contains a0.data.toList a1.data.toList) else none
theorem strings_Contains.calls (a0 a1 : ByteArray) (r : Bool) (w : World) (hG : Glob w) (h : strings_Contains.f a0 a1 = some r) :
    Calls Tryd.prog 62 #[.string a0, .string a1] w fun e w' => e = .returned (.bool r) ∧ Below w.heap.size w w' := by
  unfold strings_Contains.f at h
  by_cases hb : a0.size < lim32
  · rw [if_pos hb] at h
    obtain rfl := Option.some.inj h
    obtain ⟨m, hm⟩ := hG.len
    refine (Tryd.strings_Contains a0 a1 m w hb hm).mono ?_
    rintro e w' ⟨rfl, rfl⟩
    exact ⟨rfl, Below.refl _ _⟩
  · rw [if_neg hb] at h
    exact absurd h (by simp)

/-- The number of digits; false: they are none. -/
def numOf (s : ByteArray) : Int × Bool :=
  match Lib.parseIntB 64 s.data.toList with
  | .ok v => if v < -4611686018427387904 then (0, false) else if v > 4611686018427387904 then (0, false) else if Lib.itoa v = s.toList then (v, true) else (0, false)
  | _ => (0, false)
def lim48 : Nat := 281474976710656
def field_Number.f (a0 : ByteArray) : Option (Int × Bool) := if a0.size ≤ lim48 then some (numOf a0) else none

theorem number_err (a0 : ByteArray) (w : World) (hG : Glob w) (hs : a0.size ≤ lim48) (hp : Lib.parseIntB 64 a0.data.toList = Lib.parseIntB 64 [] ∨ Lib.parseIntB 64 a0.data.toList = .range) :
    Calls Tryd.prog 54 #[.string a0, .int .i64 10, .int .i64 64] w fun e w' => (∃ n N, e = .returned (.tuple #[.int .i64 n, .iface 135 (.pointer (some ⟨N, 0, none⟩))])) ∧ Below w.heap.size w w' := by
  rcases hp with hp | hp
  · obtain ⟨ev, h1, h2⟩ := hG.syn
    refine (Tryd.strconv_ParseInt_10_at64_syntax a0 hs hp ev w h1 h2).mono ?_
    rintro e w' ⟨N, rfl, _, _, hb⟩
    exact ⟨⟨_, N, rfl⟩, hb⟩
  · obtain ⟨ev, h1, h2⟩ := hG.rng
    refine (Tryd.strconv_ParseInt_10_at64_range a0 hs hp ev w h1 h2).mono ?_
    rintro e w' ⟨N, rfl, _, _, hb⟩
    exact ⟨⟨_, N, rfl⟩, hb⟩
theorem number_ok (a0 : ByteArray) (v : Int) (w : World) (hs : a0.size ≤ lim48) (hp : Lib.parseIntB 64 a0.data.toList = .ok v) :
    Calls Tryd.prog 54 #[.string a0, .int .i64 10, .int .i64 64] w fun e w' => e = .returned (.tuple #[.int .i64 v, .nilIface]) ∧ Below w.heap.size w w' := by
  refine (Tryd.strconv_ParseInt_10_at64_ok a0 (by unfold lim48 at hs; omega) v hp w).mono ?_
  rintro e w' ⟨rfl, rfl | ⟨t, rfl⟩⟩
  · exact ⟨rfl, Below.refl _ _⟩
  · exact ⟨rfl, Lib.bytesWorld_below _ _ _⟩
theorem format_ok (v : Int) (w : World) (hG : Glob w) (h0 : ¬ v < -4611686018427387904) (h1 : ¬ v > 4611686018427387904) :
    Calls Tryd.prog 55 #[.int .i64 v, .int .i64 10] w fun e w' => e = .returned (.string ⟨(Lib.itoa v).toArray⟩) ∧ Below w.heap.size w w' := by
  refine (Tryd.strconv_FormatInt_10 v (by omega) (by omega) w hG.tab).mono ?_
  rintro e w' ⟨rfl, k, os, rfl⟩
  exact ⟨rfl, Lib.below_grow _ w (Nat.le_refl _) k os⟩

set_option maxHeartbeats 400000 in
theorem field_Number.calls (a0 : ByteArray) (r1 : Int) (r2 : Bool) (w : World) (hG : Glob w) (h : field_Number.f a0 = some (r1, r2)) :
    Calls Tryd.prog 42 #[.string a0] w fun e w' => e = .returned (.tuple #[.int .i64 r1, .bool r2]) ∧ Below w.heap.size w w' := by
  unfold field_Number.f at h
  by_cases hs : a0.size ≤ lim48
  case neg => rw [if_neg hs] at h; exact absurd h (by simp)
  rw [if_pos hs] at h
  have HH := Aside0.mk (Option.some.inj h)
  have HG := Aside0.mk hG
  clear h hG
  have herr : (Lib.parseIntB 64 a0.data.toList = Lib.parseIntB 64 [] ∨ Lib.parseIntB 64 a0.data.toList = .range) → r1 = 0 ∧ r2 = false := by
    intro hp
    have h := HH.out
    unfold numOf at h
    rcases hp with hp | hp <;> (rw [hp] at h; injection h with a b; exact ⟨a.symm, b.symm⟩)
  have C1 := number_err a0 w HG.out hs
  have C2 := number_ok a0 (w := w) (hs := hs)
  rcases hp : Lib.parseIntB 64 a0.data.toList with v | _ | _
  · have C := Aside0.mk (C2 v hp)
    have hv := HH.out
    unfold numOf at hv
    rw [hp] at hv
    simp only at hv
    clear C1 C2 herr HH hp hs
    by_cases c1 : v < -4611686018427387904
    · rw [if_pos c1] at hv
      injection hv with e1 e2
      subst e1 e2
      have c1b : decide (v < -4611686018427387904) = true := decide_eq_true c1
      clear c1
      go_enter Tryd.func42, Tryd.ntmps42
      go_wp2_with fail
      refine C.out.mono ?_
      rintro e w1 ⟨rfl, hb⟩
      have HB := Aside0.mk hb
      clear hb
      go_wp2
      go_ret2
      exact ⟨rfl, HB.out⟩
    · rw [if_neg c1] at hv
      have c1b : decide (v < -4611686018427387904) = false := decide_eq_false c1
      by_cases c2 : v > 4611686018427387904
      · rw [if_pos c2] at hv
        injection hv with e1 e2
        subst e1 e2
        have c2b : decide (v > 4611686018427387904) = true := decide_eq_true c2
        clear c1 c2
        go_enter Tryd.func42, Tryd.ntmps42
        go_wp2_with fail
        refine C.out.mono ?_
        rintro e w1 ⟨rfl, hb⟩
        have HB := Aside0.mk hb
        clear hb
        go_wp2
        go_ret2
        exact ⟨rfl, HB.out⟩
      · rw [if_neg c2] at hv
        have c2b : decide (v > 4611686018427387904) = false := decide_eq_false c2
        have F := fun (W : World) (g : Glob W) => Aside0.mk (format_ok v W g c1 c2)
        by_cases c3 : Lib.itoa v = a0.toList
        · rw [if_pos c3] at hv
          injection hv with e1 e2
          subst e1 e2
          have c3b : (Lib.itoa v == a0.toList) = true := beq_iff_eq.2 c3
          clear c1 c2 c3
          go_enter Tryd.func42, Tryd.ntmps42
          go_wp2_with fail
          refine C.out.mono ?_
          rintro e w1 ⟨rfl, hb⟩
          have HB := Aside0.mk hb
          clear hb
          go_wp2_with fail
          refine (F _ (Glob_below HG.out (by exact HB.out))).out.mono ?_
          rintro e w2 ⟨rfl, hb⟩
          have HB2 := Aside0.mk hb
          clear hb
          go_wp2
          go_ret2
          exact ⟨rfl, HB.out.trans (HB2.out.mono HB.out.size)⟩
        · rw [if_neg c3] at hv
          injection hv with e1 e2
          subst e1 e2
          have c3b : (Lib.itoa v == a0.toList) = false := beq_eq_false_iff_ne.2 c3
          clear c1 c2 c3
          go_enter Tryd.func42, Tryd.ntmps42
          go_wp2_with fail
          refine C.out.mono ?_
          rintro e w1 ⟨rfl, hb⟩
          have HB := Aside0.mk hb
          clear hb
          go_wp2_with fail
          refine (F _ (Glob_below HG.out (by exact HB.out))).out.mono ?_
          rintro e w2 ⟨rfl, hb⟩
          have HB2 := Aside0.mk hb
          clear hb
          go_wp2
          go_ret2
          exact ⟨rfl, HB.out.trans (HB2.out.mono HB.out.size)⟩
  · obtain ⟨rfl, rfl⟩ := herr (.inl hp)
    have C := Aside0.mk (C1 (.inl hp))
    clear C1 C2 herr HH hp hs
    go_enter Tryd.func42, Tryd.ntmps42
    go_wp2_with fail
    refine C.out.mono ?_
    rintro e w1 ⟨⟨n, N, rfl⟩, hb⟩
    have HB := Aside0.mk hb
    clear hb
    go_wp2
    go_ret2
    exact ⟨rfl, HB.out⟩
  · obtain ⟨rfl, rfl⟩ := herr (.inr hp)
    have C := Aside0.mk (C1 (.inr hp))
    clear C1 C2 herr HH hp hs
    go_enter Tryd.func42, Tryd.ntmps42
    go_wp2_with fail
    refine C.out.mono ?_
    rintro e w1 ⟨⟨n, N, rfl⟩, hb⟩
    have HB := Aside0.mk hb
    clear hb
    go_wp2
    go_ret2
    exact ⟨rfl, HB.out⟩
end Go.Proofs.YtcibglpbfaffgaaDoor.X
