/- field.Get and what it calls: the first field of a name. -/
import Derived.Test.YtcibglpbfaffgaaDoorG0
import Derived.WalkSpells
import Derived.Lib.Hide
namespace Go.Proofs.YtcibglpbfaffgaaDoor.X
open Go.RowKit Go.Proofs.YtcibglpbfaffgaaDoorW.PrintWords Go.Proofs.YtcibglpbfaffgaaDoorW.PrintLast Go.Proofs.YtcibglpbfaffgaaDoorW.PrintMore
set_option linter.unusedVariables false

set_option maxHeartbeats 400000 in
theorem clo60 (f0 f1 n : ByteArray) (b : Nat) (w : World) (hp : w.cell? ⟨b, 0, none⟩ = some (.string n)) (hlt : b < w.heap.size) :
    Calls Tryd.prog 60 #[.agg #[.string f0, .string f1], .pointer (some ⟨b, 0, none⟩)] w fun e w' => e = .returned (.bool (f0.toList == n.toList)) ∧ Below w.heap.size w w' := by
  have hc := fun o => cell_new w o hp hlt
  go_enter Tryd.func60, Tryd.ntmps60
  go_wp2
  go_ret
  exact ⟨rfl, (Below.refl _ _).alloc (Nat.le_refl _) _⟩

/-- the place of the first field of a name from k on; -1: there is none -/
def placeFrom (l : List S66) (n : ByteArray) : Nat → List S66 → Int
  | _, [] => -1
  | k, x :: xs => if x.f0.toList = n.toList then (k : Int) else placeFrom l n (k + 1) xs
def placeOf (l : List S66) (n : ByteArray) : Int := placeFrom l n 0 l

set_option maxHeartbeats 400000 in
theorem idx59 (A0 : Option Addr) (c0 : Nat) (l0 : List S66) (n : ByteArray) (b : Nat) (w : World) (hr0 : Kd.C k66 w A0 l0.length l0) (hp : w.cell? ⟨b, 0, none⟩ = some (.string n)) (hlt : b < w.heap.size) :
    Calls Tryd.prog 59 #[.slice A0 l0.length c0, .func (.func 60) #[] #[.pointer (some ⟨b, 0, none⟩)]] w fun e w' => e = .returned (.int .i64 (placeOf l0 n)) ∧ Below w.heap.size w w' := by
  have hmx : l0.length ≤ 9223372036854775807 := hr0.2.1
  have HR := Aside0.mk hr0
  have HP := Aside0.mk hp
  have HL := Aside0.mk hlt
  clear hr0 hp hlt
  have HB := Aside0.mk (Below.refl w.heap.size w)
  go_enter Tryd.func59, Tryd.ntmps59
  go_wp2
  go_loopw [8] (fun i wr => ∃ k : Nat, k ≤ l0.length ∧ i = .int .i64 k ∧ Aside0 (placeFrom l0 n k (l0.drop k) = placeOf l0 n) ∧ Aside0 (Below w.heap.size w wr)) (fun i _ => l0.length - (intOf i).toNat)
  case atStart => exact ⟨0, Nat.zero_le _, rfl, ⟨rfl⟩, HB⟩
  case round =>
    obtain ⟨k, hk, rfl, HF, HBr⟩ := hrel
    by_cases hlt : k < l0.length
    · obtain ⟨ad, e, h0, h1⟩ := at_T66 (Kd.C_below HR.out HBr.out) (k : Int) (by omega) (by omega)
      cases e
      simp only [Int.toNat_natCast] at h0 h1
      have hx : rd_T66 l0 (k : Int) = l0[k] := by simp [rd_T66, List.getD_eq_getElem?_getD, hlt]
      rw [hx] at h0 h1
      have hd := List.drop_eq_getElem_cons hlt
      by_cases he : (l0[k].f0).toList = n.toList
      · have hb : ((l0[k].f0).toList == n.toList) = true := by simp [he]
        have hres : placeOf l0 n = (k : Int) := by rw [← HF.out, hd, placeFrom, if_pos he]
        clear he HF hd hx
        have HRES := Aside0.mk hres
        clear hres
        go_wp2_with ((go_at_call 60; refine (clo60 _ _ n b _ (by first | exact (HBr.out.cell (p := ⟨b, 0, none⟩) HL.out).trans HP.out) (by have := HBr.out.size; have := HL.out; simp; omega)).mono ?_); rintro e w1 ⟨rfl, hb1⟩; have HB1 := Aside0.mk hb1; clear hb1)
        go_ret
        exact ⟨by (rw [HRES.out]; rfl), HBr.out.trans (HB1.out.mono HBr.out.size)⟩
      · have hb : ((l0[k].f0).toList == n.toList) = false := by simp [he]
        have hres : placeFrom l0 n (k + 1) (l0.drop (k + 1)) = placeOf l0 n := by rw [← HF.out, hd, placeFrom, if_neg he]
        clear he HF hd hx
        have HRES := Aside0.mk hres
        clear hres
        go_wp2_with ((go_at_call 60; refine (clo60 _ _ n b _ (by first | exact (HBr.out.cell (p := ⟨b, 0, none⟩) HL.out).trans HP.out) (by have := HBr.out.size; have := HL.out; simp; omega)).mono ?_); rintro e w1 ⟨rfl, hb1⟩; have HB1 := Aside0.mk hb1; clear hb1)
        go_roundw
        case rel => exact ⟨k + 1, by omega, by go_num, HRES, ⟨HBr.out.trans (HB1.out.mono HBr.out.size)⟩⟩
        case measure => simp [intOf]; omega
    · have hke : k = l0.length := by omega
      have hres : placeOf l0 n = -1 := by rw [← HF.out, hke]; simp [placeFrom]
      have HRES := Aside0.mk hres
      clear hres HF hke
      go_wp2
      go_ret
      exact ⟨by (rw [HRES.out]; rfl), HBr.out⟩

theorem place_lo (l : List S66) (n : ByteArray) : ∀ (xs : List S66) (k : Nat), placeFrom l n k xs = -1 ∨ ∃ j : Nat, k ≤ j ∧ j < k + xs.length ∧ placeFrom l n k xs = (j : Int)
  | [], k => .inl rfl
  | x :: xs, k => by
    unfold placeFrom
    split
    · exact .inr ⟨k, Nat.le_refl _, by simp, rfl⟩
    · rcases place_lo l n xs (k + 1) with h | ⟨j, h1, h2, h3⟩
      · exact .inl h
      · exact .inr ⟨j, by omega, by simp; omega, h3⟩

set_option maxHeartbeats 400000 in
theorem place47 (A0 : Option Addr) (c0 : Nat) (l0 : List S66) (n : ByteArray) (w : World) (hr0 : Kd.C k66 w A0 l0.length l0) :
    Calls Tryd.prog 47 #[.slice A0 l0.length c0, .string n] w fun e w' => e = .returned (.int .i64 (placeOf l0 n)) ∧ Below w.heap.size w w' := by
  have HR := Aside0.mk hr0
  clear hr0
  have hmf : ∀ (fn : Fn) (first cap : Array Value) (w : World), (Instr.makeFunc fn first cap).run Tryd.prog w = .ok (.func fn first cap) w := fun _ _ _ _ => rfl
  go_enter Tryd.func47, Tryd.ntmps47
  go_wp2_with ((go_at_call 59; refine (idx59 _ _ l0 n w.heap.size _ (Kd.C_below HR.out ((Below.refl _ _).alloc (Nat.le_refl _) _)) (by simp) (by simp)).mono ?_); rintro e w1 ⟨rfl, hb1⟩; have HB1 := Aside0.mk hb1; clear hb1)
  go_ret
  exact ⟨rfl, ((Below.refl _ _).alloc (Nat.le_refl _) _).trans (HB1.out.mono (by simp))⟩

/-- the value of the first field of a name -/
def getOf : List S66 → ByteArray → ByteArray × Bool
  | [], _ => (⟨#[]⟩, false)
  | x :: xs, n => if x.f0.toList = n.toList then (x.f1, true) else getOf xs n
def field_Get.f (l0 : List S66) (a1 : ByteArray) : Option (ByteArray × Bool) := some (getOf l0 a1)

theorem get_place (l : List S66) (n : ByteArray) : ∀ (xs : List S66) (k : Nat), (placeFrom l n k xs = -1 ∧ getOf xs n = (⟨#[]⟩, false)) ∨ ∃ j : Nat, ∃ h : j < xs.length, placeFrom l n k xs = ((k + j : Nat) : Int) ∧ getOf xs n = (xs[j].f1, true)
  | [], k => .inl ⟨rfl, rfl⟩
  | x :: xs, k => by
    unfold placeFrom getOf
    split
    · exact .inr ⟨0, by simp, rfl, rfl⟩
    · rcases get_place l n xs (k + 1) with h | ⟨j, h1, h2, h3⟩
      · exact .inl h
      · exact .inr ⟨j + 1, by simp; omega, by rw [h2]; congr 1; omega, by simpa using h3⟩

set_option maxHeartbeats 400000 in
theorem field_Get.calls (A0 : Option Addr) (c0 : Nat) (l0 : List S66) (a1 : ByteArray) (r1 : ByteArray) (r2 : Bool) (w : World) (hr0 : Kd.C k66 w A0 l0.length l0) (hc0 : l0.length ≤ c0) (h : field_Get.f l0 a1 = some (r1, r2)) :
    Calls Tryd.prog 34 #[.slice A0 l0.length c0, .string a1] w fun e w' => e = .returned (.tuple #[.string r1, .bool r2]) ∧ Below w.heap.size w w' := by
  have hmx : l0.length ≤ 9223372036854775807 := hr0.2.1
  have HR := Aside0.mk hr0
  have HC := Aside0.mk hc0
  have HH := Aside0.mk (Option.some.inj h)
  clear hr0 hc0 h
  rcases get_place l0 a1 l0 0 with ⟨h1, h2⟩ | ⟨j, hj, h1, h2⟩
  · have e1 : placeOf l0 a1 = -1 := h1
    have e2 : r1 = ⟨#[]⟩ ∧ r2 = false := by have := HH.out; rw [h2] at this; injection this with a b; exact ⟨a.symm, b.symm⟩
    obtain ⟨rfl, rfl⟩ := e2
    have E1 := Aside0.mk e1
    clear e1 h1 h2 HH
    go_enter Tryd.func34, Tryd.ntmps34
    go_wp2_with ((go_at_call 47; refine (place47 _ _ l0 a1 _ HR.out).mono ?_); rintro e w1 ⟨rfl, hb1⟩; have HB1 := Aside0.mk hb1; clear hb1; rw [E1.out])
    go_ret2
    exact ⟨rfl, HB1.out⟩
  · have e1 : placeOf l0 a1 = (j : Int) := by rw [placeOf, h1]; simp
    have e2 : r1 = l0[j].f1 ∧ r2 = true := by have := HH.out; rw [h2] at this; injection this with a b; exact ⟨a.symm, b.symm⟩
    obtain ⟨rfl, rfl⟩ := e2
    have E1 := Aside0.mk e1
    clear e1 h1 h2 HH
    go_enter Tryd.func34, Tryd.ntmps34
    have hx : rd_T66 l0 (j : Int) = l0[j] := by simp [rd_T66, List.getD_eq_getElem?_getD, hj]
    have HX := Aside0.mk hx
    clear hx
    go_wp2_with fail
    refine (place47 _ _ l0 a1 _ HR.out).mono ?_
    rintro e w1 ⟨rfl, hb1⟩
    have HB1 := Aside0.mk hb1
    clear hb1
    rw [E1.out]
    obtain ⟨ad, e, g0, g1⟩ := at_T66 (Kd.C_below HR.out HB1.out) (j : Int) (by omega) (by omega)
    subst e
    rw [HX.out] at g0 g1
    simp only [Int.toNat_natCast] at g0 g1
    go_wp2
    go_ret2
    exact ⟨rfl, HB1.out⟩
end Go.Proofs.YtcibglpbfaffgaaDoor.X
