/- What may be drawn under a credit at most and at least, in the form of contracts. -/
import Derived.Test.YtcibglpbfaffgaaDoorG3
namespace Go.Proofs.YtcibglpbfaffgaaDoor.X
open Go.RowKit Go.Proofs.YtcibglpbfaffgaaDoorW.PrintWords Go.Proofs.YtcibglpbfaffgaaDoorW.PrintLast Go.Proofs.YtcibglpbfaffgaaDoorW.PrintMore
set_option linter.unusedVariables false

/-- A credit's cells. -/
def cc (c : S33) (A : Option Addr) (n : Nat) : Array Value := #[.string c.f0, .string c.f1, .string c.f2, .string c.f3, .string c.f4, .string c.f5, .string c.f6, .string c.f7.f0, .int .i64 c.f7.f1, .int .i64 c.f8, .int .i64 c.f9, .int .i64 c.f10, .int .i64 c.f11, .int .i64 c.f12, .int .i64 c.f13, .bool c.f14, .bool c.f15, .slice A c.f16.length n]
def win (n a b : Int) : Bool := decide (a ≤ n) && decide (n ≤ b)
theorem within72 (n a b : Int) (w : World) : Calls Tryd.prog 72 #[.int .i64 n, .int .i64 a, .int .i64 b] w fun e w' => e = .returned (.bool (win n a b)) ∧ w = w' := by
  by_cases h1 : a ≤ n
  · have e : win n a b = decide (n ≤ b) := by simp [win, h1]
    rw [e]
    go_enter Tryd.func72, Tryd.ntmps72
    go_wp2
    go_ret
    exact ⟨rfl, rfl⟩
  · have e : win n a b = false := by simp [win, h1]
    rw [e]
    go_enter Tryd.func72, Tryd.ntmps72
    go_wp2
    go_ret
    exact ⟨rfl, rfl⟩

/-- May the credit's bounds be? -/
def bnd (c : S33) : Bool := win c.f7.f1 1 1099511627776 && (win c.f8 0 1000 && (win c.f9 0 1000 && win c.f11 0 1048576))
set_option maxHeartbeats 400000 in
set_option maxRecDepth 100000 in
theorem bounds56 (c : S33) (A : Option Addr) (n : Nat) (w : World) : Calls Tryd.prog 56 #[.agg (cc c A n)] w fun e w' => e = .returned (.bool (bnd c)) ∧ Below w.heap.size w w' := by
  have hu33 := Tryd.underlying33
  have hu30 := Tryd.underlying30
  cases h1 : win c.f7.f1 1 1099511627776 with
  | false =>
    have e : bnd c = false := by simp [bnd, h1]
    rw [e]
    have H1 := Aside0.mk h1
    clear h1 e
    unfold cc
    go_enter Tryd.func56, Tryd.ntmps56
    go_wp2_with (go_at_call 72; refine (within72 _ _ _ _).mono ?_; rintro e w' ⟨rfl, rfl⟩; first | rw [H1.out])
    go_ret
    exact ⟨rfl, (Below.refl _ _).alloc (Nat.le_refl _) _⟩
  | true =>
    cases h2 : win c.f8 0 1000 with
    | false =>
      have e : bnd c = false := by simp [bnd, h1, h2]
      rw [e]
      have H1 := Aside0.mk h1
      have H2 := Aside0.mk h2
      clear h1 h2 e
      unfold cc
      go_enter Tryd.func56, Tryd.ntmps56
      go_wp2_with (go_at_call 72; refine (within72 _ _ _ _).mono ?_; rintro e w' ⟨rfl, rfl⟩; first | rw [H1.out] | rw [H2.out])
      go_ret
      exact ⟨rfl, (Below.refl _ _).alloc (Nat.le_refl _) _⟩
    | true =>
      cases h3 : win c.f9 0 1000 with
      | false =>
        have e : bnd c = false := by simp [bnd, h1, h2, h3]
        rw [e]
        have H1 := Aside0.mk h1
        have H2 := Aside0.mk h2
        have H3 := Aside0.mk h3
        clear h1 h2 h3 e
        unfold cc
        go_enter Tryd.func56, Tryd.ntmps56
        go_wp2_with (go_at_call 72; refine (within72 _ _ _ _).mono ?_; rintro e w' ⟨rfl, rfl⟩; first | rw [H1.out] | rw [H2.out] | rw [H3.out])
        go_ret
        exact ⟨rfl, (Below.refl _ _).alloc (Nat.le_refl _) _⟩
      | true =>
        cases h4 : win c.f11 0 1048576 with
        | false =>
          have e : bnd c = false := by simp [bnd, h1, h2, h3, h4]
          rw [e]
          have H1 := Aside0.mk h1
          have H2 := Aside0.mk h2
          have H3 := Aside0.mk h3
          have H4 := Aside0.mk h4
          clear h1 h2 h3 h4 e
          unfold cc
          go_enter Tryd.func56, Tryd.ntmps56
          go_wp2_with (go_at_call 72; refine (within72 _ _ _ _).mono ?_; rintro e w' ⟨rfl, rfl⟩; first | rw [H1.out] | rw [H2.out] | rw [H3.out] | rw [H4.out])
          go_ret
          exact ⟨rfl, (Below.refl _ _).alloc (Nat.le_refl _) _⟩
        | true =>
          have e : bnd c = true := by simp [bnd, h1, h2, h3, h4]
          rw [e]
          have H1 := Aside0.mk h1
          have H2 := Aside0.mk h2
          have H3 := Aside0.mk h3
          have H4 := Aside0.mk h4
          clear h1 h2 h3 h4 e
          unfold cc
          go_enter Tryd.func56, Tryd.ntmps56
          go_wp2_with (go_at_call 72; refine (within72 _ _ _ _).mono ?_; rintro e w' ⟨rfl, rfl⟩; first | rw [H1.out] | rw [H2.out] | rw [H3.out] | rw [H4.out])
          go_ret
          exact ⟨rfl, (Below.refl _ _).alloc (Nat.le_refl _) _⟩

def mostOf (c : S33) : Int := c.f7.f1 * (1000 + c.f8) / 1000
def leastOf (c : S33) : Int := (c.f7.f1 * (1000 - c.f9) + 1000 - 1) / 1000
set_option maxHeartbeats 400000 in
set_option maxRecDepth 100000 in
theorem most57 (c : S33) (A : Option Addr) (n : Nat) (w : World) (hb : bnd c = true) : Calls Tryd.prog 57 #[.agg (cc c A n)] w fun e w' => e = .returned (.int .i64 (mostOf c)) ∧ Below w.heap.size w w' := by
  have hu33 := Tryd.underlying33
  have hu30 := Tryd.underlying30
  simp only [bnd, win, Bool.and_eq_true, decide_eq_true_eq] at hb
  obtain ⟨⟨a0, a1⟩, ⟨b0, b1⟩, ⟨d0, d1⟩, _⟩ := hb
  have hm : 0 ≤ c.f7.f1 * (1000 + c.f8) := Int.mul_nonneg (by omega) (by omega)
  have hm2 : c.f7.f1 * (1000 + c.f8) ≤ 1099511627776 * 2000 := Int.mul_le_mul a1 (by omega) (by omega) (by omega)
  unfold cc mostOf
  go_enter Tryd.func57, Tryd.ntmps57
  go_wp2
  go_ret
  exact ⟨rfl, (Below.refl _ _).alloc (Nat.le_refl _) _⟩
set_option maxHeartbeats 400000 in
set_option maxRecDepth 100000 in
theorem least58 (c : S33) (A : Option Addr) (n : Nat) (w : World) (hb : bnd c = true) : Calls Tryd.prog 58 #[.agg (cc c A n)] w fun e w' => e = .returned (.int .i64 (leastOf c)) ∧ Below w.heap.size w w' := by
  have hu33 := Tryd.underlying33
  have hu30 := Tryd.underlying30
  simp only [bnd, win, Bool.and_eq_true, decide_eq_true_eq] at hb
  obtain ⟨⟨a0, a1⟩, ⟨b0, b1⟩, ⟨d0, d1⟩, _⟩ := hb
  have hm : 0 ≤ c.f7.f1 * (1000 - c.f9) := Int.mul_nonneg (by omega) (by omega)
  have hm2 : c.f7.f1 * (1000 - c.f9) ≤ 1099511627776 * 2000 := Int.mul_le_mul a1 (by omega) (by omega) (by omega)
  unfold cc leastOf
  go_enter Tryd.func58, Tryd.ntmps58
  go_wp2
  go_ret
  exact ⟨rfl, (Below.refl _ _).alloc (Nat.le_refl _) _⟩

set_option maxHeartbeats 400000 in
set_option maxRecDepth 100000 in
theorem Most43 (c : S33) (A : Option Addr) (n : Nat) (w : World) : Calls Tryd.prog 43 #[.agg (cc c A n)] w fun e w' => e = .returned (.tuple #[.int .i64 (if bnd c then mostOf c else 0), .int .i64 (if bnd c then 0 else 1)]) ∧ Below w.heap.size w w' := by
  have hu33 := Tryd.underlying33
  cases hb : bnd c with
  | false =>
    have HB := Aside0.mk hb
    clear hb
    have C1 := fun W => Aside0.mk (bounds56 c A n W)
    unfold cc at C1 ⊢
    go_enter Tryd.func43, Tryd.ntmps43
    go_wp2_with (refine wpList_load_row rfl 33 _ rfl w.heap.size rfl 33 _ (0, 0) _ (heap_alloc_new w _) hu33 rfl (by kernel_rfl) ?_)
    refine (C1 _).out.mono ?_
    rintro e w' ⟨rfl, hb1⟩
    rw [HB.out]
    have HB1 := Aside0.mk hb1
    clear hb1
    go_wp2
    go_ret2
    exact ⟨rfl, ((Below.refl _ _).alloc (Nat.le_refl _) _).trans (HB1.out.mono (by simp))⟩
  | true =>
    have HB := Aside0.mk hb
    have C1 := fun W => Aside0.mk (bounds56 c A n W)
    have C2 := fun W => Aside0.mk (most57 c A n W hb)
    clear hb
    unfold cc at C1 C2 ⊢
    go_enter Tryd.func43, Tryd.ntmps43
    go_wp2_with (refine wpList_load_row rfl 33 _ rfl w.heap.size rfl 33 _ (0, 0) _ (heap_alloc_new w _) hu33 rfl (by kernel_rfl) ?_)
    refine (C1 _).out.mono ?_
    rintro e w1 ⟨rfl, hb1⟩
    rw [HB.out]
    have HB1 := Aside0.mk hb1
    have HBLK := Aside0.mk (blk_below (heap_alloc_new w _) hb1)
    clear hb1
    go_wp2_with (refine wpList_load_row rfl 33 _ rfl w.heap.size rfl 33 _ (0, 0) _ HBLK.out hu33 rfl (by kernel_rfl) ?_)
    refine (C2 _).out.mono ?_
    rintro e w2 ⟨rfl, hb2⟩
    have HB2 := Aside0.mk hb2
    clear hb2
    go_wp2
    go_ret2
    exact ⟨rfl, (((Below.refl _ _).alloc (Nat.le_refl _) _).trans (HB1.out.mono (by simp))).trans (HB2.out.mono (by have := HB1.out.size; simp at this; omega))⟩

set_option maxHeartbeats 400000 in
set_option maxRecDepth 100000 in
theorem Least44 (c : S33) (A : Option Addr) (n : Nat) (w : World) : Calls Tryd.prog 44 #[.agg (cc c A n)] w fun e w' => e = .returned (.tuple #[.int .i64 (if bnd c then leastOf c else 0), .int .i64 (if bnd c then 0 else 1)]) ∧ Below w.heap.size w w' := by
  have hu33 := Tryd.underlying33
  cases hb : bnd c with
  | false =>
    have HB := Aside0.mk hb
    clear hb
    have C1 := fun W => Aside0.mk (bounds56 c A n W)
    unfold cc at C1 ⊢
    go_enter Tryd.func44, Tryd.ntmps44
    go_wp2_with (refine wpList_load_row rfl 33 _ rfl w.heap.size rfl 33 _ (0, 0) _ (heap_alloc_new w _) hu33 rfl (by kernel_rfl) ?_)
    refine (C1 _).out.mono ?_
    rintro e w' ⟨rfl, hb1⟩
    rw [HB.out]
    have HB1 := Aside0.mk hb1
    clear hb1
    go_wp2
    go_ret2
    exact ⟨rfl, ((Below.refl _ _).alloc (Nat.le_refl _) _).trans (HB1.out.mono (by simp))⟩
  | true =>
    have HB := Aside0.mk hb
    have C1 := fun W => Aside0.mk (bounds56 c A n W)
    have C2 := fun W => Aside0.mk (least58 c A n W hb)
    clear hb
    unfold cc at C1 C2 ⊢
    go_enter Tryd.func44, Tryd.ntmps44
    go_wp2_with (refine wpList_load_row rfl 33 _ rfl w.heap.size rfl 33 _ (0, 0) _ (heap_alloc_new w _) hu33 rfl (by kernel_rfl) ?_)
    refine (C1 _).out.mono ?_
    rintro e w1 ⟨rfl, hb1⟩
    rw [HB.out]
    have HB1 := Aside0.mk hb1
    have HBLK := Aside0.mk (blk_below (heap_alloc_new w _) hb1)
    clear hb1
    go_wp2_with (refine wpList_load_row rfl 33 _ rfl w.heap.size rfl 33 _ (0, 0) _ HBLK.out hu33 rfl (by kernel_rfl) ?_)
    refine (C2 _).out.mono ?_
    rintro e w2 ⟨rfl, hb2⟩
    have HB2 := Aside0.mk hb2
    clear hb2
    go_wp2
    go_ret2
    exact ⟨rfl, (((Below.refl _ _).alloc (Nat.le_refl _) _).trans (HB1.out.mono (by simp))).trans (HB2.out.mono (by have := HB1.out.size; simp at this; omega))⟩

end Go.Proofs.YtcibglpbfaffgaaDoor.X
