/- The walk of ExamineOnce. -/
import Derived.Test.YtcibglpbfaffgaaDoorH20
import Derived.Test.YtcibglpbfaffgaaDoorQ5
import Derived.Deep.RegionHeld3
import Derived.Outline
namespace Go.Proofs.YtcibglpbfaffgaaDoor.X
open Go Go.RowKit Go.Proofs.YtcibglpbfaffgaaDoorW.PrintWords Go.Proofs.YtcibglpbfaffgaaDoorW.PrintLast Go.Proofs.YtcibglpbfaffgaaDoorW.PrintMore
set_option linter.unusedVariables false
set_option linter.unusedSimpArgs false
attribute [local go_sem high] eqA25o
theorem nodup_inj {l : List S25} (h : l.Nodup) {i j : Nat} (hi : i < l.length) (hj : j < l.length) (e : l[i] = l[j]) : i = j := by
  rcases Nat.lt_trichotomy i j with h1 | h1 | h1
  · exact absurd e (List.pairwise_iff_getElem.1 h i j hi hj h1)
  · exact h1
  · exact absurd e.symm (List.pairwise_iff_getElem.1 h j i hj hi h1)
set_option maxHeartbeats 16000000 in
set_option maxRecDepth 100000 in
theorem once6 (c : S33) (A : Option Addr) (n : Nat) (docs : List S37) (A1 : Option Addr) (n1 : Nat) (day : Int) (bf : Bool) (l : List S25) (w : World)
    (hC : Kd.C k45 w A c.f16.length c.f16) (hCn : c.f16.length ≤ n) (hD : Kd.C k37 w A1 docs.length docs) (hDn : docs.length ≤ n1) (hG : Glob w) (hf : Ev (fewK c docs) bf)
    (hl : bf = true → Ev (fun k => exF k c docs day) l ∧ l.Nodup ∧ (∀ x ∈ l, OnceOk c docs x) ∧ (∀ n ∈ c.f16, szP n.f2 ≤ 1000000) ∧ c.f16.length ≤ 1000000 ∧ ∀ d ∈ docs, d.f3.length ≤ 1000000) :
    Calls Tryd.prog 6 #[.agg (cc c A n), .slice A1 docs.length n1, .int .i64 day] w fun e w' => e = .returned (.bool true) ∧ Below w.heap.size w w' := by
  have hu33 := Tryd.underlying33
  have hu25 := Tryd.underlying25
  have hmd : docs.length ≤ 9223372036854775807 := hD.2.1
  have HC := Aside0.mk hC
  have HCN := Aside0.mk hCn
  have HD := Aside0.mk hD
  have HDN := Aside0.mk hDn
  have HG := Aside0.mk hG
  have HF := Aside0.mk hf
  have HL := Aside0.mk hl
  clear hC hCn hD hDn hG hf hl
  unfold cc
  go_enter Tryd.func6, Tryd.ntmps6
  go_upto_region 3 with (go_at_call 11; refine (awakeC _ (Glob_alloc HG.out)).mono ?_; rintro e w1 ⟨rfl, hb1⟩)
  have HB1 := Aside0.mk ((below_alloc (Below.refl w.heap.size w) _).trans (hb1.mono (by simp)))
  have CB1 := Aside0.mk (blk_below (heap_alloc_new w (.cells (cc c A n) 33)) hb1)
  clear hb1
  have RF := Aside0.mk (fewC c A n docs A1 n1 w1 bf (Kd.C_below HC.out HB1.out) HCN.out (Kd.C_below HD.out HB1.out) HDN.out HF.out)
  cases bf with
  | false =>
    unfold cc at RF CB1
    go_wp2_with (first | (refine wpList_load_row rfl 33 _ rfl w.heap.size rfl 33 _ (0, 0) _ CB1.out hu33 rfl (by kernel_rfl) ?_) | (go_at_call 14; refine RF.out.mono ?_; rintro e w2 ⟨rfl, hb2⟩))
    go_ret
    exact ⟨rfl, HB1.out.trans (hb2.mono HB1.out.size)⟩
  | true =>
    obtain ⟨hex, hnd, hok, hsz, hln, hfl⟩ := HL.out rfl
    have HEX := Aside0.mk hex
    have HND := Aside0.mk hnd
    have HOK := Aside0.mk hok
    have HSZ := Aside0.mk hsz
    have HLN := Aside0.mk hln
    have HFL := Aside0.mk hfl
    clear hex hnd hok hsz hln hfl HL
    have CB1' := Aside0.mk CB1.out
    unfold cc at RF CB1'
    go_upto_region 5 with (first | (refine wpList_load_row rfl 33 _ rfl w.heap.size rfl 33 _ (0, 0) _ CB1'.out hu33 rfl (by kernel_rfl) ?_) | (go_at_call 14; refine RF.out.mono ?_; rintro e w2 ⟨rfl, hb2⟩))
    have HB2 := Aside0.mk (HB1.out.trans (hb2.mono HB1.out.size))
    have CB2 := Aside0.mk (blk_below CB1.out hb2)
    have RE := Aside0.mk (examC c A n docs A1 n1 day l w2 (Kd.C_below HC.out HB2.out) HCN.out (Kd.C_below HD.out HB2.out) HDN.out (Glob_below HG.out HB2.out) HEX.out)
    have CB2' := Aside0.mk CB2.out
    unfold cc at RE CB2'
    clear RF CB1 CB1' HB1 hb2
    go_wp2_with (first | (refine wpList_load_row rfl 33 _ rfl w.heap.size rfl 33 _ (0, 0) _ CB2'.out hu33 rfl (by kernel_rfl) ?_) | (go_at_call 18; refine RE.out.mono ?_; rintro e w3 ⟨Al, cl, rfl, hll, hRl, hb3⟩))
    have HB3 := Aside0.mk (HB2.out.trans (hb3.mono HB2.out.size))
    have CB3 := Aside0.mk (blk_below CB2.out hb3)
    have RL := Aside0.mk hRl
    have hml : l.length ≤ 9223372036854775807 := hRl.2.1
    clear hb3 hRl hll RE CB2 CB2' HB2
    go_loopw [8] (fun i wr => ∃ j : Nat, j ≤ l.length ∧ i = .int .i64 j ∧ Aside0 (Below w.heap.size w wr) ∧ Aside0 (Kd.C k25 wr Al l.length l) ∧ Aside0 (wr.heap[w.heap.size]? = some (.cells (cc c A n) 33 (0, 0)))) (fun i _ => l.length - (intOf i).toNat)
    case atStart => exact ⟨0, Nat.zero_le _, rfl, HB3, RL, CB3⟩
    case round =>
      clear HB3 RL CB3
      obtain ⟨j, hj, rfl, HB, RL, CB⟩ := hrel
      by_cases hlt : j < l.length
      · go_wp2
        obtain ⟨wo, rfl⟩ : ∃ wo : World, wo = wr := ⟨_, rfl⟩
        go_loopw [9] (fun i wr => ∃ q : Nat, q ≤ j ∧ i = .int .i64 q ∧ Aside0 (Below w.heap.size w wr) ∧ Aside0 (Kd.C k25 wr Al l.length l) ∧ Aside0 (wr.heap[w.heap.size]? = some (.cells (cc c A n) 33 (0, 0)))) (fun i _ => j - (intOf i).toNat)
        case atStart => exact ⟨0, Nat.zero_le _, rfl, HB, RL, CB⟩
        case round =>
          clear HB RL CB
          obtain ⟨q, hq, rfl, HB, RL, CB⟩ := hrel
          by_cases hqt : q < j
          · have hql : q < l.length := by omega
            obtain ⟨ad, e, p0, p1, p2, p3⟩ := at25 RL.out hlt
            subst e
            obtain ⟨bd, e, q0, q1, q2, q3⟩ := at25 RL.out hql
            obtain rfl : ad = bd := by injection e
            have hE := eqB_is l[q] l[j]
            rw [decide_eq_false (fun e => absurd (nodup_inj HND.out hql hlt e) (by omega))] at hE
            obtain ⟨x, hx⟩ : ∃ x, x = l[j] := ⟨_, rfl⟩
            obtain ⟨y, hy⟩ : ∃ y, y = l[q] := ⟨_, rfl⟩
            rw [← hx] at p0 p1 p2 p3 hE
            rw [← hy] at q0 q1 q2 q3 hE
            clear hx hy
            go_wp2
            go_quiet (fail)
            go_wp2
            go_roundw
            case rel => exact ⟨q + 1, by omega, by go_num, ⟨pw_below_drewN HB.out _⟩, ⟨Kd.C_drewN RL.out _⟩, ⟨CB.out⟩⟩
            case measure => simp [intOf]; omega
          · have hqe : q = j := by omega
            subst hqe
            obtain ⟨ad, e, p0, p1, p2, p3⟩ := at25 RL.out hlt
            subst e
            have HX := Aside0.mk (HOK.out l[q] (List.getElem_mem hlt))
            obtain ⟨x, hx⟩ : ∃ x, x = l[q] := ⟨_, rfl⟩
            rw [← hx] at p0 p1 p2 p3 HX
            clear hx hqt
            obtain ⟨x0, x1, x2, x3⟩ := x
            simp only at p0 p1 p2 p3
            go_upto_region 15 with (fail)
            have HB5 := Aside0.mk (below_alloc HB.out (.cells #[.int .i64 x0, .int .i64 x1, .string x2, .int .i64 x3] 25))
            have HF5 := Aside0.mk (heap_alloc_new wr (.cells #[.int .i64 x0, .int .i64 x1, .string x2, .int .i64 x3] 25))
            have RL5 := Aside0.mk (Kd.C_below RL.out (below_alloc (Below.refl wr.heap.size wr) (.cells #[.int .i64 x0, .int .i64 x1, .string x2, .int .i64 x3] 25)))
            have CB5 := Aside0.mk (blk_alloc CB.out (.cells #[.int .i64 x0, .int .i64 x1, .string x2, .int .i64 x3] 25))
            clear HB RL CB p0 p1 p2 p3
            generalize (wr.alloc (.cells #[.int .i64 x0, .int .i64 x1, .string x2, .int .i64 x3] 25)) = w5 at HB5 HF5 RL5 CB5 ⊢
            obtain ⟨B, hB⟩ : ∃ B, B = wr.heap.size := ⟨_, rfl⟩
            rw [← hB] at HF5 ⊢
            clear hB
            have f0 : w5.cell? ⟨B, 0, none⟩ = some (.int .i64 x0) := cell_of_blk HF5.out rfl
            have f1 : w5.cell? ⟨B, 1, none⟩ = some (.int .i64 x1) := cell_of_blk HF5.out rfl
            have f2 : w5.cell? ⟨B, 2, none⟩ = some (.string x2) := cell_of_blk HF5.out rfl
            have f3 : w5.cell? ⟨B, 3, none⟩ = some (.int .i64 x3) := cell_of_blk HF5.out rfl
            have g0 : decide (x3 ≤ 0) = false := decide_eq_false (by have := HX.out.why; simp only at this; omega)
            have g1 : decide (6 < x3) = false := decide_eq_false (by have := HX.out.why; simp only at this; omega)
            have g2 : decide (x0 < -1) = false := decide_eq_false (by have := HX.out.low; simp only at this; omega)
            have g3 : decide ((docs.length : Int) ≤ x0) = false := decide_eq_false (by have := HX.out.high; simp only at this; omega)
            by_cases h0 : 0 ≤ x0
            · obtain ⟨i, rfl⟩ : ∃ i : Nat, x0 = i := ⟨x0.toNat, by omega⟩
              have hi : i < docs.length := by have := HX.out.high; simp only at this; omega
              obtain ⟨hk, hask, hlk⟩ := HX.out.paper i hi rfl
              simp only at hk hask hlk
              obtain ⟨dd, A3, c3, e, p0, p1, p2, p3, hl3, hc3⟩ := at_T37 (Kd.C_below HD.out HB5.out) (i : Int) (by omega) (by omega)
              subst e
              rw [rd37 hi] at p0 p1 p2 p3 hl3 hc3
              simp only [Int.toNat_natCast] at p0 p1 p2 p3
              rw [hk] at p0
              have hfl := HFL.out _ (List.getElem_mem hi)
              obtain ⟨d, hd⟩ : ∃ d, d = docs[i] := ⟨_, rfl⟩
              rw [← hd] at p3 hl3 hc3 hlk hfl
              have HLK := Aside0.mk hlk
              have HL3 := Aside0.mk hl3
              have HC3 := Aside0.mk hc3
              have HK := Aside0.mk hask
              have P0 := Aside0.mk p0
              have P3 := Aside0.mk p3
              clear hd hk hask hlk hl3 hc3 p0 p1 p2 p3 h0 HX
              go_upto_region 17 with (fail)
              refine start_ (n := 21) (S := fun w' => w'.heap[w.heap.size]? = some (.cells (cc c A n) 33 (0, 0)) ∧ w'.heap[B]? = some (.cells #[.int .i64 i, .int .i64 x1, .string x2, .int .i64 x3] 25 (0, 0)) ∧ w'.cell? (dd.add (i * 4)) = some (.int .i64 x1)) (ds := []) #[false, false, false, false, false, false, false, false, false, false, false, false, false, false, false, false, false, false, false, false, false] (by kernel_rfl) rfl rfl ⟨blk_drew CB5.out, blk_drew HF5.out, cell_keep (below_drew1 (Below.refl _ _)) P0.out⟩ (fun hHeld => ?_)
              have HB6 := Aside0.mk (below_drew1 HB5.out)
              have CB6 := Aside0.mk (blk_drew CB5.out)
              have HF6 := Aside0.mk (blk_drew HF5.out)
              have RL6 := Aside0.mk (Kd.C_drew RL5.out)
              have HC6 := Aside0.mk (Kd.C_drew HC3.out)
              have P06 := Aside0.mk (cell_keep (below_drew1 (Below.refl _ _)) P0.out)
              have P36 := Aside0.mk (cell_keep (below_drew1 (Below.refl _ _)) P3.out)
              clear HB5 CB5 HF5 RL5 HC3 P0 P3 f0 f1 f2 f3
              generalize w5.drew = w6 at HB6 CB6 HF6 RL6 HC6 P06 P36 hHeld ⊢
              refine pure_ (i := 0) (N := some 67) (v := ?_) (a' := ?_) #[true, false, false, false, false, false, false, false, false, false, false, false, false, false, false, false, false, false, false, false, false] rfl rfl (by kernel_rfl) (fun _ _ _ h => h) (Or.inl ⟨by rfl, ?_⟩) ?_ ?_
              rotate_left
              · intro w'
                go_simp
                with_reducible rfl
              rotate_left
              · simp only [Act.put, List.setIfInBounds_toArray, List.set_cons_zero, List.set_cons_succ, i64_w, i32_w]
                rfl
              refine take_ (i := 1) (N := some 68) (v := ?_) (a' := ?_) #[true, true, false, false, false, false, false, false, false, false, false, false, false, false, false, false, false, false, false, false, false] rfl rfl (by kernel_rfl) (fun _ _ _ h => h) (Or.inl ⟨by rfl, ?_⟩) hHeld ?_ ?_
              rotate_left
              · rintro w' ⟨s0, s1, s2⟩
                have f0 : w'.cell? ⟨B, 0, none⟩ = some (.int .i64 i) := cell_of_blk s1 rfl
                go_simp
                with_reducible rfl
              rotate_left
              · simp only [Act.put, List.setIfInBounds_toArray, List.set_cons_zero, List.set_cons_succ, i64_w, i32_w]
                rfl
              refine pure_ (i := 2) (N := some 69) (v := ?_) (a' := ?_) #[true, true, true, false, false, false, false, false, false, false, false, false, false, false, false, false, false, false, false, false, false] rfl rfl (by kernel_rfl) (fun _ _ _ h => h) (Or.inl ⟨by rfl, ?_⟩) ?_ ?_
              rotate_left
              · intro w'
                go_simp
                with_reducible rfl
              rotate_left
              · simp only [Act.put, List.setIfInBounds_toArray, List.set_cons_zero, List.set_cons_succ, i64_w, i32_w]
                rfl
              refine pure_ (i := 3) (N := some 70) (v := ?_) (a' := ?_) #[true, true, true, true, false, false, false, false, false, false, false, false, false, false, false, false, false, false, false, false, false] rfl rfl (by kernel_rfl) (fun _ _ _ h => h) (Or.inl ⟨by rfl, ?_⟩) ?_ ?_
              rotate_left
              · intro w'
                go_simp
                with_reducible rfl
              rotate_left
              · simp only [Act.put, List.setIfInBounds_toArray, List.set_cons_zero, List.set_cons_succ, i64_w, i32_w]
                rfl
              refine pure_ (i := 4) (N := some 71) (v := ?_) (a' := ?_) #[true, true, true, true, true, false, false, false, false, false, false, false, false, false, false, false, false, false, false, false, false] rfl rfl (by kernel_rfl) (fun _ _ _ h => h) (Or.inl ⟨by rfl, ?_⟩) ?_ ?_
              rotate_left
              · intro w'
                go_simp
                with_reducible rfl
              rotate_left
              · simp only [Act.put, List.setIfInBounds_toArray, List.set_cons_zero, List.set_cons_succ, i64_w, i32_w]
                rfl
              refine pure_ (i := 5) (N := some 72) (v := ?_) (a' := ?_) #[true, true, true, true, true, true, false, false, false, false, false, false, false, false, false, false, false, false, false, false, false] rfl rfl (by kernel_rfl) (fun _ _ _ h => h) (Or.inl ⟨by rfl, ?_⟩) ?_ ?_
              rotate_left
              · intro w'
                go_simp
                with_reducible rfl
              rotate_left
              · simp only [Act.put, List.setIfInBounds_toArray, List.set_cons_zero, List.set_cons_succ, i64_w, i32_w]
                rfl
              refine take_ (i := 6) (N := some 73) (v := ?_) (a' := ?_) #[true, true, true, true, true, true, true, false, false, false, false, false, false, false, false, false, false, false, false, false, false] rfl rfl (by kernel_rfl) (fun _ _ _ h => h) (Or.inl ⟨by rfl, ?_⟩) hHeld ?_ ?_
              rotate_left
              · rintro w' ⟨s0, s1, s2⟩
                have f0 : w'.cell? ⟨B, 0, none⟩ = some (.int .i64 i) := cell_of_blk s1 rfl
                go_simp
                with_reducible rfl
              rotate_left
              · simp only [Act.put, List.setIfInBounds_toArray, List.set_cons_zero, List.set_cons_succ, i64_w, i32_w]
                rfl
              refine pure_ (i := 7) (N := some 74) (v := ?_) (a' := ?_) #[true, true, true, true, true, true, true, true, false, false, false, false, false, false, false, false, false, false, false, false, false] rfl rfl (by kernel_rfl) (fun _ _ _ h => h) (Or.inl ⟨by rfl, ?_⟩) ?_ ?_
              rotate_left
              · intro w'
                go_simp
                with_reducible rfl
              rotate_left
              · simp only [Act.put, List.setIfInBounds_toArray, List.set_cons_zero, List.set_cons_succ, i64_w, i32_w]
                rfl
              refine pure_ (i := 8) (N := some 75) (v := ?_) (a' := ?_) #[true, true, true, true, true, true, true, true, true, false, false, false, false, false, false, false, false, false, false, false, false] rfl rfl (by kernel_rfl) (fun _ _ _ h => h) (Or.inl ⟨by rfl, ?_⟩) ?_ ?_
              rotate_left
              · intro w'
                go_simp
                with_reducible rfl
              rotate_left
              · simp only [Act.put, List.setIfInBounds_toArray, List.set_cons_zero, List.set_cons_succ, i64_w, i32_w]
                rfl
              refine take_ (i := 9) (N := some 76) (v := ?_) (a' := ?_) #[true, true, true, true, true, true, true, true, true, true, false, false, false, false, false, false, false, false, false, false, false] rfl rfl (by kernel_rfl) (fun _ _ _ h => h) (Or.inl ⟨by rfl, ?_⟩) hHeld ?_ ?_
              rotate_left
              · rintro w' ⟨s0, s1, s2⟩
                go_simp
                with_reducible rfl
              rotate_left
              · simp only [Act.put, List.setIfInBounds_toArray, List.set_cons_zero, List.set_cons_succ, i64_w, i32_w]
                rfl
              refine pure_ (i := 10) (N := some 77) (v := ?_) (a' := ?_) #[true, true, true, true, true, true, true, true, true, true, true, false, false, false, false, false, false, false, false, false, false] rfl rfl (by kernel_rfl) (fun _ _ _ h => h) (Or.inl ⟨by rfl, ?_⟩) ?_ ?_
              rotate_left
              · intro w'
                go_simp
                with_reducible rfl
              rotate_left
              · simp only [Act.put, List.setIfInBounds_toArray, List.set_cons_zero, List.set_cons_succ, i64_w, i32_w]
                rfl
              refine take_ (i := 11) (N := some 78) (v := ?_) (a' := ?_) #[true, true, true, true, true, true, true, true, true, true, true, true, false, false, false, false, false, false, false, false, false] rfl rfl (by kernel_rfl) (fun _ _ _ h => h) (Or.inl ⟨by rfl, ?_⟩) hHeld ?_ ?_
              rotate_left
              · rintro w' ⟨s0, s1, s2⟩
                have f1 : w'.cell? ⟨B, 1, none⟩ = some (.int .i64 x1) := cell_of_blk s1 rfl
                go_simp
                with_reducible rfl
              rotate_left
              · simp only [Act.put, List.setIfInBounds_toArray, List.set_cons_zero, List.set_cons_succ, i64_w, i32_w]
                rfl
              refine pure_ (i := 12) (N := some 79) (v := ?_) (a' := ?_) #[true, true, true, true, true, true, true, true, true, true, true, true, true, false, false, false, false, false, false, false, false] rfl rfl (by kernel_rfl) (fun _ _ _ h => h) (Or.inl ⟨by rfl, ?_⟩) ?_ ?_
              rotate_left
              · intro w'
                go_simp
                with_reducible rfl
              rotate_left
              · simp only [Act.put, List.setIfInBounds_toArray, List.set_cons_zero, List.set_cons_succ, i64_w, i32_w]
                rfl
              refine pure_ (i := 13) (N := some 80) (v := ?_) (a' := ?_) #[true, true, true, true, true, true, true, true, true, true, true, true, true, true, false, false, false, false, false, false, false] rfl rfl (by kernel_rfl) (fun _ _ _ h => h) (Or.inl ⟨by rfl, ?_⟩) ?_ ?_
              rotate_left
              · intro w'
                go_simp
                with_reducible rfl
              rotate_left
              · simp only [Act.put, List.setIfInBounds_toArray, List.set_cons_zero, List.set_cons_succ, i64_w, i32_w]
                rfl
              refine take_ (i := 14) (N := some 81) (v := .agg (cc c A n)) (a' := ?_) #[true, true, true, true, true, true, true, true, true, true, true, true, true, true, true, false, false, false, false, false, false] rfl rfl (by kernel_rfl) (fun _ _ _ h => h) (Or.inl ⟨by rfl, fun w' hs => ldRow 33 _ rfl w.heap.size rfl 33 _ (0, 0) _ hs.1 hu33 rfl (by kernel_rfl)⟩) hHeld ?_ ?_
              rotate_left
              · simp only [Act.put, List.setIfInBounds_toArray, List.set_cons_zero, List.set_cons_succ, i64_w, i32_w]
                rfl
              refine pure_ (i := 15) (N := some 82) (v := ?_) (a' := ?_) #[true, true, true, true, true, true, true, true, true, true, true, true, true, true, true, true, false, false, false, false, false] rfl rfl (by kernel_rfl) (fun _ _ _ h => h) (Or.inl ⟨by rfl, ?_⟩) ?_ ?_
              rotate_left
              · intro w'
                go_simp
                with_reducible rfl
              rotate_left
              · simp only [Act.put, List.setIfInBounds_toArray, List.set_cons_zero, List.set_cons_succ, i64_w, i32_w]
                rfl
              refine take_ (i := 16) (N := some 83) (v := ?_) (a' := ?_) #[true, true, true, true, true, true, true, true, true, true, true, true, true, true, true, true, true, false, false, false, false] rfl rfl (by kernel_rfl) (fun _ _ _ h => h) (Or.inl ⟨by rfl, ?_⟩) hHeld ?_ ?_
              rotate_left
              · rintro w' ⟨s0, s1, s2⟩
                have f1 : w'.cell? ⟨B, 1, none⟩ = some (.int .i64 x1) := cell_of_blk s1 rfl
                go_simp
                with_reducible rfl
              rotate_left
              · simp only [Act.put, List.setIfInBounds_toArray, List.set_cons_zero, List.set_cons_succ, i64_w, i32_w]
                rfl
              refine one_ (i := 17) (N := some 84) #[true, true, true, true, true, true, true, true, true, true, true, true, true, true, true, true, true, true, false, false, false] rfl rfl (by kernel_rfl) (by decide) (fun K hK => ?_)
              refine goes_ Tryd.func15 (by kernel_rfl) rfl #[.agg (cc c A n), .int .i64 x1] (by rfl) rfl rfl (by simp only [List.map_toArray, List.map_cons, List.map_nil]; rfl) ?_
              refine (askedC c A n x1 w6 (Kd.C_below HC.out HB6.out) HCN.out HLN.out).mono ?_
              rintro e w7 ⟨rfl, hb7⟩
              rw [HK.out]
              refine ⟨_, rfl, ?_⟩
              have HB7 := Aside0.mk (HB6.out.trans (hb7.mono HB6.out.size))
              have CB7 := Aside0.mk (blk_below CB6.out hb7)
              have HF7 := Aside0.mk (blk_below HF6.out hb7)
              have RL7 := Aside0.mk (Kd.C_below RL6.out hb7)
              have HC7 := Aside0.mk (Kd.C_below HC6.out hb7)
              have P07 := Aside0.mk (cell_keep hb7 P06.out)
              have P37 := Aside0.mk (cell_keep hb7 P36.out)
              clear HB6 CB6 HF6 RL6 HC6 P06 P36 hb7
              refine hK.out _ _ ⟨CB7.out, HF7.out, P07.out⟩ (fun hHeld => ?_)
              clear hK K
              refine norm_ (a' := ?_) ?_ ?_
              rotate_left
              · show Act.put _ (some 84) _ = _
                simp only [Act.put, List.setIfInBounds_toArray, List.set_cons_zero, List.set_cons_succ, i64_w, i32_w]
                rfl
              refine pure_ (i := 18) (N := some 85) (v := ?_) (a' := ?_) #[true, true, true, true, true, true, true, true, true, true, true, true, true, true, true, true, true, true, true, false, false] rfl rfl (by kernel_rfl) (fun _ _ _ h => h) (Or.inl ⟨by rfl, ?_⟩) ?_ ?_
              rotate_left
              · intro w'
                go_simp
                with_reducible rfl
              rotate_left
              · simp only [Act.put, List.setIfInBounds_toArray, List.set_cons_zero, List.set_cons_succ, i64_w, i32_w]
                rfl
              refine pure_ (i := 19) (N := some 86) (v := ?_) (a' := ?_) #[true, true, true, true, true, true, true, true, true, true, true, true, true, true, true, true, true, true, true, true, false] rfl rfl (by kernel_rfl) (fun _ _ _ h => h) (Or.inl ⟨by rfl, ?_⟩) ?_ ?_
              rotate_left
              · intro w'
                go_simp
                with_reducible rfl
              rotate_left
              · simp only [Act.put, List.setIfInBounds_toArray, List.set_cons_zero, List.set_cons_succ, i64_w, i32_w]
                rfl
              refine pure_ (i := 20) (N := some 87) (v := ?_) (a' := ?_) #[true, true, true, true, true, true, true, true, true, true, true, true, true, true, true, true, true, true, true, true, true] rfl rfl (by kernel_rfl) (fun _ _ _ h => h) (Or.inl ⟨by rfl, ?_⟩) ?_ ?_
              rotate_left
              · intro w'
                go_simp
                with_reducible rfl
              rotate_left
              · simp only [Act.put, List.setIfInBounds_toArray, List.set_cons_zero, List.set_cons_succ, i64_w, i32_w]
                rfl
              refine done_ (by kernel_rfl) ?_
              have f0 : w7.cell? ⟨B, 0, none⟩ = some (.int .i64 i) := cell_of_blk HF7.out rfl
              have f1 : w7.cell? ⟨B, 1, none⟩ = some (.int .i64 x1) := cell_of_blk HF7.out rfl
              have f2 : w7.cell? ⟨B, 2, none⟩ = some (.string x2) := cell_of_blk HF7.out rfl
              have f3 : w7.cell? ⟨B, 3, none⟩ = some (.int .i64 x3) := cell_of_blk HF7.out rfl
              by_cases h3 : x3 = 1
              · subst h3
                by_cases hz : x2.toList = []
                · have hz1 : x2.toList.isEmpty = true := by rw [hz]; rfl
                  have hz2 : (x2.toList != []) = false := bne_eq_false_iff_eq.2 hz
                  clear HLK
                  go_wp2
                  go_roundw
                  case rel => exact ⟨q + 1, by omega, by go_num, HB7, RL7, CB7⟩
                  case measure => simp [intOf]; omega
                · have hz1 : x2.toList.isEmpty = false := by cases hq : x2.toList with | nil => exact absurd hq hz | cons _ _ => rfl
                  have hz2 : (x2.toList != []) = true := bne_iff_ne.2 hz
                  have HZ := Aside0.mk hz
                  have p3 := P37.out
                  clear hz
                  go_upto_region 20 with (fail)
                  obtain ⟨gv, hgv⟩ : ∃ gv, gv = getOf d.f3 x2 := ⟨_, rfl⟩
                  have RG := Aside0.mk (fun m => getQ d.f3 A3 c3 x2 (w7.drewN m) (Kd.C_drewN HC7.out m) HL3.out hfl)
                  rw [← hgv] at RG HLK
                  clear hgv
                  obtain ⟨v, ok⟩ := gv
                  simp only at RG HLK
                  have CB7' := Aside0.mk CB7.out
                  unfold cc at CB7'
                  cases ok with
                  | false =>
                    clear HLK
                    go_quiet ((go_at_call 19; exact Calls.quiet_of (RG.out _)))
                    go_wp2
                    go_roundw
                    case rel => exact ⟨q + 1, by omega, by go_num, ⟨pw_below_drewN HB7.out _⟩, ⟨Kd.C_drewN RL7.out _⟩, ⟨CB7.out⟩⟩
                    case measure => simp [intOf]; omega
                  | true =>
                    have hk := HLK.out trivial HZ.out rfl
                    have RA := Aside0.mk (fun w' (hC' : Kd.C k45 w' A c.f16.length c.f16) => asks20 c A n x1 x2 w' hC' HCN.out HSZ.out)
                    rw [hk] at RA
                    unfold cc at RA
                    clear hk HLK
                    go_quiet ((go_at_call 19; exact Calls.quiet_of (RG.out _)))
                    go_wp2_with (first | (refine wpList_load_rowG (by rfl) 33 _ rfl w.heap.size rfl 33 _ (0, 0) _ CB7'.out hu33 rfl (by kernel_rfl) ?_) | (go_at_call 20; refine (RA.out _ (Kd.C_drewN (Kd.C_below HC.out HB7.out) _)).mono ?_; rintro e w9 ⟨rfl, hb9⟩))
                    go_roundw
                    case rel => exact ⟨q + 1, by omega, by go_num, ⟨(pw_below_drewN HB7.out _).trans (hb9.mono (Nat.le_trans HB7.out.size (by simp)))⟩, ⟨Kd.C_below (Kd.C_drewN RL7.out _) hb9⟩, ⟨blk_below (blk_drewN CB7.out _) hb9⟩⟩
                    case measure => simp [intOf]; omega
              · have h3b : (x3 == 1) = false := beq_eq_false_iff_ne.2 h3
                clear h3 HLK
                go_wp2
                go_roundw
                case rel => exact ⟨q + 1, by omega, by go_num, HB7, RL7, CB7⟩
                case measure => simp [intOf]; omega
            · have h0b : decide (0 ≤ x0) = false := decide_eq_false h0
              clear h0
              go_wp2
              go_quiet (fail)
              go_wp2
              go_roundw
              case rel => exact ⟨q + 1, by omega, by go_num, ⟨pw_below_drewN HB5.out _⟩, ⟨Kd.C_drewN RL5.out _⟩, ⟨CB5.out⟩⟩
              case measure => simp [intOf]; omega
      · go_wp2
        go_ret
        exact ⟨rfl, HB.out⟩
end Go.Proofs.YtcibglpbfaffgaaDoor.X
