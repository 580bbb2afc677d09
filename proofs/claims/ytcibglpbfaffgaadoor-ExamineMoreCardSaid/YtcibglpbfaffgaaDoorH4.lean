/- The walk of ExamineMore. -/
import Derived.Test.YtcibglpbfaffgaaDoorHB
import Derived.Test.YtcibglpbfaffgaaDoorQ6
import Derived.Deep.RegionHeld3
import Derived.Outline
namespace Go.Proofs.YtcibglpbfaffgaaDoor.X
open Go Go.RowKit Go.Proofs.YtcibglpbfaffgaaDoorW.PrintWords Go.Proofs.YtcibglpbfaffgaaDoorW.PrintLast Go.Proofs.YtcibglpbfaffgaaDoorW.PrintMore
set_option linter.unusedVariables false
set_option linter.unusedSimpArgs false
theorem info37 : (Tryd.prog.info? 37).map (fun i => (i.zero, i.size, i.bytes)) = some (some (.agg #[.int .i64 0, .string ⟨#[]⟩, .string ⟨#[]⟩, .slice none 0 0]), 4, 64) := by kernel_rfl
theorem all_snoc {α : Type} {l : List α} {j : Nat} {f : α → Prop} (h : j < l.length) (h1 : ∀ x ∈ l.take j, f x) (h2 : f l[j]) : ∀ x ∈ l.take (j + 1), f x := by
  intro x hx
  rw [List.take_succ_eq_append_getElem h, List.mem_append, List.mem_singleton] at hx
  rcases hx with hx | rfl
  · exact h1 x hx
  · exact h2
def dcl (d : S37) (A : Option Addr) (n : Nat) : List Value := [.int .i64 d.f0, .string d.f1, .string d.f2, .slice A d.f3.length n]
theorem dcl_one (d : S37) (A : Option Addr) (n : Nat) : ∀ u ∈ dcl d A n, u.oneCell' = true := by
  intro u hu
  simp [dcl] at hu
  rcases hu with rfl | rfl | rfl | rfl <;> rfl
set_option maxHeartbeats 16000000 in
set_option maxRecDepth 100000 in
theorem more4 (c : S33) (A : Option Addr) (n : Nat) (docs : List S37) (A1 : Option Addr) (n1 : Nat) (d : S37) (A3 : Option Addr) (c3 : Nat) (day : Int) (dm : List S37) (bf : Bool) (l : List S25) (w : World)
    (hC : Kd.C k45 w A c.f16.length c.f16) (hCn : c.f16.length ≤ n) (hD : Kd.C k37 w A1 docs.length docs) (hDn : docs.length ≤ n1) (hN : Kd.C k66 w A3 d.f3.length d.f3) (hNn : d.f3.length ≤ c3) (hG : Glob w) (hbytes : (docs.length + 1) * 64 ≤ 140737488355328) (hdm : dm = docs ++ [d]) (hf : Ev (fewK c dm) bf)
    (hl : bf = true → c.f16.length ≤ 1000000 ∧ (∀ n ∈ c.f16, szP n.f2 ≤ 1000000) ∧ l.length ≤ 1000000 ∧ (askedB c d.f0 = false → (∀ n ∈ c.f16, likesP d.f0 n.f2 = false) → Ev (fun k => exF k c dm day) l ∧ Ev (fun k => exF k c docs day) l)) :
    Calls Tryd.prog 4 #[.agg (cc c A n), .slice A1 docs.length n1, .agg (dc d A3 c3), .int .i64 day] w fun e w' => e = .returned (.bool true) ∧ Below w.heap.size w w' := by
  have hu33 := Tryd.underlying33
  have hu37 := Tryd.underlying37
  have hu43 := Tryd.underlying43
  have hmd : docs.length ≤ 9223372036854775807 := hD.2.1
  have hmc : c.f16.length ≤ 9223372036854775807 := hC.2.1
  have HC := Aside0.mk hC
  have HCN := Aside0.mk hCn
  have HD := Aside0.mk hD
  have HDN := Aside0.mk hDn
  have HN := Aside0.mk hN
  have HNN := Aside0.mk hNn
  have HG := Aside0.mk hG
  have HF := Aside0.mk hf
  have HL := Aside0.mk hl
  have HBY := Aside0.mk hbytes
  have HDM := Aside0.mk hdm
  clear hC hCn hD hDn hN hNn hG hf hl hbytes hdm
  obtain ⟨raws, hraw, hrl, hrx⟩ := raws_of HD.out
  have hraw' : Kd.C (kraw 4) w A1 docs.length raws := hraw
  have RAW0 := Aside0.mk hraw'
  have HRL := Aside0.mk hrl
  have HRX := Aside0.mk hrx
  have RAWB : Aside0 (docs.length * 64 ≤ 140737488355328) := ⟨by have := HBY.out; omega⟩
  clear hraw hraw' hrl hrx
  unfold cc dc
  go_enter Tryd.func4, Tryd.ntmps4
  go_upto_region 3 with (go_at_call 11; refine (awakeC _ (Glob_alloc (Glob_alloc HG.out))).mono ?_; rintro e w4 ⟨rfl, hb1⟩)
  have HB4 := Aside0.mk ((below_alloc (below_alloc (Below.refl w.heap.size w) _) _).trans (hb1.mono (by simp; omega)))
  have CB4 := Aside0.mk (blk_below (heap1 w (.cells (cc c A n) 33) (.cells (dc d A3 c3) 37)) hb1)
  have NB4 := Aside0.mk (blk_below (heap2 w (.cells (cc c A n) 33) (.cells (dc d A3 c3) 37)) hb1)
  have RAWC := Aside0.mk (Kd.C_below RAW0.out HB4.out)
  clear hb1
  refine start_ (n := 15) (S := fun w' => Below w4.heap.size w4 w') (ds := []) #[false, false, false, false, false, false, false, false, false, false, false, false, false, false, false] (by kernel_rfl) rfl rfl (below_drew1 (Below.refl _ _)) (fun hHeld => ?_)
  have HSTART := Aside0.mk (below_drew1 (Below.refl w4.heap.size w4))
  generalize w4.drew = w5 at HSTART hHeld ⊢
  refine pure_ (i := 2) (N := some 14) (v := ?_) (a' := ?_) #[false, false, true, false, false, false, false, false, false, false, false, false, false, false, false] rfl rfl (by kernel_rfl) (fun _ _ _ h => h) (Or.inl ⟨by rfl, ?_⟩) ?_ ?_
  rotate_left
  · intro w'
    go_simp
    with_reducible rfl
  rotate_left
  · simp only [Act.put, List.setIfInBounds_toArray, List.set_cons_zero, List.set_cons_succ, i64_w, i32_w]
    rfl
  refine take_ (i := 0) (N := some 12) (v := .agg (cc c A n)) (a' := ?_) #[true, false, true, false, false, false, false, false, false, false, false, false, false, false, false] rfl rfl (by kernel_rfl) (fun _ _ _ h => h) (Or.inl ⟨by rfl, fun w' hs => ldRow 33 _ rfl w.heap.size rfl 33 _ (0, 0) _ (blk_below CB4.out hs) hu33 rfl (by kernel_rfl)⟩) hHeld ?_ ?_
  rotate_left
  · simp only [Act.put, List.setIfInBounds_toArray, List.set_cons_zero, List.set_cons_succ, i64_w, i32_w]
    rfl
  refine take_ (i := 4) (N := some 16) (v := .agg #[.int .i64 d.f0, .string d.f1, .string d.f2, .slice A3 d.f3.length c3]) (a' := ?_) #[true, false, true, false, true, false, false, false, false, false, false, false, false, false, false] rfl rfl (by kernel_rfl) (fun _ _ _ h => h) (Or.inl ⟨by rfl, fun w' hs => ldRow 37 _ rfl (w.heap.size + 1) rfl 37 _ (0, 0) _ (blk_below NB4.out hs) hu37 rfl (by kernel_rfl)⟩) hHeld ?_ ?_
  rotate_left
  · simp only [Act.put, List.setIfInBounds_toArray, List.set_cons_zero, List.set_cons_succ, i64_w, i32_w]
    rfl
  refine join_ 9 #[true, true, true, true, true, true, false, false, false, false, false, false, false, false, false] (fun s : Value × Value × Value => [(13, s.1), (15, s.2.1), (17, s.2.2)]) (fun (s : Value × Value × Value) w' => ∃ Bs : Nat, s.2.2 = .slice (some ⟨Bs, 0, none⟩) 1 1 ∧ w'.heap[Bs]? = some (.cells ([.int .i64 d.f0, .string d.f1, .string d.f2, .slice A3 d.f3.length c3]).toArray 37 (0, 0)) ∧ Kd.R (kraw 4) 37 w' w4.heap.size (fun _ => True) s.2.1 raws ∧ Below w4.heap.size w4 w') ?_ (fun hJ => ?_)
  · rintro ⟨v0, v1, s1⟩ wj ⟨Bs, hs1, hbs, hR, hB⟩
    simp only at hs1 hR
    subst hs1
    have HBS := Aside0.mk hbs
    have HRJ := Aside0.mk hR
    have HBJ := Aside0.mk hB
    clear hbs hR hB
    refine norm_ (a' := ?_) ?_ ?_
    rotate_left
    · simp only [putAll, Act.put, List.setIfInBounds_toArray, List.set_cons_zero, List.set_cons_succ]
      rfl
    refine one_ (i := 6) (N := some 18) #[true, true, true, true, true, true, true, false, false, false, false, false, false, false, false] rfl rfl (by kernel_rfl) (by decide) (fun K hK => ?_)
    refine raw_append_step (sz := 4) (w0 := w4) w4.heap.size rfl _ _ 34 37 (.agg #[.int .i64 0, .string ⟨#[]⟩, .string ⟨#[]⟩, .slice none 0 0]) 64 rfl Tryd.underlying34 info37 rfl (by decide) (by decide) v1 raws [dcl d A3 c3] (some ⟨Bs, 0, none⟩) 1 1 rfl rfl HRJ.out (C_raw_one rfl (dcl_one _ _ _) HBS.out) HBJ.out (HBJ.out).size (by have := HBY.out; have := HRL.out; omega) ?_
    intro v2 w6 hR2 hB2 _
    have HR2 := Aside0.mk hR2
    have HB6 := Aside0.mk hB2
    clear hR2 hB2
    have HB6w := Aside0.mk (HB4.out.trans (HB6.out.mono HB4.out.size))
    obtain ⟨A2, n2, hv2, hle2, hC2⟩ := Kd.R_reads HR2.out
    have hsn := raws_snoc (d := k37) (w := w) (c := dcl d A3 c3) (p := d) HRL.out HRX.out (k37_mk w d HNN.out HN.out)
    have hlen : (raws ++ [dcl d A3 c3]).length = dm.length := by rw [HDM.out]; exact hsn.1
    have hM : Kd.C k37 w6 A2 dm.length dm := by rw [HDM.out]; exact C_len (C_of_raw (d := k37) HB6w.out hC2 hsn.1 hsn.2)
    have HM := Aside0.mk hM
    rw [hlen] at hv2 hle2
    have HLE := Aside0.mk hle2
    subst hv2
    clear hle2 hC2 hsn hlen hM HR2 HRJ HBS
    refine hK.out _ _ HB6.out (fun _ => ?_)
    clear hK K
    refine norm_ (a' := ?_) ?_ ?_
    rotate_left
    · show Act.put _ (some 18) _ = _
      simp only [Act.put, List.setIfInBounds_toArray, List.set_cons_zero, List.set_cons_succ]
      rfl
    refine one_ (i := 7) (N := some 19) #[true, true, true, true, true, true, true, true, false, false, false, false, false, false, false] rfl rfl (by kernel_rfl) (by decide) (fun K hK => ?_)
    refine goes_ Tryd.func14 (by kernel_rfl) rfl #[.agg (cc c A n), .slice A2 dm.length n2] (by rfl) rfl rfl (by simp only [List.map_toArray, List.map_cons, List.map_nil]; rfl) ?_
    refine (fewC c A n dm A2 n2 w6 bf (Kd.C_below HC.out HB6w.out) HCN.out HM.out HLE.out HF.out).mono ?_
    rintro e w7 ⟨rfl, hb7⟩
    refine ⟨_, rfl, ?_⟩
    have HB7 := Aside0.mk (HB6.out.trans (hb7.mono HB6.out.size))
    clear hb7
    refine hK.out _ _ HB7.out (fun hHeld => ?_)
    clear hK K
    refine norm_ (a' := ?_) ?_ ?_
    rotate_left
    · show Act.put _ (some 19) _ = _
      simp only [Act.put, List.setIfInBounds_toArray, List.set_cons_zero, List.set_cons_succ, i64_w, i32_w]
      rfl
    cases bf with
    | false =>
      refine pure_ (i := 8) (N := some 20) (v := ?_) (a' := ?_) #[true, true, true, true, true, true, true, true, true, false, false, false, false, false, false] rfl rfl (by kernel_rfl) (fun _ _ _ h => h) (Or.inl ⟨by rfl, ?_⟩) ?_ ?_
      rotate_left
      · intro w'
        go_simp
        with_reducible rfl
      rotate_left
      · simp only [Act.put, List.setIfInBounds_toArray, List.set_cons_zero, List.set_cons_succ, i64_w, i32_w]
        rfl
      refine pure_ (i := 9) (N := some 21) (v := ?_) (a' := ?_) #[true, true, true, true, true, true, true, true, true, true, false, false, false, false, false] rfl rfl (by kernel_rfl) (fun _ _ _ h => h) (Or.inl ⟨by rfl, ?_⟩) ?_ ?_
      rotate_left
      · intro w'
        go_simp
        with_reducible rfl
      rotate_left
      · simp only [Act.put, List.setIfInBounds_toArray, List.set_cons_zero, List.set_cons_succ, i64_w, i32_w]
        rfl
      refine pure_ (i := 10) (N := some 22) (v := undef) (a' := ?_) #[true, true, true, true, true, true, true, true, true, true, true, false, false, false, false] rfl rfl (by kernel_rfl) (fun _ _ _ h => h) (Or.inr ⟨by rfl, rfl⟩) ?_ ?_
      rotate_left
      · simp only [Act.put, List.setIfInBounds_toArray, List.set_cons_zero, List.set_cons_succ, i64_w, i32_w]
        rfl
      refine pure_ (i := 11) (N := some 23) (v := undef) (a' := ?_) #[true, true, true, true, true, true, true, true, true, true, true, true, false, false, false] rfl rfl (by kernel_rfl) (fun _ _ _ h => h) (Or.inr ⟨by rfl, rfl⟩) ?_ ?_
      rotate_left
      · simp only [Act.put, List.setIfInBounds_toArray, List.set_cons_zero, List.set_cons_succ, i64_w, i32_w]
        rfl
      refine pure_ (i := 12) (N := some 24) (v := undef) (a' := ?_) #[true, true, true, true, true, true, true, true, true, true, true, true, true, false, false] rfl rfl (by kernel_rfl) (fun _ _ _ h => h) (Or.inr ⟨by rfl, rfl⟩) ?_ ?_
      rotate_left
      · simp only [Act.put, List.setIfInBounds_toArray, List.set_cons_zero, List.set_cons_succ, i64_w, i32_w]
        rfl
      refine pure_ (i := 13) (N := some 25) (v := undef) (a' := ?_) #[true, true, true, true, true, true, true, true, true, true, true, true, true, true, false] rfl rfl (by kernel_rfl) (fun _ _ _ h => h) (Or.inr ⟨by rfl, rfl⟩) ?_ ?_
      rotate_left
      · simp only [Act.put, List.setIfInBounds_toArray, List.set_cons_zero, List.set_cons_succ, i64_w, i32_w]
        rfl
      refine pure_ (i := 14) (N := some 26) (v := ?_) (a' := ?_) #[true, true, true, true, true, true, true, true, true, true, true, true, true, true, true] rfl rfl (by kernel_rfl) (fun _ _ _ h => h) (Or.inl ⟨by rfl, ?_⟩) ?_ ?_
      rotate_left
      · intro w'
        go_simp
        with_reducible rfl
      rotate_left
      · simp only [Act.put, List.setIfInBounds_toArray, List.set_cons_zero, List.set_cons_succ, i64_w, i32_w]
        rfl
      refine done_ (by kernel_rfl) ?_
      go_wp2
      go_ret
      exact ⟨rfl, HB4.out.trans (HB7.out.mono HB4.out.size)⟩
    | true =>
      obtain ⟨hln, hsz, hll, hrest⟩ := HL.out rfl
      have HLN := Aside0.mk hln
      have HSZ := Aside0.mk hsz
      have HLL := Aside0.mk hll
      have HREST := Aside0.mk hrest
      clear hln hsz hll hrest HL
      refine pure_ (i := 8) (N := some 20) (v := ?_) (a' := ?_) #[true, true, true, true, true, true, true, true, true, false, false, false, false, false, false] rfl rfl (by kernel_rfl) (fun _ _ _ h => h) (Or.inl ⟨by rfl, ?_⟩) ?_ ?_
      rotate_left
      · intro w'
        go_simp
        with_reducible rfl
      rotate_left
      · simp only [Act.put, List.setIfInBounds_toArray, List.set_cons_zero, List.set_cons_succ, i64_w, i32_w]
        rfl
      refine pure_ (i := 9) (N := some 21) (v := ?_) (a' := ?_) #[true, true, true, true, true, true, true, true, true, true, false, false, false, false, false] rfl rfl (by kernel_rfl) (fun _ _ _ h => h) (Or.inl ⟨by rfl, ?_⟩) ?_ ?_
      rotate_left
      · intro w'
        go_simp
        with_reducible rfl
      rotate_left
      · simp only [Act.put, List.setIfInBounds_toArray, List.set_cons_zero, List.set_cons_succ, i64_w, i32_w]
        rfl
      refine take_ (i := 10) (N := some 22) (v := .agg (cc c A n)) (a' := ?_) #[true, true, true, true, true, true, true, true, true, true, true, false, false, false, false] rfl rfl (by kernel_rfl) (fun _ _ _ h => h) (Or.inl ⟨by rfl, fun w' hs => ldRow 33 _ rfl w.heap.size rfl 33 _ (0, 0) _ (blk_below CB4.out hs) hu33 rfl (by kernel_rfl)⟩) hHeld ?_ ?_
      rotate_left
      · simp only [Act.put, List.setIfInBounds_toArray, List.set_cons_zero, List.set_cons_succ, i64_w, i32_w]
        rfl
      refine pure_ (i := 11) (N := some 23) (v := ?_) (a' := ?_) #[true, true, true, true, true, true, true, true, true, true, true, true, false, false, false] rfl rfl (by kernel_rfl) (fun _ _ _ h => h) (Or.inl ⟨by rfl, ?_⟩) ?_ ?_
      rotate_left
      · intro w'
        go_simp
        with_reducible rfl
      rotate_left
      · simp only [Act.put, List.setIfInBounds_toArray, List.set_cons_zero, List.set_cons_succ, i64_w, i32_w]
        rfl
      refine take_ (i := 12) (N := some 24) (v := ?_) (a' := ?_) #[true, true, true, true, true, true, true, true, true, true, true, true, true, false, false] rfl rfl (by kernel_rfl) (fun _ _ _ h => h) (Or.inl ⟨by rfl, ?_⟩) hHeld ?_ ?_
      rotate_left
      · intro w' hs
        have f0 : w'.cell? ⟨w.heap.size + 1, 0, none⟩ = some (.int .i64 d.f0) := cell_of_blk (blk_below NB4.out hs) rfl
        go_simp
        with_reducible rfl
      rotate_left
      · simp only [Act.put, List.setIfInBounds_toArray, List.set_cons_zero, List.set_cons_succ, i64_w, i32_w]
        rfl
      refine one_ (i := 13) (N := some 25) #[true, true, true, true, true, true, true, true, true, true, true, true, true, true, false] rfl rfl (by kernel_rfl) (by decide) (fun K hK => ?_)
      refine goes_ Tryd.func15 (by kernel_rfl) rfl #[.agg (cc c A n), .int .i64 d.f0] (by rfl) rfl rfl (by simp only [List.map_toArray, List.map_cons, List.map_nil]; rfl) ?_
      refine (askedC c A n d.f0 w7 (Kd.C_below HC.out (HB4.out.trans (HB7.out.mono HB4.out.size))) HCN.out HLN.out).mono ?_
      rintro e w8 ⟨rfl, hb8⟩
      refine ⟨_, rfl, ?_⟩
      have HB8 := Aside0.mk (HB7.out.trans (hb8.mono HB7.out.size))
      clear hb8
      refine hK.out _ _ HB8.out (fun hHeld => ?_)
      clear hK K
      refine norm_ (a' := ?_) ?_ ?_
      rotate_left
      · show Act.put _ (some 25) _ = _
        simp only [Act.put, List.setIfInBounds_toArray, List.set_cons_zero, List.set_cons_succ, i64_w, i32_w]
        rfl
      cases hask : askedB c d.f0 with
      | true =>
        refine pure_ (i := 14) (N := some 26) (v := ?_) (a' := ?_) #[true, true, true, true, true, true, true, true, true, true, true, true, true, true, true] rfl rfl (by kernel_rfl) (fun _ _ _ h => h) (Or.inl ⟨by rfl, ?_⟩) ?_ ?_
        rotate_left
        · intro w'
          go_simp
          with_reducible rfl
        rotate_left
        · simp only [Act.put, List.setIfInBounds_toArray, List.set_cons_zero, List.set_cons_succ, i64_w, i32_w]
          rfl
        refine done_ (by kernel_rfl) ?_
        go_wp2
        go_ret
        exact ⟨rfl, HB4.out.trans (HB8.out.mono HB4.out.size)⟩
      | false =>
        refine pure_ (i := 14) (N := some 26) (v := ?_) (a' := ?_) #[true, true, true, true, true, true, true, true, true, true, true, true, true, true, true] rfl rfl (by kernel_rfl) (fun _ _ _ h => h) (Or.inl ⟨by rfl, ?_⟩) ?_ ?_
        rotate_left
        · intro w'
          go_simp
          with_reducible rfl
        rotate_left
        · simp only [Act.put, List.setIfInBounds_toArray, List.set_cons_zero, List.set_cons_succ, i64_w, i32_w]
          rfl
        refine done_ (by kernel_rfl) ?_
        have HW := Aside0.mk (HB4.out.trans (HB8.out.mono HB4.out.size))
        have CW := Aside0.mk (blk_below CB4.out HB8.out)
        have NW := Aside0.mk (blk_below NB4.out HB8.out)
        have HASK := Aside0.mk hask
        clear hask HB8 HB7 HB6 HB6w HM HLE HBJ CB4 NB4 RAWC HSTART
        go_wp2
        go_loopw [9] (fun i wr => ∃ j : Nat, j ≤ c.f16.length ∧ i = .int .i64 j ∧ Aside0 (∀ x ∈ c.f16.take j, likesP d.f0 x.f2 = false) ∧ Aside0 (Below w.heap.size w wr) ∧ Aside0 (wr.heap[w.heap.size]? = some (.cells (cc c A n) 33 (0, 0))) ∧ Aside0 (wr.heap[w.heap.size + 1]? = some (.cells (dc d A3 c3) 37 (0, 0)))) (fun i _ => c.f16.length - (intOf i).toNat)
        case atStart => exact ⟨0, Nat.zero_le _, rfl, ⟨fun x hx => by simp at hx⟩, HW, CW, NW⟩
        case round =>
          clear HW CW NW HB4
          obtain ⟨j, hj, rfl, HLK, HW, CW, NW⟩ := hrel
          have cb17 : wr.cell? ⟨w.heap.size, 17, none⟩ = some (.slice A c.f16.length n) := cell_of_blk CW.out rfl
          have d0 : wr.cell? ⟨w.heap.size + 1, 0, none⟩ = some (.int .i64 d.f0) := cell_of_blk NW.out rfl
          by_cases hlt : j < c.f16.length
          · obtain ⟨ad, A7, c7, e, p0, p1, p2, p3, p4, p5, p6, p7, hl7, hc7⟩ := at_T45 (Kd.C_below HC.out HW.out) (j : Int) (by omega) (by omega)
            subst e
            rw [rd45 hlt] at p0 p1 p2 p3 p4 p5 p6 p7 hl7 hc7
            simp only [Int.toNat_natCast] at p0 p1 p2 p3 p4 p5 p6 p7
            have hsz := HSZ.out c.f16[j] (List.getElem_mem hlt)
            have HMEM := Aside0.mk (fun h => all_snoc (f := fun x : S45 => likesP d.f0 x.f2 = false) hlt HLK.out h)
            obtain ⟨nd, hnd⟩ : ∃ nd, nd = c.f16[j] := ⟨_, rfl⟩
            rw [← hnd] at p0 p1 p2 p3 p4 p5 p6 p7 hl7 hc7 hsz HMEM
            have HSZN := Aside0.mk hsz
            have HL7 := Aside0.mk hl7
            have HC7 := Aside0.mk hc7
            clear hnd hsz hl7 hc7
            go_upto_region 8 with (fail)
            refine start_ (n := 9) (S := fun w' => Below wr.heap.size wr w') (ds := []) #[false, false, false, false, false, false, false, false, false] (by kernel_rfl) rfl rfl (below_drew1 (Below.refl _ _)) (fun hHeld => ?_)
            have HS8 := Aside0.mk (below_drew1 (Below.refl wr.heap.size wr))
            generalize wr.drew = w9 at HS8 hHeld ⊢
            refine pure_ (i := 0) (N := some 34) (v := ?_) (a' := ?_) #[true, false, false, false, false, false, false, false, false] rfl rfl (by kernel_rfl) (fun _ _ _ h => h) (Or.inl ⟨by rfl, ?_⟩) ?_ ?_
            rotate_left
            · intro w'
              go_simp
              with_reducible rfl
            rotate_left
            · simp only [Act.put, List.setIfInBounds_toArray, List.set_cons_zero, List.set_cons_succ, i64_w, i32_w]
              rfl
            refine take_ (i := 1) (N := some 35) (v := ?_) (a' := ?_) #[true, true, false, false, false, false, false, false, false] rfl rfl (by kernel_rfl) (fun _ _ _ h => h) (Or.inl ⟨by rfl, ?_⟩) hHeld ?_ ?_
            rotate_left
            · intro w' hs
              have f0 := cell_keep hs cb17
              go_simp
              with_reducible rfl
            rotate_left
            · simp only [Act.put, List.setIfInBounds_toArray, List.set_cons_zero, List.set_cons_succ, i64_w, i32_w]
              rfl
            refine pure_ (i := 2) (N := some 36) (v := ?_) (a' := ?_) #[true, true, true, false, false, false, false, false, false] rfl rfl (by kernel_rfl) (fun _ _ _ h => h) (Or.inl ⟨by rfl, ?_⟩) ?_ ?_
            rotate_left
            · intro w'
              go_simp
              with_reducible rfl
            rotate_left
            · simp only [Act.put, List.setIfInBounds_toArray, List.set_cons_zero, List.set_cons_succ, i64_w, i32_w]
              rfl
            refine pure_ (i := 3) (N := some 37) (v := ?_) (a' := ?_) #[true, true, true, true, false, false, false, false, false] rfl rfl (by kernel_rfl) (fun _ _ _ h => h) (Or.inl ⟨by rfl, ?_⟩) ?_ ?_
            rotate_left
            · intro w'
              go_simp
              with_reducible rfl
            rotate_left
            · simp only [Act.put, List.setIfInBounds_toArray, List.set_cons_zero, List.set_cons_succ, i64_w, i32_w]
              rfl
            refine pure_ (i := 4) (N := some 38) (v := ?_) (a' := ?_) #[true, true, true, true, true, false, false, false, false] rfl rfl (by kernel_rfl) (fun _ _ _ h => h) (Or.inl ⟨by rfl, ?_⟩) ?_ ?_
            rotate_left
            · intro w'
              go_simp
              with_reducible rfl
            rotate_left
            · simp only [Act.put, List.setIfInBounds_toArray, List.set_cons_zero, List.set_cons_succ, i64_w, i32_w]
              rfl
            refine take_ (i := 5) (N := some 39) (v := ?_) (a' := ?_) #[true, true, true, true, true, true, false, false, false] rfl rfl (by kernel_rfl) (fun _ _ _ h => h) (Or.inl ⟨by rfl, ?_⟩) hHeld ?_ ?_
            rotate_left
            · intro w' hs
              have f2 := cell_keep hs p2
              have f3 := cell_keep hs p3
              have f4 := cell_keep hs p4
              have f5 := cell_keep hs p5
              have f6 := cell_keep hs p6
              have f7 := cell_keep hs p7
              go_simp
              with_reducible rfl
            rotate_left
            · simp only [Act.put, List.setIfInBounds_toArray, List.set_cons_zero, List.set_cons_succ, i64_w, i32_w]
              rfl
            refine pure_ (i := 6) (N := some 40) (v := ?_) (a' := ?_) #[true, true, true, true, true, true, true, false, false] rfl rfl (by kernel_rfl) (fun _ _ _ h => h) (Or.inl ⟨by rfl, ?_⟩) ?_ ?_
            rotate_left
            · intro w'
              go_simp
              with_reducible rfl
            rotate_left
            · simp only [Act.put, List.setIfInBounds_toArray, List.set_cons_zero, List.set_cons_succ, i64_w, i32_w]
              rfl
            refine take_ (i := 7) (N := some 41) (v := ?_) (a' := ?_) #[true, true, true, true, true, true, true, true, false] rfl rfl (by kernel_rfl) (fun _ _ _ h => h) (Or.inl ⟨by rfl, ?_⟩) hHeld ?_ ?_
            rotate_left
            · intro w' hs
              have f0 := cell_keep hs d0
              go_simp
              with_reducible rfl
            rotate_left
            · simp only [Act.put, List.setIfInBounds_toArray, List.set_cons_zero, List.set_cons_succ, i64_w, i32_w]
              rfl
            refine one_ (i := 8) (N := some 42) #[true, true, true, true, true, true, true, true, true] rfl rfl (by kernel_rfl) (by decide) (fun K hK => ?_)
            refine goes_ Tryd.func16 (by kernel_rfl) rfl #[.agg #[.int .i64 nd.f2.f0, .int .i64 nd.f2.f1, .string nd.f2.f2, .string nd.f2.f3, .int .i64 nd.f2.f4, .slice A7 nd.f2.f5.length c7], .int .i64 d.f0] (by rfl) rfl rfl (by simp only [List.map_toArray, List.map_cons, List.map_nil]; rfl) ?_
            refine (likesC nd.f2 A7 c7 d.f0 w9 (Kd.C_below HC7.out HS8.out) HL7.out HSZN.out).mono ?_
            rintro e wa ⟨rfl, hba⟩
            refine ⟨_, rfl, ?_⟩
            have HBa := Aside0.mk (HS8.out.trans (hba.mono HS8.out.size))
            clear hba
            refine hK.out _ _ HBa.out (fun hHeld => ?_)
            clear hK K
            refine norm_ (a' := ?_) ?_ ?_
            rotate_left
            · show Act.put _ (some 42) _ = _
              simp only [Act.put, List.setIfInBounds_toArray, List.set_cons_zero, List.set_cons_succ, i64_w, i32_w]
              rfl
            refine done_ (by kernel_rfl) ?_
            have HWa := Aside0.mk (HW.out.trans (HBa.out.mono HW.out.size))
            have CWa := Aside0.mk (blk_below CW.out HBa.out)
            have NWa := Aside0.mk (blk_below NW.out HBa.out)
            clear p0 p1 p2 p3 p4 p5 p6 p7 cb17 d0 HW CW NW HBa HS8 HC7 HL7
            cases hlk : likesP d.f0 nd.f2 with
            | true =>
              clear HMEM
              go_wp2
              go_ret
              exact ⟨rfl, HWa.out⟩
            | false =>
              have HM2 := Aside0.mk (HMEM.out hlk)
              clear HMEM hlk
              go_wp2
              go_roundw
              case rel => exact ⟨j + 1, by omega, by go_num, HM2, HWa, CWa, NWa⟩
              case measure => simp [intOf]; omega
          · have hje : j = c.f16.length := by omega
            subst hje
            have hall : ∀ x ∈ c.f16, likesP d.f0 x.f2 = false := by have := HLK.out; rwa [List.take_length] at this
            obtain ⟨em, ed⟩ := HREST.out HASK.out hall
            have EM := Aside0.mk em
            have ED := Aside0.mk ed
            clear em ed hall HLK HREST hlt hj
            go_upto_region 10 with (fail)
            have RAWC := Aside0.mk (Kd.C_below RAW0.out HW.out)
            clear cb17 d0
            refine start_ (n := 15) (S := fun w' => Below wr.heap.size wr w') (ds := []) #[false, false, false, false, false, false, false, false, false, false, false, false, false, false, false] (by kernel_rfl) rfl rfl (below_drew1 (Below.refl _ _)) (fun hHeld => ?_)
            have HSTART := Aside0.mk (below_drew1 (Below.refl wr.heap.size wr))
            generalize wr.drew = wq at HSTART hHeld ⊢
            refine pure_ (i := 2) (N := some 45) (v := ?_) (a' := ?_) #[false, false, true, false, false, false, false, false, false, false, false, false, false, false, false] rfl rfl (by kernel_rfl) (fun _ _ _ h => h) (Or.inl ⟨by rfl, ?_⟩) ?_ ?_
            rotate_left
            · intro w'
              go_simp
              with_reducible rfl
            rotate_left
            · simp only [Act.put, List.setIfInBounds_toArray, List.set_cons_zero, List.set_cons_succ, i64_w, i32_w]
              rfl
            refine pure_ (i := 7) (N := some 50) (v := ?_) (a' := ?_) #[false, false, true, false, false, false, false, true, false, false, false, false, false, false, false] rfl rfl (by kernel_rfl) (fun _ _ _ h => h) (Or.inl ⟨by rfl, ?_⟩) ?_ ?_
            rotate_left
            · intro w'
              go_simp
              with_reducible rfl
            rotate_left
            · simp only [Act.put, List.setIfInBounds_toArray, List.set_cons_zero, List.set_cons_succ, i64_w, i32_w]
              rfl
            refine pure_ (i := 10) (N := some 53) (v := ?_) (a' := ?_) #[false, false, true, false, false, false, false, true, false, false, true, false, false, false, false] rfl rfl (by kernel_rfl) (fun _ _ _ h => h) (Or.inl ⟨by rfl, ?_⟩) ?_ ?_
            rotate_left
            · intro w'
              go_simp
              with_reducible rfl
            rotate_left
            · simp only [Act.put, List.setIfInBounds_toArray, List.set_cons_zero, List.set_cons_succ, i64_w, i32_w]
              rfl
            refine pure_ (i := 11) (N := some 54) (v := ?_) (a' := ?_) #[false, false, true, false, false, false, false, true, false, false, true, true, false, false, false] rfl rfl (by kernel_rfl) (fun _ _ _ h => h) (Or.inl ⟨by rfl, ?_⟩) ?_ ?_
            rotate_left
            · intro w'
              go_simp
              with_reducible rfl
            rotate_left
            · simp only [Act.put, List.setIfInBounds_toArray, List.set_cons_zero, List.set_cons_succ, i64_w, i32_w]
              rfl
            refine take_ (i := 0) (N := some 43) (v := .agg (cc c A n)) (a' := ?_) #[true, false, true, false, false, false, false, true, false, false, true, true, false, false, false] rfl rfl (by kernel_rfl) (fun _ _ _ h => h) (Or.inl ⟨by rfl, fun w' hs => ldRow 33 _ rfl w.heap.size rfl 33 _ (0, 0) _ (blk_below CW.out hs) hu33 rfl (by kernel_rfl)⟩) hHeld ?_ ?_
            rotate_left
            · simp only [Act.put, List.setIfInBounds_toArray, List.set_cons_zero, List.set_cons_succ, i64_w, i32_w]
              rfl
            refine take_ (i := 4) (N := some 47) (v := .agg #[.int .i64 d.f0, .string d.f1, .string d.f2, .slice A3 d.f3.length c3]) (a' := ?_) #[true, false, true, false, true, false, false, true, false, false, true, true, false, false, false] rfl rfl (by kernel_rfl) (fun _ _ _ h => h) (Or.inl ⟨by rfl, fun w' hs => ldRow 37 _ rfl (w.heap.size + 1) rfl 37 _ (0, 0) _ (blk_below NW.out hs) hu37 rfl (by kernel_rfl)⟩) hHeld ?_ ?_
            rotate_left
            · simp only [Act.put, List.setIfInBounds_toArray, List.set_cons_zero, List.set_cons_succ, i64_w, i32_w]
              rfl
            refine take_ (i := 9) (N := some 52) (v := .agg (cc c A n)) (a' := ?_) #[true, false, true, false, true, false, false, true, false, true, true, true, false, false, false] rfl rfl (by kernel_rfl) (fun _ _ _ h => h) (Or.inl ⟨by rfl, fun w' hs => ldRow 33 _ rfl w.heap.size rfl 33 _ (0, 0) _ (blk_below CW.out hs) hu33 rfl (by kernel_rfl)⟩) hHeld ?_ ?_
            rotate_left
            · simp only [Act.put, List.setIfInBounds_toArray, List.set_cons_zero, List.set_cons_succ, i64_w, i32_w]
              rfl
            refine join_ 5 #[true, true, true, true, true, true, false, true, false, true, true, true, false, false, false] (fun s : Value × Value × Value => [(44, s.1), (46, s.2.1), (48, s.2.2)]) (fun (s : Value × Value × Value) w' => ∃ Bs : Nat, s.2.2 = .slice (some ⟨Bs, 0, none⟩) 1 1 ∧ w'.heap[Bs]? = some (.cells ([.int .i64 d.f0, .string d.f1, .string d.f2, .slice A3 d.f3.length c3]).toArray 37 (0, 0)) ∧ Kd.R (kraw 4) 37 w' wr.heap.size (fun _ => True) s.2.1 raws ∧ Below wr.heap.size wr w') ?_ (fun hJ => ?_)
            · rintro ⟨v0, v1, s1⟩ wj ⟨Bs, hs1, hbs, hR, hB⟩
              simp only at hs1 hR
              subst hs1
              have HBS := Aside0.mk hbs
              have HRJ := Aside0.mk hR
              have HBJ := Aside0.mk hB
              clear hbs hR hB
              refine norm_ (a' := ?_) ?_ ?_
              rotate_left
              · simp only [putAll, Act.put, List.setIfInBounds_toArray, List.set_cons_zero, List.set_cons_succ]
                rfl
              refine one_ (i := 6) (N := some 49) #[true, true, true, true, true, true, true, true, false, true, true, true, false, false, false] rfl rfl (by kernel_rfl) (by decide) (fun K hK => ?_)
              refine raw_append_step (sz := 4) (w0 := wr) wr.heap.size rfl _ _ 34 37 (.agg #[.int .i64 0, .string ⟨#[]⟩, .string ⟨#[]⟩, .slice none 0 0]) 64 rfl Tryd.underlying34 info37 rfl (by decide) (by decide) v1 raws [dcl d A3 c3] (some ⟨Bs, 0, none⟩) 1 1 rfl rfl HRJ.out (C_raw_one rfl (dcl_one _ _ _) HBS.out) HBJ.out (HBJ.out).size (by have := HBY.out; have := HRL.out; omega) ?_
              intro v2 w6 hR2 hB2 _
              have HR2 := Aside0.mk hR2
              have HB6 := Aside0.mk hB2
              clear hR2 hB2
              have HB6w := Aside0.mk (HW.out.trans (HB6.out.mono HW.out.size))
              obtain ⟨A2, n2, hv2, hle2, hC2⟩ := Kd.R_reads HR2.out
              have hsn := raws_snoc (d := k37) (w := w) (c := dcl d A3 c3) (p := d) HRL.out HRX.out (k37_mk w d HNN.out HN.out)
              have hlen : (raws ++ [dcl d A3 c3]).length = dm.length := by rw [HDM.out]; exact hsn.1
              have hM : Kd.C k37 w6 A2 dm.length dm := by rw [HDM.out]; exact C_len (C_of_raw (d := k37) HB6w.out hC2 hsn.1 hsn.2)
              have HM := Aside0.mk hM
              rw [hlen] at hv2 hle2
              have HLE := Aside0.mk hle2
              subst hv2
              clear hle2 hC2 hsn hlen hM HR2 HRJ HBS
              refine hK.out _ _ HB6.out (fun _ => ?_)
              clear hK K
              refine norm_ (a' := ?_) ?_ ?_
              rotate_left
              · show Act.put _ (some 49) _ = _
                simp only [Act.put, List.setIfInBounds_toArray, List.set_cons_zero, List.set_cons_succ]
                rfl
              refine one_ (i := 8) (N := some 51) #[true, true, true, true, true, true, true, true, true, true, true, true, false, false, false] rfl rfl (by kernel_rfl) (by decide) (fun K hK => ?_)
              refine goes_ Tryd.func18 (by kernel_rfl) rfl #[.agg (cc c A n), .slice A2 dm.length n2, .int .i64 day] (by rfl) rfl rfl (by simp only [List.map_toArray, List.map_cons, List.map_nil]; rfl) ?_
              refine (examC c A n dm A2 n2 day l w6 (Kd.C_below HC.out HB6w.out) HCN.out HM.out HLE.out (Glob_below HG.out HB6w.out) EM.out).mono ?_
              rintro e wb ⟨Aa, ca, rfl, hla, hRa, hbb⟩
              refine ⟨_, rfl, ?_⟩
              have HBb := Aside0.mk (HB6.out.trans (hbb.mono HB6.out.size))
              have HBbw := Aside0.mk (HB6w.out.trans (hbb.mono HB6w.out.size))
              have RA := Aside0.mk hRa
              have HLA := Aside0.mk hla
              clear hbb hRa hla
              refine hK.out _ _ HBb.out (fun hHeld => ?_)
              clear hK K
              refine norm_ (a' := ?_) ?_ ?_
              rotate_left
              · show Act.put _ (some 51) _ = _
                simp only [Act.put, List.setIfInBounds_toArray, List.set_cons_zero, List.set_cons_succ, i64_w, i32_w]
                rfl
              refine one_ (i := 12) (N := some 55) #[true, true, true, true, true, true, true, true, true, true, true, true, true, false, false] rfl rfl (by kernel_rfl) (by decide) (fun K hK => ?_)
              refine goes_ Tryd.func18 (by kernel_rfl) rfl #[.agg (cc c A n), .slice A1 docs.length n1, .int .i64 day] (by rfl) rfl rfl (by simp only [List.map_toArray, List.map_cons, List.map_nil]; rfl) ?_
              refine (examC c A n docs A1 n1 day l wb (Kd.C_below HC.out HBbw.out) HCN.out (Kd.C_below HD.out HBbw.out) HDN.out (Glob_below HG.out HBbw.out) ED.out).mono ?_
              rintro e wc ⟨Ab, cb, rfl, hlb, hRb, hbb⟩
              refine ⟨_, rfl, ?_⟩
              have HBc := Aside0.mk (HBb.out.trans (hbb.mono HBb.out.size))
              have HBcw := Aside0.mk (HBbw.out.trans (hbb.mono HBbw.out.size))
              have RB := Aside0.mk hRb
              have RAc := Aside0.mk (Kd.C_below RA.out hbb)
              have HLB := Aside0.mk hlb
              clear hbb hRb hlb
              refine hK.out _ _ HBc.out (fun hHeld => ?_)
              clear hK K
              refine norm_ (a' := ?_) ?_ ?_
              rotate_left
              · show Act.put _ (some 55) _ = _
                simp only [Act.put, List.setIfInBounds_toArray, List.set_cons_zero, List.set_cons_succ, i64_w, i32_w]
                rfl
              refine one_ (i := 13) (N := some 56) #[true, true, true, true, true, true, true, true, true, true, true, true, true, true, false] rfl rfl (by kernel_rfl) (by decide) (fun K hK => ?_)
              refine goes_ Tryd.func17 (by kernel_rfl) rfl #[.slice Aa l.length ca, .slice Ab l.length cb] (by rfl) rfl rfl (by simp only [List.map_toArray, List.map_cons, List.map_nil]; rfl) ?_
              refine (sameC l Aa ca Ab cb wc RAc.out HLA.out RB.out HLB.out HLL.out).mono ?_
              rintro e wd ⟨rfl, hdd⟩
              refine ⟨_, rfl, ?_⟩
              have hbb := drawn_below hdd
              have HBd := Aside0.mk (HBc.out.trans (hbb.mono HBc.out.size))
              have HBdw := Aside0.mk (HBcw.out.trans (hbb.mono HBcw.out.size))
              clear hbb hdd
              refine hK.out _ _ HBd.out (fun hHeld => ?_)
              clear hK K
              refine norm_ (a' := ?_) ?_ ?_
              rotate_left
              · show Act.put _ (some 56) _ = _
                simp only [Act.put, List.setIfInBounds_toArray, List.set_cons_zero, List.set_cons_succ, i64_w, i32_w]
                rfl
              refine pure_ (i := 14) (N := some 8) (v := ?_) (a' := ?_) #[true, true, true, true, true, true, true, true, true, true, true, true, true, true, true] rfl rfl (by kernel_rfl) (fun _ _ _ h => h) (Or.inl ⟨by rfl, ?_⟩) ?_ ?_
              rotate_left
              · intro w'
                go_simp
                with_reducible rfl
              rotate_left
              · simp only [Act.put, List.setIfInBounds_toArray, List.set_cons_zero, List.set_cons_succ, i64_w, i32_w]
                rfl
              refine done_ (by kernel_rfl) ?_
              go_wp2
              go_ret
              exact ⟨rfl, HBdw.out⟩
            · have HB := Aside0.mk (HSTART.out)
              refine two_ (i := 1) (j := 5) (Ni := some 44) (Nj := some 48) #[true, true, true, false, true, false, false, true, false, true, true, true, false, false, false] #[true, false, true, false, true, true, false, true, false, true, true, true, false, false, false] rfl rfl rfl rfl (by kernel_rfl) (by decide) (by decide) (fun K hK => ?_) (fun K hK => ?_)
              · skip
                refine raw_lit_step (sz := 4) (w0 := wr) wr.heap.size 37 rfl rfl (xs := []) (inner := []) ?_ (Reps.none _ _) HB.out (HB.out).size (by decide) ?_
                · first | (go_simp; done) | (go_simp; rfl)
                intro b0 hb0 w1 hR0 _ hB0 hBB0
                have HR0 := Aside0.mk hR0
                have HB0 := Aside0.mk hB0
                have HBB0 := Aside0.mk hBB0
                have HE0 := Aside0.mk hb0
                clear hR0 hB0 hBB0 hb0
                refine hK.out _ _ HB0.out (fun _ => ?_)
                clear hK K
                refine norm_ (a' := ?_) ?_ ?_
                rotate_left
                · show Act.put _ (some 44) _ = _
                  simp only [Act.put, List.setIfInBounds_toArray, List.set_cons_zero, List.set_cons_succ]
                  rfl
                refine two_ (i := 3) (j := 5) (Ni := some 46) (Nj := some 48) #[true, true, true, true, true, false, false, true, false, true, true, true, false, false, false] #[true, true, true, false, true, true, false, true, false, true, true, true, false, false, false] rfl rfl rfl rfl (by kernel_rfl) (by decide) (by decide) (fun K hK => ?_) (fun K hK => ?_)
                · skip
                  refine raw_append_step (sz := 4) (w0 := wr) wr.heap.size rfl _ _ 34 37 (.agg #[.int .i64 0, .string ⟨#[]⟩, .string ⟨#[]⟩, .slice none 0 0]) 64 rfl Tryd.underlying34 info37 rfl (by decide) (by decide) (.slice (some ⟨b0, 0, none⟩) 0 0) [] raws A1 docs.length n1 rfl rfl HR0.out (Kd.C_below RAWC.out HB0.out) HB0.out (HB0.out).size (by simpa using RAWB.out) ?_
                  intro v1 w2 hR2 hB2 hg2
                  have HR2 := Aside0.mk hR2
                  have HB2 := Aside0.mk hB2
                  have HG2 := Aside0.mk hg2
                  clear hR2 hB2 hg2
                  refine hK.out _ _ HB2.out (fun _ => ?_)
                  clear hK K
                  refine norm_ (a' := ?_) ?_ ?_
                  rotate_left
                  · show Act.put _ (some 46) _ = _
                    simp only [Act.put, List.setIfInBounds_toArray, List.set_cons_zero, List.set_cons_succ]
                    rfl
                  refine one_ (i := 5) (N := some 48) #[true, true, true, true, true, true, false, true, false, true, true, true, false, false, false] rfl rfl (by kernel_rfl) (by decide) (fun K hK => ?_)
                  refine raw_lit_step (sz := 4) (w0 := wr) wr.heap.size 37 rfl rfl (xs := [[.int .i64 d.f0, .string d.f1, .string d.f2, .slice A3 d.f3.length c3]]) (inner := [.int .i64 d.f0, .string d.f1, .string d.f2, .slice A3 d.f3.length c3]) ?_ (reps_one rfl (dcl_one d A3 c3)) HB2.out (HB2.out).size (by simp) ?_
                  · first | (go_simp; done) | (go_simp; rfl)
                  intro b1 hb1 w3 _ hC1 hB1 hBB1
                  have HC1 := Aside0.mk hC1
                  have HB1 := Aside0.mk hB1
                  have HBB1 := Aside0.mk hBB1
                  have HE1 := Aside0.mk hb1
                  clear hC1 hB1 hBB1 hb1
                  refine hK.out _ _ HB1.out (fun _ => ?_)
                  clear hK K
                  refine norm_ (a' := ?_) ?_ ?_
                  rotate_left
                  · show Act.put _ (some 48) _ = _
                    simp only [Act.put, List.setIfInBounds_toArray, List.set_cons_zero, List.set_cons_succ]
                    rfl
                  refine norm_ ?_ (hJ (.slice (some ⟨b0, 0, none⟩) 0 0, v1, .slice (some ⟨b1, 0, none⟩) 1 1) w3 ⟨b1, rfl, HC1.out, by have := raw_below HR2.out HBB1.out; simpa using this, HB1.out⟩)
                  first | rfl | (simp only [putAll, Act.put, List.setIfInBounds_toArray, List.set_cons_zero, List.set_cons_succ]; done) | (simp only [putAll, Act.put, List.setIfInBounds_toArray, List.set_cons_zero, List.set_cons_succ]; rfl)
                · skip
                  refine raw_lit_step (sz := 4) (w0 := wr) wr.heap.size 37 rfl rfl (xs := [[.int .i64 d.f0, .string d.f1, .string d.f2, .slice A3 d.f3.length c3]]) (inner := [.int .i64 d.f0, .string d.f1, .string d.f2, .slice A3 d.f3.length c3]) ?_ (reps_one rfl (dcl_one d A3 c3)) HB0.out (HB0.out).size (by simp) ?_
                  · first | (go_simp; done) | (go_simp; rfl)
                  intro b1 hb1 w2 _ hC1 hB1 hBB1
                  have HC1 := Aside0.mk hC1
                  have HB1 := Aside0.mk hB1
                  have HBB1 := Aside0.mk hBB1
                  have HE1 := Aside0.mk hb1
                  clear hC1 hB1 hBB1 hb1
                  refine hK.out _ _ HB1.out (fun _ => ?_)
                  clear hK K
                  refine norm_ (a' := ?_) ?_ ?_
                  rotate_left
                  · show Act.put _ (some 48) _ = _
                    simp only [Act.put, List.setIfInBounds_toArray, List.set_cons_zero, List.set_cons_succ]
                    rfl
                  have HR1 := Aside0.mk (raw_below HR0.out HBB1.out)
                  refine one_ (i := 3) (N := some 46) #[true, true, true, true, true, true, false, true, false, true, true, true, false, false, false] rfl rfl (by kernel_rfl) (by decide) (fun K hK => ?_)
                  refine raw_append_step (sz := 4) (w0 := wr) wr.heap.size rfl _ _ 34 37 (.agg #[.int .i64 0, .string ⟨#[]⟩, .string ⟨#[]⟩, .slice none 0 0]) 64 rfl Tryd.underlying34 info37 rfl (by decide) (by decide) (.slice (some ⟨b0, 0, none⟩) 0 0) [] raws A1 docs.length n1 rfl rfl HR1.out (Kd.C_below RAWC.out HB1.out) HB1.out (HB1.out).size (by simpa using RAWB.out) ?_
                  intro v1 w3 hR2 hB2 hg2
                  have HR2 := Aside0.mk hR2
                  have HB2 := Aside0.mk hB2
                  have HG2 := Aside0.mk hg2
                  clear hR2 hB2 hg2
                  refine hK.out _ _ HB2.out (fun _ => ?_)
                  clear hK K
                  refine norm_ (a' := ?_) ?_ ?_
                  rotate_left
                  · show Act.put _ (some 46) _ = _
                    simp only [Act.put, List.setIfInBounds_toArray, List.set_cons_zero, List.set_cons_succ]
                    rfl
                  have HC2 := Aside0.mk ((HG2.out.block b1 (blk_lt HC1.out) (fun e => by have h1 := Kd.R_lt HR0.out b0 (by simp [Value.ownBlock]); have h2 := HE1.out; simp [Value.ownBlock] at e; omega)).trans HC1.out)
                  refine norm_ ?_ (hJ (.slice (some ⟨b0, 0, none⟩) 0 0, v1, .slice (some ⟨b1, 0, none⟩) 1 1) w3 ⟨b1, rfl, HC2.out, by simpa using HR2.out, HB2.out⟩)
                  first | rfl | (simp only [putAll, Act.put, List.setIfInBounds_toArray, List.set_cons_zero, List.set_cons_succ]; done) | (simp only [putAll, Act.put, List.setIfInBounds_toArray, List.set_cons_zero, List.set_cons_succ]; rfl)
              · skip
                refine raw_lit_step (sz := 4) (w0 := wr) wr.heap.size 37 rfl rfl (xs := [[.int .i64 d.f0, .string d.f1, .string d.f2, .slice A3 d.f3.length c3]]) (inner := [.int .i64 d.f0, .string d.f1, .string d.f2, .slice A3 d.f3.length c3]) ?_ (reps_one rfl (dcl_one d A3 c3)) HB.out (HB.out).size (by simp) ?_
                · first | (go_simp; done) | (go_simp; rfl)
                intro b1 hb1 w1 _ hC1 hB1 hBB1
                have HC1 := Aside0.mk hC1
                have HB1 := Aside0.mk hB1
                have HBB1 := Aside0.mk hBB1
                have HE1 := Aside0.mk hb1
                clear hC1 hB1 hBB1 hb1
                refine hK.out _ _ HB1.out (fun _ => ?_)
                clear hK K
                refine norm_ (a' := ?_) ?_ ?_
                rotate_left
                · show Act.put _ (some 48) _ = _
                  simp only [Act.put, List.setIfInBounds_toArray, List.set_cons_zero, List.set_cons_succ]
                  rfl
                refine one_ (i := 1) (N := some 44) #[true, true, true, false, true, true, false, true, false, true, true, true, false, false, false] rfl rfl (by kernel_rfl) (by decide) (fun K hK => ?_)
                refine raw_lit_step (sz := 4) (w0 := wr) wr.heap.size 37 rfl rfl (xs := []) (inner := []) ?_ (Reps.none _ _) HB1.out (HB1.out).size (by decide) ?_
                · first | (go_simp; done) | (go_simp; rfl)
                intro b0 hb0 w2 hR0 _ hB0 hBB0
                have HR0 := Aside0.mk hR0
                have HB0 := Aside0.mk hB0
                have HBB0 := Aside0.mk hBB0
                have HE0 := Aside0.mk hb0
                clear hR0 hB0 hBB0 hb0
                refine hK.out _ _ HB0.out (fun _ => ?_)
                clear hK K
                refine norm_ (a' := ?_) ?_ ?_
                rotate_left
                · show Act.put _ (some 44) _ = _
                  simp only [Act.put, List.setIfInBounds_toArray, List.set_cons_zero, List.set_cons_succ]
                  rfl
                refine one_ (i := 3) (N := some 46) #[true, true, true, true, true, true, false, true, false, true, true, true, false, false, false] rfl rfl (by kernel_rfl) (by decide) (fun K hK => ?_)
                have HC0 := Aside0.mk (blk_below HC1.out HBB0.out)
                refine raw_append_step (sz := 4) (w0 := wr) wr.heap.size rfl _ _ 34 37 (.agg #[.int .i64 0, .string ⟨#[]⟩, .string ⟨#[]⟩, .slice none 0 0]) 64 rfl Tryd.underlying34 info37 rfl (by decide) (by decide) (.slice (some ⟨b0, 0, none⟩) 0 0) [] raws A1 docs.length n1 rfl rfl HR0.out (Kd.C_below RAWC.out HB0.out) HB0.out (HB0.out).size (by simpa using RAWB.out) ?_
                intro v1 w3 hR2 hB2 hg2
                have HR2 := Aside0.mk hR2
                have HB2 := Aside0.mk hB2
                have HG2 := Aside0.mk hg2
                clear hR2 hB2 hg2
                refine hK.out _ _ HB2.out (fun _ => ?_)
                clear hK K
                refine norm_ (a' := ?_) ?_ ?_
                rotate_left
                · show Act.put _ (some 46) _ = _
                  simp only [Act.put, List.setIfInBounds_toArray, List.set_cons_zero, List.set_cons_succ]
                  rfl
                have HC2 := Aside0.mk ((HG2.out.block b1 (blk_lt HC0.out) (fun e => by have h1 := blk_lt HC1.out; have h2 := HE0.out; simp [Value.ownBlock] at e; omega)).trans HC0.out)
                refine norm_ ?_ (hJ (.slice (some ⟨b0, 0, none⟩) 0 0, v1, .slice (some ⟨b1, 0, none⟩) 1 1) w3 ⟨b1, rfl, HC2.out, by simpa using HR2.out, HB2.out⟩)
                first | rfl | (simp only [putAll, Act.put, List.setIfInBounds_toArray, List.set_cons_zero, List.set_cons_succ]; done) | (simp only [putAll, Act.put, List.setIfInBounds_toArray, List.set_cons_zero, List.set_cons_succ]; rfl)
  · have HB := Aside0.mk (HSTART.out)
    refine two_ (i := 1) (j := 5) (Ni := some 13) (Nj := some 17) #[true, true, true, false, true, false, false, false, false, false, false, false, false, false, false] #[true, false, true, false, true, true, false, false, false, false, false, false, false, false, false] rfl rfl rfl rfl (by kernel_rfl) (by decide) (by decide) (fun K hK => ?_) (fun K hK => ?_)
    · skip
      refine raw_lit_step (sz := 4) (w0 := w4) w4.heap.size 37 rfl rfl (xs := []) (inner := []) ?_ (Reps.none _ _) HB.out (HB.out).size (by decide) ?_
      · first | (go_simp; done) | (go_simp; rfl)
      intro b0 hb0 w1 hR0 _ hB0 hBB0
      have HR0 := Aside0.mk hR0
      have HB0 := Aside0.mk hB0
      have HBB0 := Aside0.mk hBB0
      have HE0 := Aside0.mk hb0
      clear hR0 hB0 hBB0 hb0
      refine hK.out _ _ HB0.out (fun _ => ?_)
      clear hK K
      refine norm_ (a' := ?_) ?_ ?_
      rotate_left
      · show Act.put _ (some 13) _ = _
        simp only [Act.put, List.setIfInBounds_toArray, List.set_cons_zero, List.set_cons_succ]
        rfl
      refine two_ (i := 3) (j := 5) (Ni := some 15) (Nj := some 17) #[true, true, true, true, true, false, false, false, false, false, false, false, false, false, false] #[true, true, true, false, true, true, false, false, false, false, false, false, false, false, false] rfl rfl rfl rfl (by kernel_rfl) (by decide) (by decide) (fun K hK => ?_) (fun K hK => ?_)
      · skip
        refine raw_append_step (sz := 4) (w0 := w4) w4.heap.size rfl _ _ 34 37 (.agg #[.int .i64 0, .string ⟨#[]⟩, .string ⟨#[]⟩, .slice none 0 0]) 64 rfl Tryd.underlying34 info37 rfl (by decide) (by decide) (.slice (some ⟨b0, 0, none⟩) 0 0) [] raws A1 docs.length n1 rfl rfl HR0.out (Kd.C_below RAWC.out HB0.out) HB0.out (HB0.out).size (by simpa using RAWB.out) ?_
        intro v1 w2 hR2 hB2 hg2
        have HR2 := Aside0.mk hR2
        have HB2 := Aside0.mk hB2
        have HG2 := Aside0.mk hg2
        clear hR2 hB2 hg2
        refine hK.out _ _ HB2.out (fun _ => ?_)
        clear hK K
        refine norm_ (a' := ?_) ?_ ?_
        rotate_left
        · show Act.put _ (some 15) _ = _
          simp only [Act.put, List.setIfInBounds_toArray, List.set_cons_zero, List.set_cons_succ]
          rfl
        refine one_ (i := 5) (N := some 17) #[true, true, true, true, true, true, false, false, false, false, false, false, false, false, false] rfl rfl (by kernel_rfl) (by decide) (fun K hK => ?_)
        refine raw_lit_step (sz := 4) (w0 := w4) w4.heap.size 37 rfl rfl (xs := [[.int .i64 d.f0, .string d.f1, .string d.f2, .slice A3 d.f3.length c3]]) (inner := [.int .i64 d.f0, .string d.f1, .string d.f2, .slice A3 d.f3.length c3]) ?_ (reps_one rfl (dcl_one d A3 c3)) HB2.out (HB2.out).size (by simp) ?_
        · first | (go_simp; done) | (go_simp; rfl)
        intro b1 hb1 w3 _ hC1 hB1 hBB1
        have HC1 := Aside0.mk hC1
        have HB1 := Aside0.mk hB1
        have HBB1 := Aside0.mk hBB1
        have HE1 := Aside0.mk hb1
        clear hC1 hB1 hBB1 hb1
        refine hK.out _ _ HB1.out (fun _ => ?_)
        clear hK K
        refine norm_ (a' := ?_) ?_ ?_
        rotate_left
        · show Act.put _ (some 17) _ = _
          simp only [Act.put, List.setIfInBounds_toArray, List.set_cons_zero, List.set_cons_succ]
          rfl
        refine norm_ ?_ (hJ (.slice (some ⟨b0, 0, none⟩) 0 0, v1, .slice (some ⟨b1, 0, none⟩) 1 1) w3 ⟨b1, rfl, HC1.out, by have := raw_below HR2.out HBB1.out; simpa using this, HB1.out⟩)
        first | rfl | (simp only [putAll, Act.put, List.setIfInBounds_toArray, List.set_cons_zero, List.set_cons_succ]; done) | (simp only [putAll, Act.put, List.setIfInBounds_toArray, List.set_cons_zero, List.set_cons_succ]; rfl)
      · skip
        refine raw_lit_step (sz := 4) (w0 := w4) w4.heap.size 37 rfl rfl (xs := [[.int .i64 d.f0, .string d.f1, .string d.f2, .slice A3 d.f3.length c3]]) (inner := [.int .i64 d.f0, .string d.f1, .string d.f2, .slice A3 d.f3.length c3]) ?_ (reps_one rfl (dcl_one d A3 c3)) HB0.out (HB0.out).size (by simp) ?_
        · first | (go_simp; done) | (go_simp; rfl)
        intro b1 hb1 w2 _ hC1 hB1 hBB1
        have HC1 := Aside0.mk hC1
        have HB1 := Aside0.mk hB1
        have HBB1 := Aside0.mk hBB1
        have HE1 := Aside0.mk hb1
        clear hC1 hB1 hBB1 hb1
        refine hK.out _ _ HB1.out (fun _ => ?_)
        clear hK K
        refine norm_ (a' := ?_) ?_ ?_
        rotate_left
        · show Act.put _ (some 17) _ = _
          simp only [Act.put, List.setIfInBounds_toArray, List.set_cons_zero, List.set_cons_succ]
          rfl
        have HR1 := Aside0.mk (raw_below HR0.out HBB1.out)
        refine one_ (i := 3) (N := some 15) #[true, true, true, true, true, true, false, false, false, false, false, false, false, false, false] rfl rfl (by kernel_rfl) (by decide) (fun K hK => ?_)
        refine raw_append_step (sz := 4) (w0 := w4) w4.heap.size rfl _ _ 34 37 (.agg #[.int .i64 0, .string ⟨#[]⟩, .string ⟨#[]⟩, .slice none 0 0]) 64 rfl Tryd.underlying34 info37 rfl (by decide) (by decide) (.slice (some ⟨b0, 0, none⟩) 0 0) [] raws A1 docs.length n1 rfl rfl HR1.out (Kd.C_below RAWC.out HB1.out) HB1.out (HB1.out).size (by simpa using RAWB.out) ?_
        intro v1 w3 hR2 hB2 hg2
        have HR2 := Aside0.mk hR2
        have HB2 := Aside0.mk hB2
        have HG2 := Aside0.mk hg2
        clear hR2 hB2 hg2
        refine hK.out _ _ HB2.out (fun _ => ?_)
        clear hK K
        refine norm_ (a' := ?_) ?_ ?_
        rotate_left
        · show Act.put _ (some 15) _ = _
          simp only [Act.put, List.setIfInBounds_toArray, List.set_cons_zero, List.set_cons_succ]
          rfl
        have HC2 := Aside0.mk ((HG2.out.block b1 (blk_lt HC1.out) (fun e => by have h1 := Kd.R_lt HR0.out b0 (by simp [Value.ownBlock]); have h2 := HE1.out; simp [Value.ownBlock] at e; omega)).trans HC1.out)
        refine norm_ ?_ (hJ (.slice (some ⟨b0, 0, none⟩) 0 0, v1, .slice (some ⟨b1, 0, none⟩) 1 1) w3 ⟨b1, rfl, HC2.out, by simpa using HR2.out, HB2.out⟩)
        first | rfl | (simp only [putAll, Act.put, List.setIfInBounds_toArray, List.set_cons_zero, List.set_cons_succ]; done) | (simp only [putAll, Act.put, List.setIfInBounds_toArray, List.set_cons_zero, List.set_cons_succ]; rfl)
    · skip
      refine raw_lit_step (sz := 4) (w0 := w4) w4.heap.size 37 rfl rfl (xs := [[.int .i64 d.f0, .string d.f1, .string d.f2, .slice A3 d.f3.length c3]]) (inner := [.int .i64 d.f0, .string d.f1, .string d.f2, .slice A3 d.f3.length c3]) ?_ (reps_one rfl (dcl_one d A3 c3)) HB.out (HB.out).size (by simp) ?_
      · first | (go_simp; done) | (go_simp; rfl)
      intro b1 hb1 w1 _ hC1 hB1 hBB1
      have HC1 := Aside0.mk hC1
      have HB1 := Aside0.mk hB1
      have HBB1 := Aside0.mk hBB1
      have HE1 := Aside0.mk hb1
      clear hC1 hB1 hBB1 hb1
      refine hK.out _ _ HB1.out (fun _ => ?_)
      clear hK K
      refine norm_ (a' := ?_) ?_ ?_
      rotate_left
      · show Act.put _ (some 17) _ = _
        simp only [Act.put, List.setIfInBounds_toArray, List.set_cons_zero, List.set_cons_succ]
        rfl
      refine one_ (i := 1) (N := some 13) #[true, true, true, false, true, true, false, false, false, false, false, false, false, false, false] rfl rfl (by kernel_rfl) (by decide) (fun K hK => ?_)
      refine raw_lit_step (sz := 4) (w0 := w4) w4.heap.size 37 rfl rfl (xs := []) (inner := []) ?_ (Reps.none _ _) HB1.out (HB1.out).size (by decide) ?_
      · first | (go_simp; done) | (go_simp; rfl)
      intro b0 hb0 w2 hR0 _ hB0 hBB0
      have HR0 := Aside0.mk hR0
      have HB0 := Aside0.mk hB0
      have HBB0 := Aside0.mk hBB0
      have HE0 := Aside0.mk hb0
      clear hR0 hB0 hBB0 hb0
      refine hK.out _ _ HB0.out (fun _ => ?_)
      clear hK K
      refine norm_ (a' := ?_) ?_ ?_
      rotate_left
      · show Act.put _ (some 13) _ = _
        simp only [Act.put, List.setIfInBounds_toArray, List.set_cons_zero, List.set_cons_succ]
        rfl
      refine one_ (i := 3) (N := some 15) #[true, true, true, true, true, true, false, false, false, false, false, false, false, false, false] rfl rfl (by kernel_rfl) (by decide) (fun K hK => ?_)
      have HC0 := Aside0.mk (blk_below HC1.out HBB0.out)
      refine raw_append_step (sz := 4) (w0 := w4) w4.heap.size rfl _ _ 34 37 (.agg #[.int .i64 0, .string ⟨#[]⟩, .string ⟨#[]⟩, .slice none 0 0]) 64 rfl Tryd.underlying34 info37 rfl (by decide) (by decide) (.slice (some ⟨b0, 0, none⟩) 0 0) [] raws A1 docs.length n1 rfl rfl HR0.out (Kd.C_below RAWC.out HB0.out) HB0.out (HB0.out).size (by simpa using RAWB.out) ?_
      intro v1 w3 hR2 hB2 hg2
      have HR2 := Aside0.mk hR2
      have HB2 := Aside0.mk hB2
      have HG2 := Aside0.mk hg2
      clear hR2 hB2 hg2
      refine hK.out _ _ HB2.out (fun _ => ?_)
      clear hK K
      refine norm_ (a' := ?_) ?_ ?_
      rotate_left
      · show Act.put _ (some 15) _ = _
        simp only [Act.put, List.setIfInBounds_toArray, List.set_cons_zero, List.set_cons_succ]
        rfl
      have HC2 := Aside0.mk ((HG2.out.block b1 (blk_lt HC0.out) (fun e => by have h1 := blk_lt HC1.out; have h2 := HE0.out; simp [Value.ownBlock] at e; omega)).trans HC0.out)
      refine norm_ ?_ (hJ (.slice (some ⟨b0, 0, none⟩) 0 0, v1, .slice (some ⟨b1, 0, none⟩) 1 1) w3 ⟨b1, rfl, HC2.out, by simpa using HR2.out, HB2.out⟩)
      first | rfl | (simp only [putAll, Act.put, List.setIfInBounds_toArray, List.set_cons_zero, List.set_cons_succ]; done) | (simp only [putAll, Act.put, List.setIfInBounds_toArray, List.set_cons_zero, List.set_cons_succ]; rfl)
end Go.Proofs.YtcibglpbfaffgaaDoor.X
