/- The walk of ExamineNeeds. -/
import Derived.Test.YtcibglpbfaffgaaDoorHB
import Derived.Test.YtcibglpbfaffgaaDoorQ3
import Derived.Deep.RegionHeld3
import Derived.Outline
namespace Go.Proofs.YtcibglpbfaffgaaDoor.X
open Go Go.RowKit Go.Proofs.YtcibglpbfaffgaaDoorW.PrintWords Go.Proofs.YtcibglpbfaffgaaDoorW.PrintLast Go.Proofs.YtcibglpbfaffgaaDoorW.PrintMore
set_option linter.unusedVariables false
set_option linter.unusedSimpArgs false
attribute [local go_sem high] eqA25o
theorem mem_take_succ8 (x : S25) {l : List S25} {q : Nat} (h : q < l.length) : decide (x ∈ l.take (q + 1)) = (decide (x ∈ l.take q) || decide (x = l[q])) := by
  rw [Bool.eq_iff_iff, Bool.or_eq_true, decide_eq_true_iff, decide_eq_true_iff, decide_eq_true_iff, List.take_succ_eq_append_getElem h, List.mem_append, List.mem_singleton]
def ncl (x : S45) (A : Option Addr) (n : Nat) : List Value := [.int .i64 x.f0, .int .i64 x.f1, .int .i64 x.f2.f0, .int .i64 x.f2.f1, .string x.f2.f2, .string x.f2.f3, .int .i64 x.f2.f4, .slice A x.f2.f5.length n]
theorem ncl_one (x : S45) (A : Option Addr) (n : Nat) : ∀ u ∈ ncl x A n, u.oneCell' = true := by
  intro u hu
  simp [ncl] at hu
  rcases hu with rfl | rfl | rfl | rfl | rfl | rfl | rfl | rfl <;> rfl
set_option maxHeartbeats 16000000 in
set_option maxRecDepth 100000 in
theorem needs8 (c : S33) (A : Option Addr) (n : Nat) (docs : List S37) (A1 : Option Addr) (n1 : Nat) (day : Int) (nd : S45) (A7 : Option Addr) (c7 : Nat) (bf : Bool) (a b : List S25) (w : World)
    (hC : Kd.C k45 w A c.f16.length c.f16) (hCn : c.f16.length ≤ n) (hD : Kd.C k37 w A1 docs.length docs) (hDn : docs.length ≤ n1) (hN : Kd.C k43 w A7 nd.f2.f5.length nd.f2.f5) (hNn : nd.f2.f5.length ≤ c7) (hG : Glob w) (hbytes : (c.f16.length + 1) * 96 ≤ 140737488355328) (hf : Ev (fewK (withN c nd) docs) bf)
    (hl : bf = true → c.f16.length ≤ 1000000 ∧ (askedB c nd.f0 = true → Ev (fun k => exF k c docs day) a ∧ Ev (fun k => exF k (withN c nd) docs day) b ∧ (∀ x ∈ a, x ∈ b) ∧ ∀ y ∈ b, y.f1 = nd.f0 ∨ y ∈ a)) :
    Calls Tryd.prog 8 #[.agg (cc c A n), .slice A1 docs.length n1, .int .i64 day, .agg (nc nd A7 c7)] w fun e w' => e = .returned (.bool true) ∧ Below w.heap.size w w' := by
  have hu33 := Tryd.underlying33
  have hu45 := Tryd.underlying45
  have hu25 := Tryd.underlying25
  have hmd : docs.length ≤ 9223372036854775807 := hD.2.1
  have hmc : c.f16.length ≤ 9223372036854775807 := hC.2.1
  have HC := Aside0.mk hC
  have HCN := Aside0.mk hCn
  have HD := Aside0.mk hD
  have HDN := Aside0.mk hDn
  have HN := Aside0.mk hN
  have HNN := Aside0.mk hNn
  have HG := Aside0.mk hG
  have HF := Aside0.mk hf
  have HL := Aside0.mk hl
  have HBY := Aside0.mk hbytes
  clear hC hCn hD hDn hN hNn hG hf hl hbytes
  unfold cc nc
  go_enter Tryd.func8, Tryd.ntmps8
  go_upto_region 3 with (go_at_call 11; refine (awakeC _ (Glob_alloc (Glob_alloc HG.out))).mono ?_; rintro e w1 ⟨rfl, hb1⟩)
  have HB1 := Aside0.mk ((below_alloc (below_alloc (Below.refl w.heap.size w) _) _).trans (hb1.mono (by simp; omega)))
  have CB1 := Aside0.mk (blk_below (heap1 w (.cells (cc c A n) 33) (.cells (nc nd A7 c7) 45)) hb1)
  have NB1 := Aside0.mk (blk_below (heap2 w (.cells (cc c A n) 33) (.cells (nc nd A7 c7) 45)) hb1)
  clear hb1
  have CB1' := Aside0.mk CB1.out
  unfold cc at CB1'
  go_upto_region 4 with (first | (refine wpList_load_row rfl 33 _ rfl w.heap.size rfl 33 _ (0, 0) _ CB1'.out hu33 rfl (by kernel_rfl) ?_) | (refine wpList_store_event rfl rfl 33 _ _ rfl w1.heap.size (cc c A n) rfl rfl 33 _ (heap_alloc_new w1 _) (by kernel_rfl) rfl (cc_one _ _ _) ?_; intro w4 c4 o4 b4))
  have HBB := Aside0.mk ((below_alloc (Below.refl w1.heap.size w1) (.cells #[.string ⟨#[]⟩, .string ⟨#[]⟩, .string ⟨#[]⟩, .string ⟨#[]⟩, .string ⟨#[]⟩, .string ⟨#[]⟩, .string ⟨#[]⟩, .string ⟨#[]⟩, .int .i64 0, .int .i64 0, .int .i64 0, .int .i64 0, .int .i64 0, .int .i64 0, .int .i64 0, .bool false, .bool false, .slice none 0 0] 33)).trans b4)
  have HB4 := Aside0.mk (HB1.out.trans (HBB.out.mono HB1.out.size))
  have CB4 := Aside0.mk (blk_below CB1.out HBB.out)
  have NB4 := Aside0.mk (blk_below NB1.out HBB.out)
  have MB4 := Aside0.mk c4
  obtain ⟨Bm, hBm⟩ : ∃ Bm, Bm = w1.heap.size := ⟨_, rfl⟩
  have hwBm : w.heap.size + 1 < Bm := by have := blk_lt NB1.out; omega
  rw [← hBm] at MB4 ⊢
  clear hBm c4 o4 b4 HBB CB1 NB1 CB1' HB1
  obtain ⟨raws, hraw, hrl, hrx⟩ := raws_of HC.out
  have RAWC : Aside0 (Kd.C (kraw 8) w4 A c.f16.length raws) := ⟨Kd.C_below hraw HB4.out⟩
  have HRL := Aside0.mk hrl
  have HRX := Aside0.mk hrx
  have RAWB : Aside0 (c.f16.length * 96 ≤ 140737488355328) := ⟨by have := HBY.out; omega⟩
  clear hraw hrl hrx
  refine start_ (n := 9) (S := fun w' => Below w4.heap.size w4 w') (ds := [8]) #[false, false, false, false, false, false, false, false, false] (by kernel_rfl) rfl rfl (below_drew1 (Below.refl _ _)) (fun hHeld => ?_)
  have HSTART := Aside0.mk (below_drew1 (Below.refl w4.heap.size w4))
  generalize w4.drew = w5 at HSTART hHeld ⊢
  refine pure_ (i := 1) (N := some 22) (v := ?_) (a' := ?_) #[false, true, false, false, false, false, false, false, false] rfl rfl (by kernel_rfl) (fun _ _ _ h => h) (Or.inl ⟨by rfl, ?_⟩) ?_ ?_
  rotate_left
  · intro w'
    go_simp
    with_reducible rfl
  rotate_left
  · simp only [Act.put, List.setIfInBounds_toArray, List.set_cons_zero, List.set_cons_succ, i64_w, i32_w]
    rfl
  refine take_ (i := 2) (N := some 23) (v := ?_) (a' := ?_) #[false, true, true, false, false, false, false, false, false] rfl rfl (by kernel_rfl) (fun _ _ _ h => h) (Or.inl ⟨by rfl, ?_⟩) hHeld ?_ ?_
  rotate_left
  · intro w' hs
    have f0 : w'.cell? ⟨w.heap.size, 17, none⟩ = some (.slice A c.f16.length n) := cell_of_blk (blk_below CB4.out hs) rfl
    go_simp
    with_reducible rfl
  rotate_left
  · simp only [Act.put, List.setIfInBounds_toArray, List.set_cons_zero, List.set_cons_succ, i64_w, i32_w]
    rfl
  refine take_ (i := 4) (N := some 25) (v := .agg #[.int .i64 nd.f0, .int .i64 nd.f1, .int .i64 nd.f2.f0, .int .i64 nd.f2.f1, .string nd.f2.f2, .string nd.f2.f3, .int .i64 nd.f2.f4, .slice A7 nd.f2.f5.length c7]) (a' := ?_) #[false, true, true, false, true, false, false, false, false] rfl rfl (by kernel_rfl) (fun _ _ _ h => h) (Or.inl ⟨by rfl, fun w' hs => ldRow 45 _ rfl (w.heap.size + 1) rfl 45 _ (0, 0) _ (blk_below NB4.out hs) hu45 rfl (by kernel_rfl)⟩) hHeld ?_ ?_
  rotate_left
  · simp only [Act.put, List.setIfInBounds_toArray, List.set_cons_zero, List.set_cons_succ, i64_w, i32_w]
    rfl
  refine join_ 3 #[true, true, true, true, true, true, false, false, false] (fun s : Value × Value × Value => [(21, s.1), (24, s.2.1), (26, s.2.2)]) (fun (s : Value × Value × Value) w' => ∃ Bs : Nat, s.2.2 = .slice (some ⟨Bs, 0, none⟩) 1 1 ∧ w'.heap[Bs]? = some (.cells ([.int .i64 nd.f0, .int .i64 nd.f1, .int .i64 nd.f2.f0, .int .i64 nd.f2.f1, .string nd.f2.f2, .string nd.f2.f3, .int .i64 nd.f2.f4, .slice A7 nd.f2.f5.length c7]).toArray 45 (0, 0)) ∧ Kd.R (kraw 8) 45 w' w4.heap.size (fun _ => True) s.2.1 raws ∧ Below w4.heap.size w4 w') ?_ (fun hJ => ?_)
  · rintro ⟨v0, v1, s1⟩ wj ⟨Bs, hs1, hbs, hR, hB⟩
    simp only at hs1 hR
    subst hs1
    have HBS := Aside0.mk hbs
    have HRJ := Aside0.mk hR
    have HBJ := Aside0.mk hB
    clear hbs hR hB
    refine norm_ (a' := ?_) ?_ ?_
    rotate_left
    · simp only [putAll, Act.put, List.setIfInBounds_toArray, List.set_cons_zero, List.set_cons_succ]
      rfl
    refine one_ (i := 6) (N := some 27) #[true, true, true, true, true, true, true, false, false] rfl rfl (by kernel_rfl) (by decide) (fun K hK => ?_)
    refine raw_append_step (sz := 8) (w0 := w4) w4.heap.size rfl _ _ 31 45 (.agg #[(.int .i64 0), (.int .i64 0), (.int .i64 0), (.int .i64 0), (.string ⟨#[]⟩), (.string ⟨#[]⟩), (.int .i64 0), (.slice none 0 0)]) 96 rfl Tryd.underlying31 info45 rfl (by decide) (by decide) v1 raws [[.int .i64 nd.f0, .int .i64 nd.f1, .int .i64 nd.f2.f0, .int .i64 nd.f2.f1, .string nd.f2.f2, .string nd.f2.f3, .int .i64 nd.f2.f4, .slice A7 nd.f2.f5.length c7]] (some ⟨Bs, 0, none⟩) 1 1 rfl rfl HRJ.out (C_raw_one rfl (ncl_one _ _ _) HBS.out) HBJ.out (HBJ.out).size (by have := HBY.out; have := HRL.out; omega) ?_
    intro v2 w6 hR2 hB2 _
    have HR2 := Aside0.mk hR2
    have HB6 := Aside0.mk hB2
    clear hR2 hB2
    refine hK.out _ _ HB6.out (fun _ => ?_)
    clear hK K
    refine norm_ (a' := ?_) ?_ ?_
    rotate_left
    · simp only [Act.put, List.setIfInBounds_toArray, List.set_cons_zero, List.set_cons_succ]
      rfl
    refine pure_ (i := 7) (N := some 28) (v := ?_) (a' := ?_) #[true, true, true, true, true, true, true, true, false] rfl rfl (by kernel_rfl) (fun _ _ _ h => h) (Or.inl ⟨by rfl, ?_⟩) ?_ ?_
    rotate_left
    · intro w'
      go_simp
      with_reducible rfl
    rotate_left
    · simp only [Act.put, List.setIfInBounds_toArray, List.set_cons_zero, List.set_cons_succ, i64_w, i32_w]
      rfl
    obtain ⟨A2, n2, hv2, _, _⟩ := Kd.R_reads HR2.out
    obtain ⟨m2, hlm⟩ : ∃ m2 : Nat, m2 = (raws ++ [([.int .i64 nd.f0, .int .i64 nd.f1, .int .i64 nd.f2.f0, .int .i64 nd.f2.f1, .string nd.f2.f2, .string nd.f2.f3, .int .i64 nd.f2.f4, .slice A7 nd.f2.f5.length c7] : List Value)]).length := ⟨_, rfl⟩
    rw [← hlm] at hv2
    have HLM := Aside0.mk hlm
    clear hlm
    have HV2 := Aside0.mk hv2
    have MB6 := Aside0.mk (blk_below MB4.out HB6.out)
    have HB6w := Aside0.mk (HB4.out.trans (HB6.out.mono HB4.out.size))
    have R7 := Aside0.mk (raw_keep HR2.out (fun k hk => set_other (w := w6) (g := Bm) (j := 17) (u := v2) (by have h1 := Kd.R_base HR2.out k hk; have h2 := blk_lt MB4.out; omega)))
    have HB7 := Aside0.mk (HB6w.out.setCell (p := ⟨Bm, 17, none⟩) (by simp only; omega) (v2))
    have CB7 := Aside0.mk ((set_other (w := w6) (g := Bm) (j := 17) (u := v2) (by omega)).trans (blk_below CB4.out HB6.out))
    have NB7 := Aside0.mk ((set_other (w := w6) (g := Bm) (j := 17) (u := v2) (by omega)).trans (blk_below NB4.out HB6.out))
    have MB7 := Aside0.mk (set_blk (j := 17) (u := v2) MB6.out)
    clear hv2
    have hv2 := HV2.out
    subst hv2
    refine last_ (i := 8) (N := none) #[true, true, true, true, true, true, true, true, true] rfl rfl (by kernel_rfl) (by decide) (fun K hK => ?_)
    rw [if_pos (by rfl)]
    have m0 : w6.cell? ⟨Bm, 17, none⟩ = some (.slice A c.f16.length n) := cell_of_blk MB6.out rfl
    have m1 : w6.frozen? ⟨Bm, 17, none⟩ = false := blk_frozen MB6.out 17
    go_simp
    clear m0 m1
    refine hK.out _ _ ?_
    clear hK K
    refine done_ (by kernel_rfl) ?_
    obtain ⟨_, hle2, hC2⟩ := Kd.R_reads' R7.out
    have hlm : m2 = (raws ++ [ncl nd A7 c7]).length := HLM.out
    have hsn := raws_snoc (d := k45) (w := w) (c := ncl nd A7 c7) (p := nd) HRL.out HRX.out (k45_mk w nd HNN.out HN.out)
    have hsl : (raws ++ [ncl nd A7 c7]).length = (withN c nd).f16.length := hsn.1
    have HM : Aside0 (Kd.C k45 _ A2 (withN c nd).f16.length (withN c nd).f16) := ⟨C_len (C_of_raw (d := k45) HB7.out hC2 hsn.1 hsn.2)⟩
    have hle3 : (withN c nd).f16.length ≤ n2 := by rw [← hsl, ← hlm]; exact hle2
    have HLE := Aside0.mk hle3
    have hm2 : ((cc c A n).setIfInBounds 17 (.slice A2 m2 n2)) = cc (withN c nd) A2 n2 := by rw [hlm, hsl]; rfl
    have hmb := MB7.out
    rw [hm2] at hmb
    have MB8 := Aside0.mk hmb
    
    clear hmb hm2 hsl hlm HLM hsn hC2 hle2 hle3 R7 MB7 HBS HRJ HBJ HR2 HB6w MB6 HRL HRX RAWC RAWB
    generalize (w6.setCell ⟨Bm, 17, none⟩ _) = w7 at HB7 CB7 NB7 MB8 HM ⊢
    clear HB6 MB4 CB4 NB4 HB4 HSTART
    obtain ⟨cm, hcm⟩ : ∃ cm, cm = withN c nd := ⟨_, rfl⟩
    rw [← hcm] at HM HLE MB8 HF HL
    clear hcm
    go_upto_region 5 with (fail)
    have RF := Aside0.mk (fewC cm A2 n2 docs A1 n1 w7 bf HM.out HLE.out (Kd.C_below HD.out HB7.out) HDN.out HF.out)
    have CB7' := Aside0.mk CB7.out
    have MB8' := Aside0.mk MB8.out
    unfold cc at RF MB8'
    unfold cc at CB7'
    cases bf with
    | false =>
      go_wp2_with (first | (refine wpList_load_row rfl 33 _ rfl Bm rfl 33 _ (0, 0) _ MB8'.out hu33 rfl (by kernel_rfl) ?_) | (go_at_call 14; refine RF.out.mono ?_; rintro e w8 ⟨rfl, hb8⟩))
      go_ret
      exact ⟨rfl, HB7.out.trans (hb8.mono HB7.out.size)⟩
    | true =>
      obtain ⟨hln, hrest⟩ := HL.out rfl
      have HLN := Aside0.mk hln
      have HREST := Aside0.mk hrest
      clear hln hrest HL
      have RA := Aside0.mk (fun w' (h : Below w7.heap.size w7 w') => askedC c A n nd.f0 w' (Kd.C_below HC.out (HB7.out.trans (h.mono HB7.out.size))) HCN.out HLN.out)
      unfold cc at RA
      have n0 : w7.cell? ⟨w.heap.size + 1, 0, none⟩ = some (.int .i64 nd.f0) := cell_of_blk NB7.out rfl
      cases hask : askedB c nd.f0 with
      | false =>
        rw [hask] at RA
        go_wp2_with (first | (refine wpList_load_row rfl 33 _ rfl Bm rfl 33 _ (0, 0) _ MB8'.out hu33 rfl (by kernel_rfl) ?_) | (go_at_call 14; refine RF.out.mono ?_; rintro e w8 ⟨rfl, hb8⟩; have HB8 := Aside0.mk hb8; have CB8' := Aside0.mk (blk_below CB7'.out hb8); have n1 := cell_keep hb8 n0; clear n0 hb8) | (refine wpList_load_rowG (by rfl) 33 _ rfl w.heap.size rfl 33 _ (0, 0) _ CB8'.out hu33 rfl (by kernel_rfl) ?_) | (go_at_call 15; refine (RA.out _ HB8.out).mono ?_; rintro e w9 ⟨rfl, hb9⟩))
        go_ret
        exact ⟨rfl, (HB7.out.trans (HB8.out.mono HB7.out.size)).trans (hb9.mono (Nat.le_trans HB7.out.size HB8.out.size))⟩
      | true =>
        rw [hask] at RA
        obtain ⟨ea, eb, hab, hba⟩ := HREST.out hask
        have EA := Aside0.mk ea
        have EB := Aside0.mk eb
        have HAB := Aside0.mk hab
        have HBA := Aside0.mk hba
        clear ea eb hab hba HREST hask
        go_upto_region 7 with (first | (refine wpList_load_row rfl 33 _ rfl Bm rfl 33 _ (0, 0) _ MB8'.out hu33 rfl (by kernel_rfl) ?_) | (go_at_call 14; refine RF.out.mono ?_; rintro e w8 ⟨rfl, hb8⟩; have HB8 := Aside0.mk hb8; have CB8' := Aside0.mk (blk_below CB7'.out hb8); have n1 := cell_keep hb8 n0; clear n0 hb8) | (refine wpList_load_rowG (by rfl) 33 _ rfl w.heap.size rfl 33 _ (0, 0) _ CB8'.out hu33 rfl (by kernel_rfl) ?_) | (go_at_call 15; refine (RA.out _ HB8.out).mono ?_; rintro e w9 ⟨rfl, hb9⟩))
        have HB9 := Aside0.mk ((HB7.out.trans (HB8.out.mono HB7.out.size)).trans (hb9.mono (Nat.le_trans HB7.out.size HB8.out.size)))
        have CB9 := Aside0.mk (blk_below (blk_below CB7.out HB8.out) hb9)
        have MB9 := Aside0.mk (blk_below (blk_below MB8.out HB8.out) hb9)
        have NB9 := Aside0.mk (blk_below (blk_below NB7.out HB8.out) hb9)
        have HM9 := Aside0.mk (Kd.C_below (Kd.C_below HM.out HB8.out) hb9)
        clear RA RF CB7 MB8 NB7 HM CB7' MB8' CB8' n1 hb9 HB8 HB7
    
        refine start_ (n := 10) (S := fun w' => w'.heap[w.heap.size]? = some (.cells (cc c A n) 33 (0, 0)) ∧ w'.heap[Bm]? = some (.cells (cc cm A2 n2) 33 (0, 0))) (ds := []) #[false, false, false, false, false, false, false, false, false, false] (by kernel_rfl) rfl rfl ⟨blk_drew CB9.out, blk_drew MB9.out⟩ (fun hHeld => ?_)
        have HBa := Aside0.mk (below_drew1 HB9.out)
        have CBa := Aside0.mk (blk_drew CB9.out)
        have MBa := Aside0.mk (blk_drew MB9.out)
        have NBa := Aside0.mk (blk_drew NB9.out)
        have HMa := Aside0.mk (Kd.C_drew HM9.out)
        clear HB9 CB9 MB9 NB9 HM9
        generalize w9.drew = wa at HBa CBa MBa NBa HMa hHeld ⊢
        refine pure_ (i := 1) (N := some 41) (v := ?_) (a' := ?_) #[false, true, false, false, false, false, false, false, false, false] rfl rfl (by kernel_rfl) (fun _ _ _ h => h) (Or.inl ⟨by rfl, ?_⟩) ?_ ?_
        rotate_left
        · intro w'
          go_simp
          with_reducible rfl
        rotate_left
        · simp only [Act.put, List.setIfInBounds_toArray, List.set_cons_zero, List.set_cons_succ, i64_w, i32_w]
          rfl
        refine pure_ (i := 2) (N := some 42) (v := ?_) (a' := ?_) #[false, true, true, false, false, false, false, false, false, false] rfl rfl (by kernel_rfl) (fun _ _ _ h => h) (Or.inl ⟨by rfl, ?_⟩) ?_ ?_
        rotate_left
        · intro w'
          go_simp
          with_reducible rfl
        rotate_left
        · simp only [Act.put, List.setIfInBounds_toArray, List.set_cons_zero, List.set_cons_succ, i64_w, i32_w]
          rfl
        refine pure_ (i := 5) (N := some 45) (v := ?_) (a' := ?_) #[false, true, true, false, false, true, false, false, false, false] rfl rfl (by kernel_rfl) (fun _ _ _ h => h) (Or.inl ⟨by rfl, ?_⟩) ?_ ?_
        rotate_left
        · intro w'
          go_simp
          with_reducible rfl
        rotate_left
        · simp only [Act.put, List.setIfInBounds_toArray, List.set_cons_zero, List.set_cons_succ, i64_w, i32_w]
          rfl
        refine pure_ (i := 6) (N := some 46) (v := ?_) (a' := ?_) #[false, true, true, false, false, true, true, false, false, false] rfl rfl (by kernel_rfl) (fun _ _ _ h => h) (Or.inl ⟨by rfl, ?_⟩) ?_ ?_
        rotate_left
        · intro w'
          go_simp
          with_reducible rfl
        rotate_left
        · simp only [Act.put, List.setIfInBounds_toArray, List.set_cons_zero, List.set_cons_succ, i64_w, i32_w]
          rfl
        refine take_ (i := 0) (N := some 40) (v := .agg (cc c A n)) (a' := ?_) #[true, true, true, false, false, true, true, false, false, false] rfl rfl (by kernel_rfl) (fun _ _ _ h => h) (Or.inl ⟨by rfl, fun w' hs => ldRow 33 _ rfl w.heap.size rfl 33 _ (0, 0) _ hs.1 hu33 rfl (by kernel_rfl)⟩) hHeld ?_ ?_
        rotate_left
        · simp only [Act.put, List.setIfInBounds_toArray, List.set_cons_zero, List.set_cons_succ, i64_w, i32_w]
          rfl
        refine take_ (i := 4) (N := some 44) (v := .agg (cc cm A2 n2)) (a' := ?_) #[true, true, true, false, true, true, true, false, false, false] rfl rfl (by kernel_rfl) (fun _ _ _ h => h) (Or.inl ⟨by rfl, fun w' hs => ldRow 33 _ rfl Bm rfl 33 _ (0, 0) _ hs.2 hu33 rfl (by kernel_rfl)⟩) hHeld ?_ ?_
        rotate_left
        · simp only [Act.put, List.setIfInBounds_toArray, List.set_cons_zero, List.set_cons_succ, i64_w, i32_w]
          rfl
        refine one_ (i := 3) (N := some 43) #[true, true, true, true, true, true, true, false, false, false] rfl rfl (by kernel_rfl) (by decide) (fun K hK => ?_)
        refine goes_ Tryd.func18 (by kernel_rfl) rfl #[.agg (cc c A n), .slice A1 docs.length n1, .int .i64 day] (by rfl) rfl rfl (by simp only [List.map_toArray, List.map_cons, List.map_nil]; rfl) ?_
        refine (examC c A n docs A1 n1 day a wa (Kd.C_below HC.out HBa.out) HCN.out (Kd.C_below HD.out HBa.out) HDN.out (Glob_below HG.out HBa.out) EA.out).mono ?_
        rintro e wb ⟨Aa, ca, rfl, hla, hRa, hbb⟩
        refine ⟨_, rfl, ?_⟩
        have HBb := Aside0.mk (HBa.out.trans (hbb.mono HBa.out.size))
        have CBb := Aside0.mk (blk_below CBa.out hbb)
        have MBb := Aside0.mk (blk_below MBa.out hbb)
        have NBb := Aside0.mk (blk_below NBa.out hbb)
        have HMb := Aside0.mk (Kd.C_below HMa.out hbb)
        have RA := Aside0.mk hRa
        clear hbb hRa hla HBa CBa MBa NBa HMa
        refine hK.out _ _ ⟨CBb.out, MBb.out⟩ (fun hHeld => ?_)
        clear hK K
        refine norm_ (a' := ?_) ?_ ?_
        rotate_left
        · show Act.put _ (some 43) _ = _
          simp only [Act.put, List.setIfInBounds_toArray, List.set_cons_zero, List.set_cons_succ, i64_w, i32_w]
          rfl
        refine one_ (i := 7) (N := some 47) #[true, true, true, true, true, true, true, true, false, false] rfl rfl (by kernel_rfl) (by decide) (fun K hK => ?_)
        refine goes_ Tryd.func18 (by kernel_rfl) rfl #[.agg (cc cm A2 n2), .slice A1 docs.length n1, .int .i64 day] (by rfl) rfl rfl (by simp only [List.map_toArray, List.map_cons, List.map_nil]; rfl) ?_
        refine (examC cm A2 n2 docs A1 n1 day b wb HMb.out HLE.out (Kd.C_below HD.out HBb.out) HDN.out (Glob_below HG.out HBb.out) EB.out).mono ?_
        rintro e wz ⟨Ab, cb, rfl, hlb, hRb, hbb⟩
        refine ⟨_, rfl, ?_⟩
        have HB4 := Aside0.mk (HBb.out.trans (hbb.mono HBb.out.size))
        have CBz := Aside0.mk (blk_below CBb.out hbb)
        have MBz := Aside0.mk (blk_below MBb.out hbb)
        have NB4 := Aside0.mk (blk_below NBb.out hbb)
        have RA4 := Aside0.mk (Kd.C_below RA.out hbb)
        have RB := Aside0.mk hRb
        clear hbb hRb hlb HBb CBb MBb NBb HMb RA
        refine hK.out _ _ ⟨CBz.out, MBz.out⟩ (fun hHeld => ?_)
        clear hK K
        refine norm_ (a' := ?_) ?_ ?_
        rotate_left
        · show Act.put _ (some 47) _ = _
          simp only [Act.put, List.setIfInBounds_toArray, List.set_cons_zero, List.set_cons_succ, i64_w, i32_w]
          rfl
        refine pure_ (i := 8) (N := some 10) (v := ?_) (a' := ?_) #[true, true, true, true, true, true, true, true, true, false] rfl rfl (by kernel_rfl) (fun _ _ _ h => h) (Or.inl ⟨by rfl, ?_⟩) ?_ ?_
        rotate_left
        · intro w'
          go_simp
          with_reducible rfl
        rotate_left
        · simp only [Act.put, List.setIfInBounds_toArray, List.set_cons_zero, List.set_cons_succ, i64_w, i32_w]
          rfl
        refine pure_ (i := 9) (N := some 11) (v := ?_) (a' := ?_) #[true, true, true, true, true, true, true, true, true, true] rfl rfl (by kernel_rfl) (fun _ _ _ h => h) (Or.inl ⟨by rfl, ?_⟩) ?_ ?_
        rotate_left
        · intro w'
          go_simp
          with_reducible rfl
        rotate_left
        · simp only [Act.put, List.setIfInBounds_toArray, List.set_cons_zero, List.set_cons_succ, i64_w, i32_w]
          rfl
        refine done_ (by kernel_rfl) ?_
        have hma : a.length ≤ 9223372036854775807 := RA4.out.2.1
        have hmb : b.length ≤ 9223372036854775807 := RB.out.2.1
        clear CBz MBz
        go_wp2
        go_loopw [12] (fun i wr => ∃ j : Nat, j ≤ a.length ∧ i = .int .i64 j ∧ Aside0 (Below w.heap.size w wr) ∧ Aside0 (Kd.C k25 wr Aa a.length a) ∧ Aside0 (Kd.C k25 wr Ab b.length b) ∧ Aside0 (wr.heap[w.heap.size + 1]? = some (.cells (nc nd A7 c7) 45 (0, 0)))) (fun i _ => a.length - (intOf i).toNat)
        case atStart => exact ⟨0, Nat.zero_le _, rfl, HB4, RA4, RB, NB4⟩
        case round =>
          obtain ⟨j, hj, rfl, HBr, RAr, RBr, NBr⟩ := hrel
          clear HB4 RA4 RB NB4
          by_cases hlt : j < a.length
          · go_wp2
            obtain ⟨wo, rfl⟩ : ∃ wo : World, wo = wr := ⟨_, rfl⟩
            go_loopw [13, 14] (fun f i wr => ∃ (q : Nat) (fb : Bool), q ≤ b.length ∧ i = .int .i64 q ∧ f = .bool fb ∧ Aside0 (fb = decide (a[j] ∈ b.take q)) ∧ Aside0 (Below w.heap.size w wr) ∧ Aside0 (Kd.C k25 wr Aa a.length a) ∧ Aside0 (Kd.C k25 wr Ab b.length b) ∧ Aside0 (wr.heap[w.heap.size + 1]? = some (.cells (nc nd A7 c7) 45 (0, 0)))) (fun _ i _ => b.length - (intOf i).toNat)
            case atStart => exact ⟨0, false, Nat.zero_le _, rfl, rfl, ⟨by simp⟩, HBr, RAr, RBr, NBr⟩
            case round =>
              obtain ⟨q, fb, hq, rfl, rfl, HFB, HBq, RAq, RBq, NBq⟩ := hrel
              by_cases hqt : q < b.length
              · obtain ⟨ad, e, p0, p1, p2, p3⟩ := at25 RAq.out hlt
                subst e
                obtain ⟨bd, e, q0, q1, q2, q3⟩ := at25 RBq.out hqt
                subst e
                have hE := eqB_is a[j] b[q]
                have HS := Aside0.mk (mem_take_succ8 a[j] hqt)
                obtain ⟨x, hx⟩ : ∃ x, x = a[j] := ⟨_, rfl⟩
                obtain ⟨y, hy⟩ : ∃ y, y = b[q] := ⟨_, rfl⟩
                rw [← hx] at p0 p1 p2 p3 hE HFB HS
                rw [← hy] at q0 q1 q2 q3 hE HS
                have HX := Aside0.mk hx
                clear hx hy
                obtain ⟨eb, heb⟩ : ∃ eb, eb = decide (x = y) := ⟨_, rfl⟩
                rw [← heb] at hE HS
                clear heb
                cases fb with
                | true =>
                  go_wp2
                  go_quiet (fail)
                  go_wp2
                  go_roundw
                  case rel => exact ⟨q + 1, true, by omega, by go_num, rfl, ⟨by rw [← HX.out, HS.out, ← HFB.out]; rfl⟩, ⟨pw_below_drewN HBq.out _⟩, ⟨Kd.C_drewN RAq.out _⟩, ⟨Kd.C_drewN RBq.out _⟩, ⟨NBq.out⟩⟩
                  case measure => simp [intOf]; omega
                | false =>
                  go_wp2
                  go_quiet (fail)
                  go_wp2
                  go_roundw
                  case rel => exact ⟨q + 1, eb, by omega, by go_num, rfl, ⟨by rw [← HX.out, HS.out, ← HFB.out]; rfl⟩, ⟨pw_below_drewN HBq.out _⟩, ⟨Kd.C_drewN RAq.out _⟩, ⟨Kd.C_drewN RBq.out _⟩, ⟨NBq.out⟩⟩
                  case measure => simp [intOf]; omega
              · have hqe : q = b.length := by omega
                subst hqe
                have hft : fb = true := by rw [HFB.out, List.take_length]; exact decide_eq_true (HAB.out _ (List.getElem_mem hlt))
                subst hft
                clear hqt HFB
                go_wp2
                go_roundw
                case rel => exact ⟨j + 1, by omega, by go_num, HBq, RAq, RBq, NBq⟩
                case measure => simp [intOf]; omega
          · have hje : j = a.length := by omega
            subst hje
            clear hlt hj HAB
            go_wp2
            go_loopw [15] (fun i wr => ∃ j : Nat, j ≤ b.length ∧ i = .int .i64 j ∧ Aside0 (Below w.heap.size w wr) ∧ Aside0 (Kd.C k25 wr Aa a.length a) ∧ Aside0 (Kd.C k25 wr Ab b.length b) ∧ Aside0 (wr.heap[w.heap.size + 1]? = some (.cells (nc nd A7 c7) 45 (0, 0)))) (fun i _ => b.length - (intOf i).toNat)
            case atStart => exact ⟨0, Nat.zero_le _, rfl, HBr, RAr, RBr, NBr⟩
            case round =>
              clear HBr RAr RBr NBr
              obtain ⟨j, hj, rfl, HBr, RAr, RBr, NBr⟩ := hrel
              by_cases hlt : j < b.length
              · obtain ⟨bd, e, q0, q1, q2, q3⟩ := at25 RBr.out hlt
                subst e
                obtain ⟨y, hy⟩ : ∃ y, y = b[j] := ⟨_, rfl⟩
                rw [← hy] at q0 q1 q2 q3
                have HY := Aside0.mk hy
                clear hy
                have n0 : wr.cell? ⟨w.heap.size + 1, 0, none⟩ = some (.int .i64 nd.f0) := cell_of_blk NBr.out rfl
                obtain ⟨kb, hkb⟩ : ∃ kb, kb = decide (y.f1 = nd.f0) := ⟨_, rfl⟩
                have HKB := Aside0.mk hkb
                have hE1 : (y.f1 == nd.f0) = kb := by rw [hkb]; rfl
                clear hkb
                go_wp2
                go_quiet (fail)
                go_wp2
                clear q0 q1 q2 q3 n0
                obtain ⟨wo, rfl⟩ : ∃ wo : World, wo = wr := ⟨_, rfl⟩
                go_loopw [16, 17] (fun f i wr => ∃ (q : Nat) (fb : Bool), q ≤ a.length ∧ i = .int .i64 q ∧ f = .bool fb ∧ Aside0 (fb = (kb || decide (y ∈ a.take q))) ∧ Aside0 (Below w.heap.size w wr) ∧ Aside0 (Kd.C k25 wr Aa a.length a) ∧ Aside0 (Kd.C k25 wr (some bd) b.length b) ∧ Aside0 (wr.heap[w.heap.size + 1]? = some (.cells (nc nd A7 c7) 45 (0, 0)))) (fun _ i _ => a.length - (intOf i).toNat)
                case atStart => exact ⟨0, kb, Nat.zero_le _, rfl, rfl, ⟨by simp⟩, ⟨pw_below_drewN HBr.out _⟩, ⟨Kd.C_drewN RAr.out _⟩, ⟨Kd.C_drewN RBr.out _⟩, ⟨NBr.out⟩⟩
                case round =>
                  obtain ⟨q, fb, hq, rfl, rfl, HFB, HBq, RAq, RBq, NBq⟩ := hrel
                  by_cases hqt : q < a.length
                  · obtain ⟨ad, e, p0, p1, p2, p3⟩ := at25 RAq.out hqt
                    subst e
                    obtain ⟨bd', e, q0, q1, q2, q3⟩ := at25 RBq.out hlt
                    obtain rfl : bd = bd' := by injection e
                    have hE := eqB_is a[q] b[j]
                    have HS := Aside0.mk (mem_take_succ8 y hqt)
                    obtain ⟨x, hx⟩ : ∃ x, x = a[q] := ⟨_, rfl⟩
                    rw [← hx] at p0 p1 p2 p3 hE HS
                    rw [← HY.out] at q0 q1 q2 q3 hE
                    obtain ⟨eb, heb⟩ : ∃ eb, eb = decide (x = y) := ⟨_, rfl⟩
                    have heb2 : decide (y = x) = eb := by rw [heb]; exact decide_eq_decide.2 ⟨Eq.symm, Eq.symm⟩
                    have HS2 := Aside0.mk HS.out
                    rw [heb2] at HS2
                    rw [← heb] at hE
                    clear heb heb2 HS hx
                    cases fb with
                    | true =>
                      go_wp2
                      go_quiet (fail)
                      go_wp2
                      go_roundw
                      case rel => exact ⟨q + 1, true, by omega, by go_num, rfl, ⟨by rw [HS2.out, ← Bool.or_assoc, ← HFB.out]; rfl⟩, ⟨pw_below_drewN HBq.out _⟩, ⟨Kd.C_drewN RAq.out _⟩, ⟨Kd.C_drewN RBq.out _⟩, ⟨NBq.out⟩⟩
                      case measure => simp [intOf]; omega
                    | false =>
                      go_wp2
                      go_quiet (fail)
                      go_wp2
                      go_roundw
                      case rel => exact ⟨q + 1, eb, by omega, by go_num, rfl, ⟨by rw [HS2.out, ← Bool.or_assoc, ← HFB.out]; rfl⟩, ⟨pw_below_drewN HBq.out _⟩, ⟨Kd.C_drewN RAq.out _⟩, ⟨Kd.C_drewN RBq.out _⟩, ⟨NBq.out⟩⟩
                      case measure => simp [intOf]; omega
                  · have hqe : q = a.length := by omega
                    subst hqe
                    have hft : fb = true := by
                      rw [HFB.out, List.take_length, HKB.out, HY.out, Bool.or_eq_true, decide_eq_true_iff, decide_eq_true_iff]
                      exact HBA.out _ (List.getElem_mem hlt)
                    subst hft
                    clear hqt HFB
                    go_wp2
                    go_roundw
                    case rel => exact ⟨j + 1, by omega, by go_num, HBq, RAq, RBq, NBq⟩
                    case measure => simp [intOf]; omega
              · go_wp2
                go_ret
                exact ⟨rfl, HBr.out⟩
  · have HB := Aside0.mk (HSTART.out)
    refine two_ (i := 0) (j := 5) (Ni := some 21) (Nj := some 26) #[true, true, true, false, true, false, false, false, false] #[false, true, true, false, true, true, false, false, false] rfl rfl rfl rfl (by kernel_rfl) (by decide) (by decide) (fun K hK => ?_) (fun K hK => ?_)
    · skip
      refine raw_lit_step (sz := 8) (w0 := w4) w4.heap.size 45 rfl rfl (xs := []) (inner := []) ?_ (Reps.none _ _) HB.out (HB.out).size (by decide) ?_
      · first | (go_simp; done) | (go_simp; rfl)
      intro b0 hb0 w1 hR0 _ hB0 hBB0
      have HR0 := Aside0.mk hR0
      have HB0 := Aside0.mk hB0
      have HBB0 := Aside0.mk hBB0
      have HE0 := Aside0.mk hb0
      clear hR0 hB0 hBB0 hb0
      refine hK.out _ _ HB0.out (fun _ => ?_)
      clear hK K
      refine norm_ (a' := ?_) ?_ ?_
      rotate_left
      · simp only [Act.put, List.setIfInBounds_toArray, List.set_cons_zero, List.set_cons_succ]
        rfl
      refine two_ (i := 3) (j := 5) (Ni := some 24) (Nj := some 26) #[true, true, true, true, true, false, false, false, false] #[true, true, true, false, true, true, false, false, false] rfl rfl rfl rfl (by kernel_rfl) (by decide) (by decide) (fun K hK => ?_) (fun K hK => ?_)
      · skip
        refine raw_append_step (sz := 8) (w0 := w4) w4.heap.size rfl _ _ 31 45 (.agg #[(.int .i64 0), (.int .i64 0), (.int .i64 0), (.int .i64 0), (.string ⟨#[]⟩), (.string ⟨#[]⟩), (.int .i64 0), (.slice none 0 0)]) 96 rfl Tryd.underlying31 info45 rfl (by decide) (by decide) (.slice (some ⟨b0, 0, none⟩) 0 0) [] raws A c.f16.length n rfl rfl HR0.out (Kd.C_below RAWC.out HB0.out) HB0.out (HB0.out).size (by simpa using RAWB.out) ?_
        intro v1 w2 hR2 hB2 hg2
        have HR2 := Aside0.mk hR2
        have HB2 := Aside0.mk hB2
        have HG2 := Aside0.mk hg2
        clear hR2 hB2 hg2
        refine hK.out _ _ HB2.out (fun _ => ?_)
        clear hK K
        refine norm_ (a' := ?_) ?_ ?_
        rotate_left
        · simp only [Act.put, List.setIfInBounds_toArray, List.set_cons_zero, List.set_cons_succ]
          rfl
        refine one_ (i := 5) (N := some 26) #[true, true, true, true, true, true, false, false, false] rfl rfl (by kernel_rfl) (by decide) (fun K hK => ?_)
        refine raw_lit_step (sz := 8) (w0 := w4) w4.heap.size 45 rfl rfl (xs := [[.int .i64 nd.f0, .int .i64 nd.f1, .int .i64 nd.f2.f0, .int .i64 nd.f2.f1, .string nd.f2.f2, .string nd.f2.f3, .int .i64 nd.f2.f4, .slice A7 nd.f2.f5.length c7]]) (inner := [.int .i64 nd.f0, .int .i64 nd.f1, .int .i64 nd.f2.f0, .int .i64 nd.f2.f1, .string nd.f2.f2, .string nd.f2.f3, .int .i64 nd.f2.f4, .slice A7 nd.f2.f5.length c7]) ?_ (reps_one rfl (ncl_one nd A7 c7)) HB2.out (HB2.out).size (by simp) ?_
        · first | (go_simp; done) | (go_simp; rfl)
        intro b1 hb1 w3 _ hC1 hB1 hBB1
        have HC1 := Aside0.mk hC1
        have HB1 := Aside0.mk hB1
        have HBB1 := Aside0.mk hBB1
        have HE1 := Aside0.mk hb1
        clear hC1 hB1 hBB1 hb1
        refine hK.out _ _ HB1.out (fun _ => ?_)
        clear hK K
        refine norm_ (a' := ?_) ?_ ?_
        rotate_left
        · simp only [Act.put, List.setIfInBounds_toArray, List.set_cons_zero, List.set_cons_succ]
          rfl
        refine norm_ ?_ (hJ (.slice (some ⟨b0, 0, none⟩) 0 0, v1, .slice (some ⟨b1, 0, none⟩) 1 1) w3 ⟨b1, rfl, HC1.out, by have := raw_below HR2.out HBB1.out; simpa using this, HB1.out⟩)
        first | rfl | (simp only [putAll, Act.put, List.setIfInBounds_toArray, List.set_cons_zero, List.set_cons_succ]; done) | (simp only [putAll, Act.put, List.setIfInBounds_toArray, List.set_cons_zero, List.set_cons_succ]; rfl)
      · skip
        refine raw_lit_step (sz := 8) (w0 := w4) w4.heap.size 45 rfl rfl (xs := [[.int .i64 nd.f0, .int .i64 nd.f1, .int .i64 nd.f2.f0, .int .i64 nd.f2.f1, .string nd.f2.f2, .string nd.f2.f3, .int .i64 nd.f2.f4, .slice A7 nd.f2.f5.length c7]]) (inner := [.int .i64 nd.f0, .int .i64 nd.f1, .int .i64 nd.f2.f0, .int .i64 nd.f2.f1, .string nd.f2.f2, .string nd.f2.f3, .int .i64 nd.f2.f4, .slice A7 nd.f2.f5.length c7]) ?_ (reps_one rfl (ncl_one nd A7 c7)) HB0.out (HB0.out).size (by simp) ?_
        · first | (go_simp; done) | (go_simp; rfl)
        intro b1 hb1 w2 _ hC1 hB1 hBB1
        have HC1 := Aside0.mk hC1
        have HB1 := Aside0.mk hB1
        have HBB1 := Aside0.mk hBB1
        have HE1 := Aside0.mk hb1
        clear hC1 hB1 hBB1 hb1
        refine hK.out _ _ HB1.out (fun _ => ?_)
        clear hK K
        refine norm_ (a' := ?_) ?_ ?_
        rotate_left
        · simp only [Act.put, List.setIfInBounds_toArray, List.set_cons_zero, List.set_cons_succ]
          rfl
        have HR1 := Aside0.mk (raw_below HR0.out HBB1.out)
        refine one_ (i := 3) (N := some 24) #[true, true, true, true, true, true, false, false, false] rfl rfl (by kernel_rfl) (by decide) (fun K hK => ?_)
        refine raw_append_step (sz := 8) (w0 := w4) w4.heap.size rfl _ _ 31 45 (.agg #[(.int .i64 0), (.int .i64 0), (.int .i64 0), (.int .i64 0), (.string ⟨#[]⟩), (.string ⟨#[]⟩), (.int .i64 0), (.slice none 0 0)]) 96 rfl Tryd.underlying31 info45 rfl (by decide) (by decide) (.slice (some ⟨b0, 0, none⟩) 0 0) [] raws A c.f16.length n rfl rfl HR1.out (Kd.C_below RAWC.out HB1.out) HB1.out (HB1.out).size (by simpa using RAWB.out) ?_
        intro v1 w3 hR2 hB2 hg2
        have HR2 := Aside0.mk hR2
        have HB2 := Aside0.mk hB2
        have HG2 := Aside0.mk hg2
        clear hR2 hB2 hg2
        refine hK.out _ _ HB2.out (fun _ => ?_)
        clear hK K
        refine norm_ (a' := ?_) ?_ ?_
        rotate_left
        · simp only [Act.put, List.setIfInBounds_toArray, List.set_cons_zero, List.set_cons_succ]
          rfl
        have HC2 := Aside0.mk ((HG2.out.block b1 (blk_lt HC1.out) (fun e => by have h1 := Kd.R_lt HR0.out b0 (by simp [Value.ownBlock]); have h2 := HE1.out; simp [Value.ownBlock] at e; omega)).trans HC1.out)
        refine norm_ ?_ (hJ (.slice (some ⟨b0, 0, none⟩) 0 0, v1, .slice (some ⟨b1, 0, none⟩) 1 1) w3 ⟨b1, rfl, HC2.out, by simpa using HR2.out, HB2.out⟩)
        first | rfl | (simp only [putAll, Act.put, List.setIfInBounds_toArray, List.set_cons_zero, List.set_cons_succ]; done) | (simp only [putAll, Act.put, List.setIfInBounds_toArray, List.set_cons_zero, List.set_cons_succ]; rfl)
    · skip
      refine raw_lit_step (sz := 8) (w0 := w4) w4.heap.size 45 rfl rfl (xs := [[.int .i64 nd.f0, .int .i64 nd.f1, .int .i64 nd.f2.f0, .int .i64 nd.f2.f1, .string nd.f2.f2, .string nd.f2.f3, .int .i64 nd.f2.f4, .slice A7 nd.f2.f5.length c7]]) (inner := [.int .i64 nd.f0, .int .i64 nd.f1, .int .i64 nd.f2.f0, .int .i64 nd.f2.f1, .string nd.f2.f2, .string nd.f2.f3, .int .i64 nd.f2.f4, .slice A7 nd.f2.f5.length c7]) ?_ (reps_one rfl (ncl_one nd A7 c7)) HB.out (HB.out).size (by simp) ?_
      · first | (go_simp; done) | (go_simp; rfl)
      intro b1 hb1 w1 _ hC1 hB1 hBB1
      have HC1 := Aside0.mk hC1
      have HB1 := Aside0.mk hB1
      have HBB1 := Aside0.mk hBB1
      have HE1 := Aside0.mk hb1
      clear hC1 hB1 hBB1 hb1
      refine hK.out _ _ HB1.out (fun _ => ?_)
      clear hK K
      refine norm_ (a' := ?_) ?_ ?_
      rotate_left
      · simp only [Act.put, List.setIfInBounds_toArray, List.set_cons_zero, List.set_cons_succ]
        rfl
      refine one_ (i := 0) (N := some 21) #[true, true, true, false, true, true, false, false, false] rfl rfl (by kernel_rfl) (by decide) (fun K hK => ?_)
      refine raw_lit_step (sz := 8) (w0 := w4) w4.heap.size 45 rfl rfl (xs := []) (inner := []) ?_ (Reps.none _ _) HB1.out (HB1.out).size (by decide) ?_
      · first | (go_simp; done) | (go_simp; rfl)
      intro b0 hb0 w2 hR0 _ hB0 hBB0
      have HR0 := Aside0.mk hR0
      have HB0 := Aside0.mk hB0
      have HBB0 := Aside0.mk hBB0
      have HE0 := Aside0.mk hb0
      clear hR0 hB0 hBB0 hb0
      refine hK.out _ _ HB0.out (fun _ => ?_)
      clear hK K
      refine norm_ (a' := ?_) ?_ ?_
      rotate_left
      · simp only [Act.put, List.setIfInBounds_toArray, List.set_cons_zero, List.set_cons_succ]
        rfl
      refine one_ (i := 3) (N := some 24) #[true, true, true, true, true, true, false, false, false] rfl rfl (by kernel_rfl) (by decide) (fun K hK => ?_)
      have HC0 := Aside0.mk (blk_below HC1.out HBB0.out)
      refine raw_append_step (sz := 8) (w0 := w4) w4.heap.size rfl _ _ 31 45 (.agg #[(.int .i64 0), (.int .i64 0), (.int .i64 0), (.int .i64 0), (.string ⟨#[]⟩), (.string ⟨#[]⟩), (.int .i64 0), (.slice none 0 0)]) 96 rfl Tryd.underlying31 info45 rfl (by decide) (by decide) (.slice (some ⟨b0, 0, none⟩) 0 0) [] raws A c.f16.length n rfl rfl HR0.out (Kd.C_below RAWC.out HB0.out) HB0.out (HB0.out).size (by simpa using RAWB.out) ?_
      intro v1 w3 hR2 hB2 hg2
      have HR2 := Aside0.mk hR2
      have HB2 := Aside0.mk hB2
      have HG2 := Aside0.mk hg2
      clear hR2 hB2 hg2
      refine hK.out _ _ HB2.out (fun _ => ?_)
      clear hK K
      refine norm_ (a' := ?_) ?_ ?_
      rotate_left
      · simp only [Act.put, List.setIfInBounds_toArray, List.set_cons_zero, List.set_cons_succ]
        rfl
      have HC2 := Aside0.mk ((HG2.out.block b1 (blk_lt HC0.out) (fun e => by have h1 := blk_lt HC1.out; have h2 := HE0.out; simp [Value.ownBlock] at e; omega)).trans HC0.out)
      refine norm_ ?_ (hJ (.slice (some ⟨b0, 0, none⟩) 0 0, v1, .slice (some ⟨b1, 0, none⟩) 1 1) w3 ⟨b1, rfl, HC2.out, by simpa using HR2.out, HB2.out⟩)
      first | rfl | (simp only [putAll, Act.put, List.setIfInBounds_toArray, List.set_cons_zero, List.set_cons_succ]; done) | (simp only [putAll, Act.put, List.setIfInBounds_toArray, List.set_cons_zero, List.set_cons_succ]; rfl)
end Go.Proofs.YtcibglpbfaffgaaDoor.X
