/- Examine: all faults, each once: the contract of the whole function, by what it makes of a credit, papers and a day. -/
import Derived.Test.YtcibglpbfaffgaaDoorGO
import Derived.Test.YtcibglpbfaffgaaDoorGI
import Derived.Test.YtcibglpbfaffgaaDoorGR
import Derived.Deep.DeepCutAuto
import Derived.Deep.CutBlock
namespace Go.Proofs.YtcibglpbfaffgaaDoor.X
open Go.RowKit Go.Proofs.YtcibglpbfaffgaaDoorW.PrintWords Go.Proofs.YtcibglpbfaffgaaDoorW.PrintLast Go.Proofs.YtcibglpbfaffgaaDoorW.PrintMore
set_option linter.unusedVariables false
set_option linter.unusedSimpArgs false

def nExpiry : ByteArray := ⟨#[101, 120, 112, 105, 114, 121]⟩
/-- How many papers of a kind there are. -/
def cnt (docs : List S37) (kd : Int) : Nat := (docs.filter fun d => decide (d.f0 = kd)).length
def expF (c : S33) (day : Int) : List S25 := if day > c.f11 then tellF [] ⟨-1, -1, nExpiry, 4⟩ else []
def needF (docs : List S37) : List S45 → List S25 → List S25
  | [], L => L
  | n :: ns, L => needF docs ns (if (cnt docs n.f0 : Int) < n.f1 then tellF L ⟨-1, n.f0, ⟨#[]⟩, 1⟩ else L)
/-- One paper's fields against those ahead. -/
def shareF (l : List S66) (a k : Int) : List ByteArray → List S25 × (ByteArray → Option ByteArray) → List S25 × (ByteArray → Option ByteArray)
  | [], s => s
  | n :: ns, s => shareF l a k ns (if (getOf l n).2 = false then s else match s.2 n with
      | none => (s.1, fun x => if x = n then some (getOf l n).1 else s.2 x)
      | some u => if (getOf l n).1.toList = u.toList then s else (tellF s.1 ⟨a, k, n, 3⟩, s.2))
def fixF (c : S33) (d : S37) (a day : Int) (L : List S25) : List S25 := if d.f0 = 0 then invF c d.f3 a d.f0 L else if d.f0 = 2 then tellF L ⟨a, d.f0, nIssued, ladWhy c d.f3 day⟩ else L
def askedB (c : S33) (kd : Int) : Bool := c.f16.any fun n => decide (n.f0 = kd)
def docF (k : Nat) (c : S33) (docs : List S37) (day : Int) : List S37 → Nat → List S25 × (ByteArray → Option ByteArray) → Option (List S25)
  | [], _, s => some s.1
  | d :: ds, at_, s => if askedB c d.f0 = true then (if s.1.length < 900000 then (ruledF k docs d at_ c.f16 (fixF c d at_ day s.1)).bind fun L => if L.length < 900000 then docF k c docs day ds (at_ + 1) (shareF d.f3 at_ d.f0 sharedNames (L, s.2)) else none else none) else docF k c docs day ds (at_ + 1) s
def wfI (x : Int) : Bool := (Lit.int .i64 x).wf
def okE (c : S33) (docs : List S37) : Bool := (docs.all fun d => wfI d.f0 && shortF d.f3) && ((c.f16.all fun n => wfI n.f0) && (decide (c.f16.length < 900000) && decide (docs.length < 900000)))
def exF (k : Nat) (c : S33) (docs : List S37) (day : Int) : Option (List S25) :=
  if okE c docs = true then docF k c docs day docs 0 (needF docs c.f16 (expF c day), fun _ => none) else none

theorem MapA_fr {α β : Type} {base : Nat} {w w' : World} {g M Mx n : Nat} {v v' : Value} {L : List S25} {k e : TypeId} {enc : α → Value} {venc : β → Value} {f : α → Option β} (hS : TS base w g M v L) (hF : Fr w w' g M v v') (hne : Mx ≠ M) (h : MapA w k e enc venc Mx n f) : MapA w' k e enc venc Mx n f := by
  have hlt := MapA_lt h
  refine MapA_move h (hF.block Mx hlt ?_ hne ?_)
  · rintro rfl
    obtain ⟨_, ⟨es, clock, hm, _⟩, _⟩ := h
    rw [hS.blk] at hm
    exact absurd hm (by simp)
  · intro e
    obtain ⟨_, ⟨es, clock, hm, _⟩, _⟩ := h
    obtain ⟨cs, hc⟩ := own_typed hS.own Mx e.symm
    rw [hc] at hm
    exact absurd hm (by simp)
theorem MapA_grown {α β : Type} {w w' : World} {Mx m n : Nat} {k e : TypeId} {enc : α → Value} {venc : β → Value} {f : α → Option β} (h : MapA w k e enc venc Mx n f) (hg : w.grownBy w' (some m)) (hne : Mx ≠ m) : MapA w' k e enc venc Mx n f :=
  MapA_move h (hg.block Mx (MapA_lt h) (fun e => hne (Option.some.inj e)))
theorem blk_map {α β : Type} {w w' : World} {m n : Nat} {k e : TypeId} {enc : α → Value} {venc : β → Value} {f : α → Option β} (hm : MapA w k e enc venc m n f) (hg : w.grownBy w' (some m)) {b : Nat} {cs : Array Value} {t : TypeId} (hb : w.heap[b]? = some (.cells cs t (0, 0))) : w'.heap[b]? = some (.cells cs t (0, 0)) := by
  refine (hg.block b (blk_lt hb) (fun e => ?_)).trans hb
  injection e with e
  subst e
  obtain ⟨_, ⟨es, clock, hm', _⟩, _⟩ := hm
  rw [hb] at hm'
  exact absurd hm' (by simp)
/-- What stands throughout: the state of the teller, what lay below, the credit's box. -/
structure EB (w0 w : World) (g M : Nat) (cb : Array Value) (v : Value) (L : List S25) : Prop where
  ts : TS w0.heap.size w g M v L
  below : Below w0.heap.size w0 w
  cb : w.heap[w0.heap.size]? = some (.cells cb 33 (0, 0))
theorem EB.step {w0 w w' : World} {g M : Nat} {cb : Array Value} {v : Value} {L : List S25} (h : EB w0 w g M cb v L) (hb : Below w.heap.size w w') : EB w0 w' g M cb v L :=
  ⟨h.ts.below hb, h.below.trans (hb.mono h.below.size), blk_below h.cb hb⟩
theorem EB.fr {w0 w w' : World} {g M : Nat} {cb : Array Value} {v v' : Value} {L L' : List S25} (h : EB w0 w g M cb v L) (hS : TS w0.heap.size w' g M v' L') (hF : Fr w w' g M v v') : EB w0 w' g M cb v' L' :=
  ⟨hS, h.below.trans (hF.base h.ts h.below.size), blk_fr h.ts hF h.cb (by decide) (by decide)⟩
theorem EB.grown {α β : Type} {w0 w w' : World} {g M m n : Nat} {cb : Array Value} {v : Value} {L : List S25} {k e : TypeId} {enc : α → Value} {venc : β → Value} {f : α → Option β} (h : EB w0 w g M cb v L) (hm : MapA w k e enc venc m n f) (hne : m ≠ M) (hbm : w0.heap.size ≤ m) (hg : w.grownBy w' (some m)) : EB w0 w' g M cb v L := by
  have hmap : ∀ b cs t, w.heap[b]? = some (.cells cs t (0, 0)) → b ≠ m := by
    rintro b cs t hb rfl
    obtain ⟨_, ⟨es, clock, hm', _⟩, _⟩ := hm
    rw [hb] at hm'
    exact absurd hm' (by simp)
  have same : ∀ b, b < w.heap.size → b ≠ m → w'.heap[b]? = w.heap[b]? := fun b hb hbm => hg.block b hb (fun e => hbm (Option.some.inj e))
  refine ⟨h.ts.move fun b hb => ?_, ⟨hg.os.trans h.below.os, hg.tape.trans h.below.tape, hg.output.trans h.below.output, Nat.le_trans h.below.size hg.size, fun b hb => ?_⟩, ?_⟩
  · obtain ⟨_, _, _, lM, lg, lr⟩ := h.ts.ne
    rcases hb with rfl | rfl | e
    · exact same _ lg (hmap _ _ _ h.ts.blk)
    · exact same _ lM (Ne.symm hne)
    · obtain ⟨cs, hc⟩ := own_typed h.ts.own b e.symm
      exact same _ (lr b e.symm).2 (hmap _ _ _ hc)
  · exact (same b (Nat.lt_of_lt_of_le hb h.below.size) (by omega)).trans (h.below.block b hb)
  · exact (same _ (blk_lt h.cb) (hmap _ _ _ h.cb)).trans h.cb

def encI (x : Int) : Value := .int .i64 x
theorem encI_inj : ∀ a b, encI a = encI b → a = b := fun a b h => by injection h
def encS (x : ByteArray) : Value := .string x
theorem encS_inj : ∀ a b, encS a = encS b → a = b := fun a b h => by injection h
def cntf (docs : List S37) (j : Nat) (x : Int) : Option Int := if cnt (docs.take j) x = 0 then none else some (cnt (docs.take j) x : Int)
theorem cnt_take {docs : List S37} {j : Nat} (h : j < docs.length) (x : Int) : cnt (docs.take (j + 1)) x = cnt (docs.take j) x + if docs[j].f0 = x then 1 else 0 := by
  unfold cnt
  rw [List.take_succ_eq_append_getElem h, List.filter_append, List.length_append]
  by_cases hx : docs[j].f0 = x <;> simp [List.filter_cons, hx]
theorem cnt_le (docs : List S37) (j : Nat) (x : Int) : cnt (docs.take j) x ≤ j := by
  unfold cnt
  exact Nat.le_trans (List.length_filter_le _ _) (List.length_take_le _ _)
theorem cntf_step {docs : List S37} {j : Nat} (h : j < docs.length) : (fun x => if x = docs[j].f0 then some ((cnt (docs.take j) docs[j].f0 : Int) + 1) else cntf docs j x) = cntf docs (j + 1) := by
  funext x
  unfold cntf
  rw [cnt_take h]
  by_cases hx : x = docs[j].f0
  · subst hx
    simp
  · have hx' : ¬ docs[j].f0 = x := fun e => hx e.symm
    simp [hx, hx']
theorem cntf_zero (docs : List S37) : cntf docs 0 = fun _ => none := by
  funext x; simp [cntf, cnt]
theorem cntf_val (docs : List S37) (j : Nat) (x : Int) : orZero encI (.int .i64 0) (cntf docs j x) = .int .i64 (cnt (docs.take j) x : Int) := by
  unfold cntf
  by_cases h : cnt (docs.take j) x = 0
  · rw [if_pos h, h]; rfl
  · rw [if_neg h]; rfl

def askf (l : List S45) (x : Int) : Option Bool := if (l.any fun n => decide (n.f0 = x)) = true then some true else none
theorem askf_step {l : List S45} {j : Nat} (h : j < l.length) : (fun x => if x = l[j].f0 then some true else askf (l.take j) x) = askf (l.take (j + 1)) := by
  funext x
  unfold askf
  rw [List.take_succ_eq_append_getElem h, List.any_append]
  by_cases hx : x = l[j].f0
  · subst hx; simp
  · have hx' : ¬ l[j].f0 = x := fun e => hx e.symm
    simp [hx, hx']
theorem askf_zero (l : List S45) : askf (l.take 0) = fun _ => none := by funext x; simp [askf]

set_option maxHeartbeats 16000000 in
set_option maxRecDepth 100000 in
theorem examine18 (k : Nat) (c : S33) (A : Option Addr) (n : Nat) (docs : List S37) (A1 : Option Addr) (n1 : Nat) (day : Int) (r : List S25) (w : World)
    (hC : Kd.C k45 w A c.f16.length c.f16) (hCn : c.f16.length ≤ n) (hD : Kd.C k37 w A1 docs.length docs) (hDn : docs.length ≤ n1) (hG : Glob w) (hr : exF k c docs day = some r) :
    Calls Tryd.prog 18 #[.agg (cc c A n), .slice A1 docs.length n1, .int .i64 day] w fun e w' => ∃ v0 : Value, e = .returned v0 ∧ w'.ownsRow w.heap.size 25 4 v0 r.length (r.flatMap c25) ∧ Below w.heap.size w w' := by
  have hu33 := Tryd.underlying33
  have hu70 := Tryd.underlying70
  have hu37 := Tryd.underlying37
  have hmm := @run_makeMap Tryd.prog
  have HHC := Aside0.mk hC
  have HHD := Aside0.mk hD
  have HG := Aside0.mk hG
  have HCN := Aside0.mk hCn
  have HDN := Aside0.mk hDn
  have hmx : docs.length ≤ 9223372036854775807 := hD.2.1
  have hmc : c.f16.length ≤ 9223372036854775807 := hC.2.1
  have hok : okE c docs = true := by
    cases h : okE c docs with
    | true => rfl
    | false => rw [exF, h, if_neg (by decide)] at hr; exact absurd hr (by simp)
  rw [exF, if_pos hok] at hr
  have HR := Aside0.mk hr
  simp only [okE, wfI, Bool.and_eq_true, List.all_eq_true, decide_eq_true_eq] at hok
  have HOK := Aside0.mk hok
  clear hr hok
  clear hC hCn hD hDn hG
  unfold cc
  go_enter Tryd.func18, Tryd.ntmps18
  go_upto_if 30 with (fail)
  go_cut [] (fun wx => ∃ v, Aside0 (EB w wx (w.heap.size + 1 + 1) (w.heap.size + 1) (cc c A n) v (expF c day)))
  case first =>
    have HE0 : Aside0 (EB w (((w.alloc (.cells (cc c A n) 33)).alloc (.map #[] 0)).alloc (.cells #[.slice none 0 0, .map (some (w.heap.size + 1))] 70)) (w.heap.size + 1 + 1) (w.heap.size + 1) (cc c A n) (.slice none 0 0) []) := by
      refine ⟨⟨⟨by omega, by omega, ?_, own_nil _ _ _ _, ?_⟩, below_alloc (below_alloc (below_alloc (Below.refl _ _) _) _) _, blk_alloc (blk_alloc (heap_alloc_new w _) _) _⟩⟩
      · have := heap_alloc_new ((w.alloc (.cells (cc c A n) 33)).alloc (.map #[] 0)) (.cells #[.slice none 0 0, .map (some (w.heap.size + 1))] 70)
        simpa using this
      · have := MapA_made (α := S25) (β := Bool) (w.alloc (.cells (cc c A n) 33)) 25 4 e25 Value.bool
        have h2 := MapA_below this (below_alloc (Below.refl _ _) (.cells #[.slice none 0 0, .map (some (w.heap.size + 1))] 70))
        have e : (w.alloc (.cells (cc c A n) 33)).heap.size = w.heap.size + 1 := by simp
        rw [e] at h2
        exact h2
    have HE0c := HE0
    unfold cc at HE0c
    by_cases k0 : day > c.f11
    · have k0b : decide (c.f11 < day) = true := decide_eq_true k0
      have FX := Aside0.mk (show expF c day = tellF [] ⟨-1, -1, nExpiry, 4⟩ from if_pos k0)
      go_wp2_with fail
      refine (of30 _ _ _ _).mono ?_
      rintro e w3 ⟨ba, bk, bt, rfl, f0, f1, f2, hb3⟩
      have HE1 := Aside0.mk (HE0.out.step hb3)
      have TT := Aside0.mk (tell41 (name := nExpiry) (y := 4) HE1.out.ts f0 f1 f2 (by decide) (by decide) (by decide) (by decide) (by decide))
      unfold nExpiry at TT
      clear f0 f1 f2 hb3
      go_wp2_with fail
      refine TT.out.mono ?_
      rintro e w4 ⟨rfl, v', hts, hfr⟩
      have HE2 := Aside0.mk (HE1.out.fr hts hfr)
      clear hts hfr
      go_wp2
      go_meet
      exact ⟨v', ⟨by rw [FX.out]; exact HE2.out⟩⟩
    · have k0b : decide (c.f11 < day) = false := decide_eq_false k0
      have FX := Aside0.mk (show expF c day = [] from if_neg k0)
      have k1 : day ≤ c.f11 := by omega
      go_wp2
      go_meet
      exact ⟨_, ⟨by rw [FX.out]; exact HE0.out⟩⟩
  case rest =>
    obtain ⟨v, HE⟩ := hcut
    go_wp2
    obtain ⟨Mc, hMc⟩ : ∃ Mc, Mc = wc.heap.size := ⟨_, rfl⟩
    have hMc1 : w.heap.size + 1 + 1 < Mc := by have := blk_lt HE.out.ts.blk; omega
    have hmap0 := MapA_made (α := Int) (β := Int) wc 3 3 encI encI
    have HE1 := Aside0.mk (HE.out.step (below_alloc (Below.refl wc.heap.size wc) (.map #[] 0)))
    rw [← hMc] at hmap0 ⊢
    have HM0 := Aside0.mk hmap0
    clear hmap0 hMc
    go_loopw [37] (fun i wr => ∃ j : Nat, j ≤ docs.length ∧ i = .int .i64 j ∧ Aside0 (EB w wr (w.heap.size + 1 + 1) (w.heap.size + 1) (cc c A n) v (expF c day)) ∧ Aside0 (MapA wr 3 3 encI encI Mc j (cntf docs j))) (fun i _ => docs.length - (intOf i).toNat)
    case atStart => exact ⟨0, Nat.zero_le _, rfl, HE1, by rw [cntf_zero]; exact HM0⟩
    case round =>
      obtain ⟨j, hj, rfl, HEr, HM⟩ := hrel
      by_cases hlt : j < docs.length
      · obtain ⟨ad, A3, c3, e, p0, p1, p2, p3, hl3, hc3⟩ := at_T37 HHD.out (j : Int) (by omega) (by omega)
        subst e
        replace p0 := cell_keep HEr.out.below p0
        replace p1 := cell_keep HEr.out.below p1
        replace p2 := cell_keep HEr.out.below p2
        replace p3 := cell_keep HEr.out.below p3
        rw [rd37 hlt] at p0 p1 p2 p3 hl3 hc3
        simp only [Int.toNat_natCast] at p0 p1 p2 p3
        have hwf := (HOK.out.1 docs[j] (List.getElem_mem hlt)).1
        have hstep := cntf_step hlt
        have hval := cntf_val docs j docs[j].f0
        have hle := cnt_le docs j docs[j].f0
        obtain ⟨dd, hdd⟩ : ∃ dd, dd = docs[j] := ⟨_, rfl⟩
        rw [← hdd] at p0 p1 p2 p3 hl3 hc3 hwf hstep hval hle
        obtain ⟨cn, hcn⟩ : ∃ cn : Int, cn = (cnt (docs.take j) dd.f0 : Int) := ⟨_, rfl⟩
        rw [← hcn] at hstep hval
        have hc0 : 0 ≤ cn := by omega
        have hc1 : cn ≤ (j : Int) := by omega
        have hkl := Maps.keyOf_int_mk Tryd.underlying3 hwf
        have hlk : ∀ o, (Instr.lookup 73 (.map (some Mc)) (.int .i64 dd.f0) false).run Tryd.prog (wr.alloc o) = .ok (.int .i64 cn) (wr.alloc o) := fun o => by
          have := MapA_look kv73 (MapA_below HM.out (below_alloc (Below.refl _ _) o)) (a := dd.f0) hkl
          rw [hval] at this
          exact this
        have HST := Aside0.mk hstep
        have HKL := Aside0.mk hkl
        clear hdd hcn hval hle hstep hwf hkl hl3 hc3
        go_wp2_with (at_mapUpdate; refine wpList_put _ rfl _ _ _ rfl kv73 encI_inj rfl (MapA_below HM.out (below_alloc (Below.refl _ _) _)) (by unfold maxLen; omega) dd.f0 (cn + 1) rfl (by first | rfl | simp [encI]) HKL.out (plainElem_int Tryd.underlying3 (WalkArith.wf_i64 (by omega))) ?_; intro w2 hm2 hg2; have HM2 := Aside0.mk hm2; have HG2 := Aside0.mk hg2; clear hm2 hg2)
        go_roundw
        case rel => exact ⟨j + 1, by omega, by go_num, ⟨(HEr.out.step (below_alloc (Below.refl _ _) _)).grown (MapA_below HM.out (below_alloc (Below.refl _ _) _)) (by omega) (by omega) HG2.out⟩, by rw [← HST.out]; exact HM2⟩
        case measure => simp [intOf]; omega
      · have hje : j = docs.length := by omega
        subst hje
        have HMC : Aside0 (MapA wr 3 3 encI encI Mc docs.length (cntf docs docs.length)) := HM
        clear hlt HE HM0 HE1
        have cb17 : wr.cell? ⟨w.heap.size, 17, none⟩ = some (.slice A c.f16.length n) := cell_of_blk HEr.out.cb rfl
        have cbn := fun o => cell_new wr o cb17 (cell_lt cb17).2
        go_wp2
        clear cb17 cbn
        obtain ⟨wo, rfl⟩ : ∃ wo : World, wo = wr := ⟨_, rfl⟩
        obtain ⟨Ma, hMa⟩ : ∃ Ma, Ma = wo.heap.size := ⟨_, rfl⟩
        have hMa1 : Mc < Ma := by have := MapA_lt HMC.out; omega
        have hmap0 := MapA_made (α := Int) (β := Bool) wo 3 4 encI Value.bool
        have HE2 := Aside0.mk (HEr.out.step (below_alloc (Below.refl wo.heap.size wo) (.map #[] 0)))
        have HMC2 := Aside0.mk (MapA_below HMC.out (below_alloc (Below.refl wo.heap.size wo) (.map #[] 0)))
        rw [← hMa] at hmap0 ⊢
        have HM0 := Aside0.mk hmap0
        clear hmap0 hMa HMC HEr HM hj
        go_loopw [51] (fun i wr => ∃ j : Nat, j ≤ c.f16.length ∧ i = .int .i64 j ∧ ∃ v1 L1, Aside0 (EB w wr (w.heap.size + 1 + 1) (w.heap.size + 1) (cc c A n) v1 L1) ∧ Aside0 (MapA wr 3 3 encI encI Mc docs.length (cntf docs docs.length)) ∧ Aside0 (MapA wr 3 4 encI Value.bool Ma j (askf (c.f16.take j))) ∧ Aside0 (needF docs (c.f16.drop j) L1 = needF docs c.f16 (expF c day)) ∧ Aside0 (L1.length ≤ j + 1)) (fun i _ => c.f16.length - (intOf i).toNat)
        case atStart => exact ⟨0, Nat.zero_le _, rfl, v, expF c day, HE2, HMC2, by rw [askf_zero]; exact HM0, ⟨rfl⟩, ⟨by unfold expF; split; exact (tellF_len [] _).2; exact Nat.zero_le _⟩⟩
        case round =>
          obtain ⟨j, hj, rfl, v1, L1, HEr, HMc, HMa, HF, HL⟩ := hrel
          by_cases hlt : j < c.f16.length
          · obtain ⟨ad, A7, c7, e, p0, p1, p2, p3, p4, p5, p6, p7, hl7, hc7⟩ := at_T45 HHC.out (j : Int) (by omega) (by omega)
            subst e
            replace p0 := cell_keep HEr.out.below p0
            replace p1 := cell_keep HEr.out.below p1
            replace p2 := cell_keep HEr.out.below p2
            replace p3 := cell_keep HEr.out.below p3
            replace p4 := cell_keep HEr.out.below p4
            replace p5 := cell_keep HEr.out.below p5
            replace p6 := cell_keep HEr.out.below p6
            replace p7 := cell_keep HEr.out.below p7
            rw [rd45 hlt] at p0 p1 p2 p3 p4 p5 p6 p7
            simp only [Int.toNat_natCast] at p0 p1 p2 p3 p4 p5 p6 p7
            have hwf := HOK.out.2.1 c.f16[j] (List.getElem_mem hlt)
            have hstep := askf_step hlt
            have hval := cntf_val docs docs.length c.f16[j].f0
            rw [List.take_length] at hval
            have hdrop : c.f16.drop j = c.f16[j] :: c.f16.drop (j + 1) := List.drop_eq_getElem_cons hlt
            have hneed : needF docs (c.f16.drop (j + 1)) (if (cnt docs c.f16[j].f0 : Int) < c.f16[j].f1 then tellF L1 ⟨-1, c.f16[j].f0, ⟨#[]⟩, 1⟩ else L1) = needF docs c.f16 (expF c day) := by
              rw [← HF.out, hdrop, needF]
            obtain ⟨nd, hnd⟩ : ∃ nd, nd = c.f16[j] := ⟨_, rfl⟩
            rw [← hnd] at p0 p1 p2 p3 p4 p5 p6 p7 hwf hstep hval hneed
            obtain ⟨cn, hcn⟩ : ∃ cn : Int, cn = (cnt docs nd.f0 : Int) := ⟨_, rfl⟩
            rw [← hcn] at hval hneed
            have hkl := Maps.keyOf_int_mk Tryd.underlying3 hwf
            have HST := Aside0.mk hstep
            have HKL := Aside0.mk hkl
            have HV := Aside0.mk hval
            have HND := Aside0.mk hneed
            have HWF := Aside0.mk hwf
            have hlen : L1.length < 1000000 := by have := HL.out; have := HOK.out.2.2.1; omega
            have HLEN := Aside0.mk hlen
            clear hnd hcn hval hstep hwf hkl hl7 hc7 hdrop hneed hlen
            by_cases hcmp : cn < nd.f1
            · have hcb : decide (cn < nd.f1) = true := decide_eq_true hcmp
              have HND2 := Aside0.mk HND.out
              rw [if_pos hcmp] at HND2
              go_wp2_with (first | (at_mapUpdate; refine wpList_put _ rfl _ _ _ rfl kv74 encI_inj rfl (MapA_below HMa.out (below_alloc (Below.refl _ _) _)) (by unfold maxLen; omega) nd.f0 true rfl rfl HKL.out (plainElem_bool Tryd.underlying4 true) ?_; intro w2 hm2 hg2; have HM2 := Aside0.mk hm2; have HG2 := Aside0.mk hg2; have q0 : w2.cell? ⟨wr.heap.size, 0, none⟩ = some (.int .i64 nd.f0) := cell_of_blk ((hg2.block wr.heap.size (by simp) (fun e => by have := MapA_lt HMa.out; injection e with e; omega)).trans (heap_alloc_new wr _)) rfl; have q1 : w2.cell? ⟨wr.heap.size, 1, none⟩ = some (.int .i64 nd.f1) := cell_of_blk ((hg2.block wr.heap.size (by simp) (fun e => by have := MapA_lt HMa.out; injection e with e; omega)).trans (heap_alloc_new wr _)) rfl; have HMc2 := Aside0.mk (MapA_grown (MapA_below HMc.out (below_alloc (Below.refl _ _) _)) hg2 (by omega)); have hlk : (Instr.lookup 73 (.map (some Mc)) (.int .i64 nd.f0) false).run Tryd.prog w2 = .ok (.int .i64 cn) w2 := (by have := MapA_look kv73 HMc2.out (a := nd.f0) HKL.out; rw [HV.out] at this; exact this); have HE2 := Aside0.mk ((HEr.out.step (below_alloc (Below.refl _ _) _)).grown (MapA_below HMa.out (below_alloc (Below.refl _ _) _)) (by omega) (by omega) hg2); clear hm2 hg2))
              refine (of30 _ _ _ _).mono ?_
              rintro e w3 ⟨ba, bk, bt, rfl, f0, f1, f2, hb3⟩
              have F0 := Aside0.mk f0
              have F1 := Aside0.mk f1
              have F2 := Aside0.mk f2
              have HB3 := Aside0.mk hb3
              clear f0 f1 f2 hb3
              go_wp2_with fail
              refine (tell41 (HE2.out.step HB3.out).ts F0.out F1.out F2.out (by decide) HWF.out (by decide) (by decide) HLEN.out).mono ?_
              rintro e w4 ⟨rfl, v', hts, hfr⟩
              have HTS := Aside0.mk hts
              have HFR := Aside0.mk hfr
              clear hts hfr
              go_wp2
              go_roundw
              case rel => exact ⟨j + 1, by omega, by go_num, v', _, ⟨(HE2.out.step HB3.out).fr HTS.out HFR.out⟩, ⟨MapA_fr (HE2.out.step HB3.out).ts HFR.out (by omega) (MapA_below HMc2.out HB3.out)⟩, ⟨MapA_fr (HE2.out.step HB3.out).ts HFR.out (by omega) (MapA_below (by rw [← HST.out]; exact HM2.out) HB3.out)⟩, HND2, ⟨Nat.le_trans (tellF_len _ _).2 (by have := HL.out; omega)⟩⟩
              case measure => simp [intOf]; omega
            · have hcb : decide (cn < nd.f1) = false := decide_eq_false hcmp
              have HND2 := Aside0.mk HND.out
              rw [if_neg hcmp] at HND2
              go_wp2_with (first | (at_mapUpdate; refine wpList_put _ rfl _ _ _ rfl kv74 encI_inj rfl (MapA_below HMa.out (below_alloc (Below.refl _ _) _)) (by unfold maxLen; omega) nd.f0 true rfl rfl HKL.out (plainElem_bool Tryd.underlying4 true) ?_; intro w2 hm2 hg2; have HM2 := Aside0.mk hm2; have HG2 := Aside0.mk hg2; have q0 : w2.cell? ⟨wr.heap.size, 0, none⟩ = some (.int .i64 nd.f0) := cell_of_blk ((hg2.block wr.heap.size (by simp) (fun e => by have := MapA_lt HMa.out; injection e with e; omega)).trans (heap_alloc_new wr _)) rfl; have q1 : w2.cell? ⟨wr.heap.size, 1, none⟩ = some (.int .i64 nd.f1) := cell_of_blk ((hg2.block wr.heap.size (by simp) (fun e => by have := MapA_lt HMa.out; injection e with e; omega)).trans (heap_alloc_new wr _)) rfl; have HMc2 := Aside0.mk (MapA_grown (MapA_below HMc.out (below_alloc (Below.refl _ _) _)) hg2 (by omega)); have hlk : (Instr.lookup 73 (.map (some Mc)) (.int .i64 nd.f0) false).run Tryd.prog w2 = .ok (.int .i64 cn) w2 := (by have := MapA_look kv73 HMc2.out (a := nd.f0) HKL.out; rw [HV.out] at this; exact this); have HE2 := Aside0.mk ((HEr.out.step (below_alloc (Below.refl _ _) _)).grown (MapA_below HMa.out (below_alloc (Below.refl _ _) _)) (by omega) (by omega) hg2); clear hm2 hg2))
              go_roundw
              case rel => exact ⟨j + 1, by omega, by go_num, v1, L1, HE2, HMc2, ⟨by rw [← HST.out]; exact HM2.out⟩, HND2, ⟨by have := HL.out; omega⟩⟩
              case measure => simp [intOf]; omega
          · have hje : j = c.f16.length := by omega
            subst hje
            have hL0 : L1 = needF docs c.f16 (expF c day) := by have := HF.out; rw [List.drop_length, needF] at this; exact this
            have HMA : Aside0 (MapA wr 3 4 encI Value.bool Ma c.f16.length (askf c.f16)) := ⟨by have := HMa.out; rwa [List.take_length] at this⟩
            rw [← hL0] at HR
            clear hlt HF HMa HMC2 HM0 HE2 hL0 HL hj HMc
            go_wp2
            obtain ⟨wo2, rfl⟩ : ∃ wo2 : World, wo2 = wr := ⟨_, rfl⟩
            obtain ⟨Mf, hMf⟩ : ∃ Mf, Mf = wo2.heap.size := ⟨_, rfl⟩
            have hMf1 : Ma < Mf := by have := MapA_lt HMA.out; omega
            have hmap0 := MapA_made (α := ByteArray) (β := ByteArray) wo2 9 9 encS encS
            have HE3 := Aside0.mk (HEr.out.step (below_alloc (Below.refl wo2.heap.size wo2) (.map #[] 0)))
            have HMA3 := Aside0.mk (MapA_below HMA.out (below_alloc (Below.refl wo2.heap.size wo2) (.map #[] 0)))
            rw [← hMf] at hmap0 ⊢
            have HMF := Aside0.mk hmap0
            clear hmap0 hMf HMA HEr
            go_loopw [74] (fun i wr => ∃ j : Nat, j ≤ docs.length ∧ i = .int .i64 j ∧ ∃ v1 L1 f1 q, Aside0 (EB w wr (w.heap.size + 1 + 1) (w.heap.size + 1) (cc c A n) v1 L1) ∧ Aside0 (MapA wr 3 4 encI Value.bool Ma c.f16.length (askf c.f16)) ∧ Aside0 (MapA wr 9 9 encS encS Mf q f1) ∧ Aside0 (q ≤ 6 * j) ∧ Aside0 (docF k c docs day (docs.drop j) j (L1, f1) = some r)) (fun i _ => docs.length - (intOf i).toNat)
            case atStart => exact ⟨0, Nat.zero_le _, rfl, v1, L1, _, 0, HE3, HMA3, HMF, ⟨Nat.zero_le _⟩, HR⟩
            case round =>
              obtain ⟨j, hj, rfl, v2, L2, f2, q, HEr, HMa, HMf, HQ, HDF⟩ := hrel
              by_cases hlt : j < docs.length
              · obtain ⟨ad, A3, c3, e, p0, p1, p2, p3, hl3, hc3⟩ := at_T37 HHD.out (j : Int) (by omega) (by omega)
                subst e
                replace p0 := cell_keep HEr.out.below p0
                replace p1 := cell_keep HEr.out.below p1
                replace p2 := cell_keep HEr.out.below p2
                replace p3 := cell_keep HEr.out.below p3
                rw [rd37 hlt] at p0 p1 p2 p3 hl3 hc3
                simp only [Int.toNat_natCast] at p0 p1 p2 p3
                have hwf := HOK.out.1 docs[j] (List.getElem_mem hlt)
                have hdrop : docs.drop j = docs[j] :: docs.drop (j + 1) := List.drop_eq_getElem_cons hlt
                have hdf := HDF.out
                rw [hdrop, docF] at hdf
                obtain ⟨dd, hdd⟩ : ∃ dd, dd = docs[j] := ⟨_, rfl⟩
                rw [← hdd] at p0 p1 p2 p3 hl3 hc3 hwf hdf
                have hkl := Maps.keyOf_int_mk Tryd.underlying3 hwf.1
                have hav : orZero Value.bool (.bool false) (askf c.f16 dd.f0) = .bool (askedB c dd.f0) := by
                  unfold askf askedB
                  cases c.f16.any fun n => decide (n.f0 = dd.f0) <;> rfl
                have hlk : ∀ o, (Instr.lookup 74 (.map (some Ma)) (.int .i64 dd.f0) false).run Tryd.prog (wr.alloc o) = .ok (.bool (askedB c dd.f0)) (wr.alloc o) := fun o => by
                  have := MapA_look kv74 (MapA_below HMa.out (below_alloc (Below.refl _ _) o)) (a := dd.f0) hkl
                  rw [hav] at this
                  exact this
                have HDF2 := Aside0.mk hdf
                have HL3 := Aside0.mk hl3
                have HC3 := Aside0.mk hc3
                have HWF := Aside0.mk hwf
                clear hdd hdrop hdf hl3 hc3 hwf hkl hav HDF
                cases hask : askedB c dd.f0 with
                | false =>
                  rw [hask] at hlk
                  have HDF3 := Aside0.mk HDF2.out
                  rw [if_neg (by rw [hask]; decide)] at HDF3
                  clear hask
                  go_wp2
                  go_roundw
                  case rel => exact ⟨j + 1, by omega, by go_num, v2, L2, f2, q, ⟨HEr.out.step (below_alloc (Below.refl _ _) _)⟩, ⟨MapA_below HMa.out (below_alloc (Below.refl _ _) _)⟩, ⟨MapA_below HMf.out (below_alloc (Below.refl _ _) _)⟩, ⟨by have := HQ.out; omega⟩, HDF3⟩
                  case measure => simp [intOf]; omega
                | true =>
                  rw [hask] at hlk
                  have hdf := HDF2.out
                  rw [if_pos hask] at hdf
                  have hl9 : L2.length < 900000 := by
                    by_cases h : L2.length < 900000
                    · exact h
                    · rw [if_neg h] at hdf; exact absurd hdf (by simp)
                  rw [if_pos hl9] at hdf
                  obtain ⟨L4, hru, hdf2⟩ := Option.bind_eq_some_iff.1 hdf
                  have hl9b : L4.length < 900000 := by
                    by_cases h : L4.length < 900000
                    · exact h
                    · rw [if_neg h] at hdf2; exact absurd hdf2 (by simp)
                  rw [if_pos hl9b] at hdf2
                  have HRU := Aside0.mk hru
                  have HDF3 := Aside0.mk hdf2
                  have HL9 := Aside0.mk hl9
                  have HL9b := Aside0.mk hl9b
                  have hjwf : (Lit.int .i64 (j : Int)).wf = true := WalkArith.wf_i64 (by omega)
                  have HJ := Aside0.mk hjwf
                  clear hdf hdf2 hl9 hl9b hru hask hjwf HDF2
                  go_upto_block 6 with (first | (go_at_call 30; refine (of30 _ _ _ _).mono ?_; rintro e w3 ⟨ba, bk, bt, rfl, f0, f1, f2, hb3⟩; have F0 := Aside0.mk f0; have F1 := Aside0.mk f1; have F2 := Aside0.mk f2; have HB3 := Aside0.mk ((below_alloc (Below.refl wr.heap.size wr) (.cells #[.int .i64 dd.f0, .string dd.f1, .string dd.f2, .slice A3 dd.f3.length c3] 37)).trans (hb3.mono (by simp))); have DB := Aside0.mk (blk_below (heap_alloc_new wr (.cells #[.int .i64 dd.f0, .string dd.f1, .string dd.f2, .slice A3 dd.f3.length c3] 37)) hb3); have q0 : w3.cell? ⟨wr.heap.size, 0, none⟩ = some (.int .i64 dd.f0) := cell_of_blk DB.out rfl; clear f0 f1 f2 hb3))
                  have HE3b := Aside0.mk (HEr.out.step HB3.out)
                  have HMa3 := Aside0.mk (MapA_below HMa.out HB3.out)
                  have HMf3 := Aside0.mk (MapA_below HMf.out HB3.out)
                  have HL66 := Aside0.mk (Nat.lt_trans HL9.out (by decide : (900000 : Nat) < 1000000))
                  go_cut [] (fun wx => ∃ v3, Aside0 (TS w.heap.size wx (w.heap.size + 1 + 1) (w.heap.size + 1) v3 (fixF c dd j day L2)) ∧ Aside0 (Fr w3 wx (w.heap.size + 1 + 1) (w.heap.size + 1) v2 v3))
                  case first =>
                    have CB3 := Aside0.mk HE3b.out.cb
                    have RI := Aside0.mk (invoice31 (w0 := w) c A n dd A3 c3 HE3b.out.below HG.out HE3b.out.ts F0.out F1.out F2.out HJ.out HWF.out.1 HL9.out HC3.out HL3.out HWF.out.2)
                    have RL := Aside0.mk (lading32 (w0 := w) c A n dd A3 c3 day HE3b.out.below HG.out HE3b.out.ts F0.out F1.out F2.out HJ.out HWF.out.1 HL66.out HC3.out HL3.out HWF.out.2)
                    unfold cc at CB3 RI RL
                    by_cases k0 : dd.f0 = 0
                    · have k0b : (dd.f0 == 0) = true := beq_iff_eq.2 k0
                      have FX := Aside0.mk (show fixF c dd j day L2 = invF c dd.f3 j dd.f0 L2 from if_pos k0)
                      clear k0
                      go_wp2_with (first | (refine wpList_load_row rfl 33 _ rfl w.heap.size rfl 33 _ (0, 0) _ CB3.out hu33 rfl (by kernel_rfl) ?_) | (refine wpList_load_row rfl 37 _ rfl wr.heap.size rfl 37 _ (0, 0) _ DB.out hu37 rfl (by kernel_rfl) ?_))
                      refine RI.out.mono ?_
                      rintro e w4 ⟨rfl, v4, hts, hfr⟩
                      have HTS := Aside0.mk hts
                      have HFR := Aside0.mk hfr
                      clear hts hfr
                      go_wp2
                      go_meet
                      exact ⟨v4, ⟨by rw [FX.out]; exact HTS.out⟩, HFR⟩
                    · have k0b : (dd.f0 == 0) = false := beq_eq_false_iff_ne.2 k0
                      by_cases k2 : dd.f0 = 2
                      · have k2b : (dd.f0 == 2) = true := beq_iff_eq.2 k2
                        have FX := Aside0.mk (show fixF c dd j day L2 = tellF L2 ⟨j, dd.f0, nIssued, ladWhy c dd.f3 day⟩ from (if_neg k0).trans (if_pos k2))
                        clear k0 k2
                        go_wp2_with (first | (refine wpList_load_row rfl 33 _ rfl w.heap.size rfl 33 _ (0, 0) _ CB3.out hu33 rfl (by kernel_rfl) ?_) | (refine wpList_load_row rfl 37 _ rfl wr.heap.size rfl 37 _ (0, 0) _ DB.out hu37 rfl (by kernel_rfl) ?_))
                        refine RL.out.mono ?_
                        rintro e w4 ⟨rfl, v4, hts, hfr⟩
                        have HTS := Aside0.mk hts
                        have HFR := Aside0.mk hfr
                        clear hts hfr
                        go_wp2
                        go_meet
                        exact ⟨v4, ⟨by rw [FX.out]; exact HTS.out⟩, HFR⟩
                      · have k2b : (dd.f0 == 2) = false := beq_eq_false_iff_ne.2 k2
                        have FX := Aside0.mk (show fixF c dd j day L2 = L2 from (if_neg k0).trans (if_neg k2))
                        clear k0 k2
                        go_wp2
                        go_meet
                        exact ⟨v2, ⟨by rw [FX.out]; exact HE3b.out.ts⟩, ⟨Fr.refl _ _ _ _⟩⟩
                  case rest =>
                    obtain ⟨v3, HTS, HFR⟩ := hcut
                    have HEx := Aside0.mk (HE3b.out.fr HTS.out HFR.out)
                    have CB := Aside0.mk HEx.out.cb
                    have DBx := Aside0.mk (blk_fr HE3b.out.ts HFR.out DB.out (by decide) (by decide))
                    have X0 := Aside0.mk (blk_fr HE3b.out.ts HFR.out F0.out (by decide) (by decide))
                    have X1 := Aside0.mk (blk_fr HE3b.out.ts HFR.out F1.out (by decide) (by decide))
                    have X2 := Aside0.mk (blk_fr HE3b.out.ts HFR.out F2.out (by decide) (by decide))
                    unfold cc at CB
                    go_wp2_with (first | (refine wpList_load_row rfl 33 _ rfl w.heap.size rfl 33 _ (0, 0) _ CB.out hu33 rfl (by kernel_rfl) ?_) | (refine wpList_load_row rfl 37 _ rfl wr.heap.size rfl 37 _ (0, 0) _ DBx.out hu37 rfl (by kernel_rfl) ?_))
                    have RR := Aside0.mk (ruled33 (w0 := w) k c A n docs _ n1 dd A3 c3 L4 HEx.out.below HG.out HEx.out.ts X0.out X1.out X2.out HJ.out HWF.out.1 HHC.out HCN.out HHD.out HDN.out HC3.out HL3.out HRU.out)
                    unfold cc at RR
                    refine RR.out.mono ?_
                    rintro e w5 ⟨rfl, v5, hts, hfr⟩
                    have HE5 := Aside0.mk (HEx.out.fr hts hfr)
                    have HMa5 := Aside0.mk (MapA_fr HEx.out.ts hfr (by omega) (MapA_fr HE3b.out.ts HFR.out (by omega) HMa3.out))
                    have HMf5 := Aside0.mk (MapA_fr HEx.out.ts hfr (by omega) (MapA_fr HE3b.out.ts HFR.out (by omega) HMf3.out))
                    have D5 := Aside0.mk (blk_fr HEx.out.ts hfr DBx.out (by decide) (by decide))
                    have Y0 := Aside0.mk (blk_fr HEx.out.ts hfr X0.out (by decide) (by decide))
                    have Y1 := Aside0.mk (blk_fr HEx.out.ts hfr X1.out (by decide) (by decide))
                    have Y2 := Aside0.mk (blk_fr HEx.out.ts hfr X2.out (by decide) (by decide))
                    obtain ⟨sb, so, sc, hs0, hsc⟩ := HG.out.shared
                    have sg := cell_keep HE5.out.below hs0
                    obtain ⟨sa, hsa⟩ : ∃ sa : Addr, sa = ⟨sb, so, none⟩ := ⟨_, rfl⟩
                    rw [← hsa] at sg
                    have HSC : Aside0 (∀ i s, sharedNames[i]? = some s → w.cell? (sa.add i) = some (.string s)) := ⟨fun i s h => by
                      rw [hsa]
                      have := hsc i s h
                      unfold Addr.add
                      by_cases hi : i = 0
                      · subst hi; simpa using this
                      · rw [if_neg hi]; exact this⟩
                    clear hts hfr hs0 hsc hsa RR CB DBx X0 X1 X2 HEx HFR HTS HE3b HMa3 HMf3 HRU q0
                    go_wp2
                    clear sg
                    obtain ⟨wo3, rfl⟩ : ∃ wo3 : World, wo3 = wr := ⟨_, rfl⟩
                    go_loopw [111] (fun i wr => ∃ p : Nat, p ≤ 6 ∧ i = .int .i64 p ∧ ∃ v6 L6 f6 m, Aside0 (EB w wr (w.heap.size + 1 + 1) (w.heap.size + 1) (cc c A n) v6 L6) ∧ Aside0 (MapA wr 3 4 encI Value.bool Ma c.f16.length (askf c.f16)) ∧ Aside0 (MapA wr 9 9 encS encS Mf m f6) ∧ Aside0 (m ≤ q + p) ∧ Aside0 (shareF dd.f3 j dd.f0 (sharedNames.drop p) (L6, f6) = shareF dd.f3 j dd.f0 sharedNames (L4, f2)) ∧ Aside0 (L6.length ≤ L4.length + p) ∧ Aside0 (wr.heap[wo3.heap.size]? = some (.cells #[.int .i64 dd.f0, .string dd.f1, .string dd.f2, .slice A3 dd.f3.length c3] 37 (0, 0))) ∧ Aside0 (wr.heap[ba]? = some (.cells #[.int .i64 (j : Int)] 3 (0, 0))) ∧ Aside0 (wr.heap[bk]? = some (.cells #[.int .i64 dd.f0] 3 (0, 0))) ∧ Aside0 (wr.heap[bt]? = some (.cells #[.pointer (some ⟨w.heap.size + 1 + 1, 0, none⟩)] 67 (0, 0)))) (fun i _ => 6 - (intOf i).toNat)
                    case atStart => exact ⟨0, Nat.zero_le _, rfl, v5, L4, f2, q, HE5, HMa5, HMf5, ⟨Nat.le_refl _⟩, ⟨rfl⟩, ⟨Nat.le_refl _⟩, D5, Y0, Y1, Y2⟩
                    case round =>
                      obtain ⟨p, hp, rfl, v6, L6, f6, m, HE6, HMa6, HMf6, HM6, HSF, HL6, D6, Z0, Z1, Z2⟩ := hrel
                      by_cases hpl : p < 6
                      · have hpn : p < sharedNames.length := hpl
                        obtain ⟨nm, hnm⟩ : ∃ nm, nm = sharedNames[p] := ⟨_, rfl⟩
                        have hdrop : sharedNames.drop p = nm :: sharedNames.drop (p + 1) := by rw [hnm]; exact List.drop_eq_getElem_cons hpn
                        have hns : nm.size ≤ maxLen := by
                          rw [hnm]
                          have hall : (sharedNames.all fun s => decide (s.size ≤ maxLen)) = true := by decide
                          exact of_decide_eq_true (List.all_eq_true.1 hall _ (List.getElem_mem hpn))
                        have s0 : wr.cell? (sa.add p) = some (.string nm) := cell_keep HE6.out.below (HSC.out p nm (by rw [hnm]; exact List.getElem?_eq_getElem hpn))
                        have d3 : wr.cell? ⟨wo3.heap.size, 3, none⟩ = some (.slice A3 dd.f3.length c3) := cell_of_blk D6.out rfl
                        have hsf := HSF.out
                        rw [hdrop, shareF] at hsf
                        obtain ⟨gv, gi, hg⟩ : ∃ gv gi, getOf dd.f3 nm = (gv, gi) := ⟨_, _, rfl⟩
                        have hsz := short_get HWF.out.2 nm
                        rw [hg] at hsf hsz
                        simp only at hsf hsz
                        have CG := Aside0.mk (field_Get.calls A3 c3 dd.f3 nm gv gi wr (Kd.C_below HC3.out HE6.out.below) HL3.out (by rw [field_Get.f, hg]))
                        have hkn := Go.WideMaps.keyOf_string_mk Tryd.underlying9 hns
                        have HKN := Aside0.mk hkn
                        have HNS := Aside0.mk hns
                        have HSZ := Aside0.mk hsz
                        have HLT := Aside0.mk (show L6.length < 1000000 from by have := HL6.out; have := HL9b.out; omega)
                        clear hnm hdrop hg hkn hns hsz HSF hpn
                        cases gi with
                        | false =>
                          rw [if_pos rfl] at hsf
                          have HSF2 := Aside0.mk hsf
                          clear hsf
                          go_wp2_with fail
                          refine CG.out.mono ?_
                          rintro e w7 ⟨rfl, hb7⟩
                          have HB7 := Aside0.mk hb7
                          clear hb7
                          go_wp2
                          go_roundw
                          case rel => exact ⟨p + 1, by omega, by go_num, v6, L6, f6, m, ⟨HE6.out.step HB7.out⟩, ⟨MapA_below HMa6.out HB7.out⟩, ⟨MapA_below HMf6.out HB7.out⟩, ⟨by have := HM6.out; omega⟩, HSF2, ⟨by have := HL6.out; omega⟩, ⟨blk_below D6.out HB7.out⟩, ⟨blk_below Z0.out HB7.out⟩, ⟨blk_below Z1.out HB7.out⟩, ⟨blk_below Z2.out HB7.out⟩⟩
                          case measure => simp [intOf]; omega
                        | true =>
                          rw [if_neg (by decide)] at hsf
                          cases hff : f6 nm with
                          | none =>
                            rw [hff] at hsf
                            simp only at hsf
                            have HSF2 := Aside0.mk hsf
                            clear hsf
                            go_wp2_with fail
                            refine CG.out.mono ?_
                            rintro e w7 ⟨rfl, hb7⟩
                            have HB7 := Aside0.mk hb7
                            clear hb7
                            have hlf : (Instr.lookup 75 (.map (some Mf)) (.string nm) true).run Tryd.prog w7 = .ok (.tuple #[orZero encS (.string ByteArray.empty) none, .bool false]) w7 := by
                              have := MapA_lookOk kv75 (MapA_below HMf6.out HB7.out) (a := nm) HKN.out
                              rw [hff] at this
                              exact this
                            clear hff
                            simp only [orZero] at hlf
                            go_wp2_with (first | (at_mapUpdate; refine wpList_put _ rfl _ _ _ rfl kv75 encS_inj rfl (MapA_below HMf6.out HB7.out) (by have := HM6.out; have := HQ.out; have := HOK.out.2.2.2; unfold maxLen; omega) nm gv rfl rfl HKN.out (plainElem_string Tryd.underlying9 (by have := HSZ.out; unfold lim48 at this; unfold maxLen; omega)) ?_; intro w8 hm8 hg8; have HM8 := Aside0.mk hm8; have HG8 := Aside0.mk hg8; clear hm8 hg8))
                            go_roundw
                            case rel => exact ⟨p + 1, by omega, by go_num, v6, L6, _, m + 1, ⟨(HE6.out.step HB7.out).grown (MapA_below HMf6.out HB7.out) (by omega) (by omega) HG8.out⟩, ⟨MapA_grown (MapA_below HMa6.out HB7.out) HG8.out (by omega)⟩, HM8, ⟨by have := HM6.out; omega⟩, HSF2, ⟨by have := HL6.out; omega⟩, ⟨blk_map (MapA_below HMf6.out HB7.out) HG8.out (blk_below D6.out HB7.out)⟩, ⟨blk_map (MapA_below HMf6.out HB7.out) HG8.out (blk_below Z0.out HB7.out)⟩, ⟨blk_map (MapA_below HMf6.out HB7.out) HG8.out (blk_below Z1.out HB7.out)⟩, ⟨blk_map (MapA_below HMf6.out HB7.out) HG8.out (blk_below Z2.out HB7.out)⟩⟩
                            case measure => simp [intOf]; omega
                          | some u =>
                            rw [hff] at hsf
                            simp only at hsf
                            by_cases he : gv.toList = u.toList
                            · have heb : (gv.toList == u.toList) = true := beq_iff_eq.2 he
                              rw [if_pos he] at hsf
                              have HSF2 := Aside0.mk hsf
                              clear hsf he
                              go_wp2_with fail
                              refine CG.out.mono ?_
                              rintro e w7 ⟨rfl, hb7⟩
                              have HB7 := Aside0.mk hb7
                              clear hb7
                              have hlf : (Instr.lookup 75 (.map (some Mf)) (.string nm) true).run Tryd.prog w7 = .ok (.tuple #[.string u, .bool true]) w7 := by
                                have := MapA_lookOk kv75 (MapA_below HMf6.out HB7.out) (a := nm) HKN.out
                                rw [hff] at this
                                exact this
                              clear hff
                              go_wp2
                              go_roundw
                              case rel => exact ⟨p + 1, by omega, by go_num, v6, L6, f6, m, ⟨HE6.out.step HB7.out⟩, ⟨MapA_below HMa6.out HB7.out⟩, ⟨MapA_below HMf6.out HB7.out⟩, ⟨by have := HM6.out; omega⟩, HSF2, ⟨by have := HL6.out; omega⟩, ⟨blk_below D6.out HB7.out⟩, ⟨blk_below Z0.out HB7.out⟩, ⟨blk_below Z1.out HB7.out⟩, ⟨blk_below Z2.out HB7.out⟩⟩
                              case measure => simp [intOf]; omega
                            · have heb : (gv.toList == u.toList) = false := beq_eq_false_iff_ne.2 he
                              rw [if_neg he] at hsf
                              have HSF2 := Aside0.mk hsf
                              clear hsf he
                              go_wp2_with fail
                              refine CG.out.mono ?_
                              rintro e w7 ⟨rfl, hb7⟩
                              have HB7 := Aside0.mk hb7
                              clear hb7
                              have hlf : (Instr.lookup 75 (.map (some Mf)) (.string nm) true).run Tryd.prog w7 = .ok (.tuple #[.string u, .bool true]) w7 := by
                                have := MapA_lookOk kv75 (MapA_below HMf6.out HB7.out) (a := nm) HKN.out
                                rw [hff] at this
                                exact this
                              clear hff
                              go_wp2_with fail
                              refine (tell41 (HE6.out.step HB7.out).ts (blk_below Z0.out HB7.out) (blk_below Z1.out HB7.out) (blk_below Z2.out HB7.out) HJ.out HWF.out.1 (by decide) HNS.out HLT.out).mono ?_
                              rintro e w8 ⟨rfl, v8, hts, hfr⟩
                              have HTS8 := Aside0.mk hts
                              have HFR8 := Aside0.mk hfr
                              clear hts hfr
                              go_wp2
                              go_roundw
                              case rel => exact ⟨p + 1, by omega, by go_num, v8, _, f6, m, ⟨(HE6.out.step HB7.out).fr HTS8.out HFR8.out⟩, ⟨MapA_fr (HE6.out.step HB7.out).ts HFR8.out (by omega) (MapA_below HMa6.out HB7.out)⟩, ⟨MapA_fr (HE6.out.step HB7.out).ts HFR8.out (by omega) (MapA_below HMf6.out HB7.out)⟩, ⟨by have := HM6.out; omega⟩, HSF2, ⟨Nat.le_trans (tellF_len _ _).2 (by have := HL6.out; omega)⟩, ⟨blk_fr (HE6.out.step HB7.out).ts HFR8.out (blk_below D6.out HB7.out) (by decide) (by decide)⟩, ⟨blk_fr (HE6.out.step HB7.out).ts HFR8.out (blk_below Z0.out HB7.out) (by decide) (by decide)⟩, ⟨blk_fr (HE6.out.step HB7.out).ts HFR8.out (blk_below Z1.out HB7.out) (by decide) (by decide)⟩, ⟨blk_fr (HE6.out.step HB7.out).ts HFR8.out (blk_below Z2.out HB7.out) (by decide) (by decide)⟩⟩
                              case measure => simp [intOf]; omega
                      · have hpe : p = 6 := by omega
                        have hsf : (L6, f6) = shareF dd.f3 j dd.f0 sharedNames (L4, f2) := by
                          rw [← HSF.out, hpe]
                          rfl
                        have HDF4 := HDF3
                        rw [← hsf] at HDF4
                        clear hsf hpe
                        go_wp2
                        go_roundw
                        case rel => exact ⟨j + 1, by omega, by go_num, v6, L6, f6, m, HE6, HMa6, HMf6, ⟨by have := HM6.out; have := HQ.out; omega⟩, HDF4⟩
                        case measure => simp [intOf]; omega
              · have hje : j = docs.length := by omega
                subst hje
                have hL0 : L2 = r := by have := HDF.out; rw [List.drop_length, docF] at this; exact Option.some.inj this
                have HL0 := Aside0.mk hL0
                have g0 : wr.cell? ⟨w.heap.size + 1 + 1, 0, none⟩ = some v2 := cell_of_blk HEr.out.ts.blk rfl
                clear hlt hL0
                go_wp2
                go_ret
                exact ⟨_, rfl, by rw [← HL0.out]; exact HEr.out.ts.own, HEr.out.below⟩
end Go.Proofs.YtcibglpbfaffgaaDoor.X
