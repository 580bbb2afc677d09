/- What a teller does: each fault once, never what is fine; the state behind it, and what it leaves alone. -/
import Derived.Test.YtcibglpbfaffgaaDoorG2
import Derived.Test.YtcibglpbfaffgaaDoorG0
import Derived.Deep.RegionLaw
import Derived.StillTailTactics
import Derived.Deep.RegionHeld3
import Derived.Deep.AppendLies
namespace Go.Proofs.YtcibglpbfaffgaaDoor.X
open Go.RowKit Go.Proofs.YtcibglpbfaffgaaDoorW.PrintWords Go.Proofs.YtcibglpbfaffgaaDoorW.PrintLast Go.Proofs.YtcibglpbfaffgaaDoorW.PrintMore
set_option linter.unusedVariables false

def e25 (x : S25) : Value := .agg #[.int .i64 x.f0, .int .i64 x.f1, .string x.f2, .int .i64 x.f3]
def c25 (x : S25) : List Value := [.int .i64 x.f0, .int .i64 x.f1, .string x.f2, .int .i64 x.f3]


/-- The state behind a 'told': its block g; the faults' row v, which tells L; the map M of what is told. -/
structure TS (base : Nat) (w : World) (g M : Nat) (v : Value) (L : List S25) : Prop where
  gb : base ≤ g
  Mb : base ≤ M
  blk : w.heap[g]? = some (.cells #[v, .map (some M)] 70 (0, 0))
  own : w.ownsRow base 25 4 v L.length (L.flatMap c25)
  seen : MapA w 25 4 e25 Value.bool M L.length (fun x => if x ∈ L then some true else none)
/-- What a tell leaves alone. -/
structure Fr (w w' : World) (g M : Nat) (v v' : Value) : Prop where
  os : w'.os = w.os
  tape : w'.tape = w.tape
  output : w'.output = w.output
  size : w.heap.size ≤ w'.heap.size
  block : ∀ b, b < w.heap.size → b ≠ g → b ≠ M → some b ≠ v.ownBlock → w'.heap[b]? = w.heap[b]?
  row : ∀ k, v'.ownBlock = some k → v.ownBlock = some k ∨ w.heap.size ≤ k

theorem wp_still_tail' {P : Program} {id : Nat} {Q : Exit → Act → World → Prop} {a : Act} {w : World} {l : List Oper} (n : Nat) (hm : P.follows .mixedOrders = true) (hB : Region.lexTailB .any l.toArray n = true)
    (h : wpStill P l.toArray w.drew (fun a' => wpList P l.toArray Q (l.drop n) a' w.drew) (l.take n) a) : (Code.region id l.toArray true).wp P Q a w :=
  wp_region_still_tail n hm hB h
theorem wpList_put {α β : Type} [DecidableEq α] {k e t : TypeId} {zero : Value} {enc : α → Value} {venc : β → Value} {M n : Nat} {f : α → Option β} (w : World) {ops : Array Oper} {rest : List Oper} {o : Oper} {a : Act} {Q : Exit → Act → World → Prop}
    (hg : o.guard = none) (m x v : Operand) (hop : o.op = Op.mapUpdate t m x v) (K : KV k e t zero) (hinj : ∀ a b, enc a = enc b → a = b)
    (hm : a.eval m = .map (some M)) (h : MapA w k e enc venc M n f) (hn : n < maxLen) (A : α) (B : β) {kl : Lit} {d : DataW Unit} (hx : a.eval x = enc A) (hv : a.eval v = venc B)
    (hk : keyOf Tryd.prog k (enc A) = some kl) (hd : plainElem Tryd.prog e (venc B) = some (d, []))
    (hK : ∀ w', MapA w' k e enc venc M (n + 1) (fun x => if x = A then some B else f x) → w.grownBy w' (some M) → wpList Tryd.prog ops Q rest (a.put o.dst undef) w') :
    wpList Tryd.prog ops Q (o :: rest) a w := by
  refine wpList_plain hg fun K' hK' => ?_
  obtain ⟨w', hrun, r1, r2⟩ := MapA_put K hinj h hn hk hd
  unfold Oper.wp
  simp [execOp, hop, hm, hx, hv, hrun, Result.andThen]
  exact hK' _ _ (hK w' r1 r2)
theorem e25_inj : ∀ a b : S25, e25 a = e25 b → a = b := by
  rintro ⟨a0, a1, a2, a3⟩ ⟨b0, b1, b2, b3⟩ h
  simp [e25] at h
  obtain ⟨rfl, rfl, rfl, rfl⟩ := h
  rfl
theorem cell_of_blk {w : World} {b j : Nat} {cs : Array Value} {t : TypeId} {u : Value} (h : w.heap[b]? = some (.cells cs t (0, 0))) (hj : cs[j]? = some u) : w.cell? ⟨b, j, none⟩ = some u := by
  unfold World.cell?
  rw [h]
  simpa using hj

theorem Fr.refl (w : World) (g M : Nat) (v : Value) : Fr w w g M v v := ⟨rfl, rfl, rfl, Nat.le_refl _, fun _ _ _ _ _ => rfl, fun k h => .inl h⟩
theorem Fr.trans {w w1 w2 : World} {g M : Nat} {v v1 v2 : Value} (h : Fr w w1 g M v v1) (h' : Fr w1 w2 g M v1 v2) : Fr w w2 g M v v2 := by
  refine ⟨h'.os.trans h.os, h'.tape.trans h.tape, h'.output.trans h.output, Nat.le_trans h.size h'.size, fun b hb hg hM hv => ?_, fun k hk => ?_⟩
  · rw [h'.block b (Nat.lt_of_lt_of_le hb h.size) hg hM ?_]
    · exact h.block b hb hg hM hv
    · intro e
      rcases h.row b e.symm with h1 | h1
      · exact hv h1.symm
      · omega
  · rcases h'.row k hk with h1 | h1
    · exact h.row k h1
    · exact .inr (Nat.le_trans h.size h1)
/-- What only makes new memory. -/
theorem Fr.of_below {w w' : World} (h : Below w.heap.size w w') (g M : Nat) (v : Value) : Fr w w' g M v v :=
  ⟨h.os, h.tape, h.output, h.size, fun b hb _ _ _ => h.block b hb, fun k hk => .inl hk⟩
theorem TS.ne {base : Nat} {w : World} {g M : Nat} {v : Value} {L : List S25} (h : TS base w g M v L) : g ≠ M ∧ some g ≠ v.ownBlock ∧ some M ≠ v.ownBlock ∧ M < w.heap.size ∧ g < w.heap.size ∧ ∀ k, v.ownBlock = some k → base ≤ k ∧ k < w.heap.size := by
  have hM := MapA_lt h.seen
  obtain ⟨_, ⟨es, clock, hm, _⟩, _⟩ := h.seen
  refine ⟨?_, ?_, ?_, hM, blk_lt h.blk, fun k hk => ⟨own_base h.own k hk, own_lt h.own k hk⟩⟩
  · rintro rfl
    rw [h.blk] at hm
    exact absurd hm (by simp)
  · intro e
    obtain ⟨cs, hc⟩ := own_typed h.own g e.symm
    rw [h.blk] at hc
    injection hc with hc
    injection hc with _ hc
    exact absurd hc (by decide)
  · intro e
    obtain ⟨cs, hc⟩ := own_typed h.own M e.symm
    rw [hc] at hm
    exact absurd hm (by simp)
/-- Another world in which the three blocks stand as they did. -/
theorem TS.move {base : Nat} {w w' : World} {g M : Nat} {v : Value} {L : List S25} (h : TS base w g M v L) (hb : ∀ b, b = g ∨ b = M ∨ some b = v.ownBlock → w'.heap[b]? = w.heap[b]?) : TS base w' g M v L :=
  ⟨h.gb, h.Mb, (hb g (.inl rfl)).trans h.blk, own_move h.own (fun k hk => hb k (.inr (.inr hk.symm))), MapA_move h.seen (hb M (.inr (.inl rfl)))⟩
theorem TS.below {base : Nat} {w w' : World} {g M : Nat} {v : Value} {L : List S25} (h : TS base w g M v L) (hb : Below w.heap.size w w') : TS base w' g M v L := by
  obtain ⟨_, _, _, hM, hg, hr⟩ := h.ne
  refine h.move fun b hbb => hb.block b ?_
  rcases hbb with rfl | rfl | e
  · exact hg
  · exact hM
  · exact (hr b e.symm).2
/-- What lay below the call's own memory is as it was. -/
theorem Fr.base {base : Nat} {w w' : World} {g M : Nat} {v v' : Value} {L : List S25} (h : Fr w w' g M v v') (hS : TS base w g M v L) (hb : base ≤ w.heap.size) : Below base w w' :=
  ⟨h.os, h.tape, h.output, h.size, fun b hbb => h.block b (by omega) (by have := hS.gb; omega) (by have := hS.Mb; omega) (fun e => by have := (hS.ne.2.2.2.2.2 b e.symm).1; omega)⟩

theorem tell_end {base g M gg cap : Nat} {v : Value} {L : List S25} {x : S25} {w w1 w2 w2a w3 w4 : World} (hS : TS base w g M v L) (h1 : Below w.heap.size w w1) (hg2 : w1.grownBy w2 (some M))
    (hseen : MapA w2 25 4 e25 Value.bool M (L.length + 1) (fun y => if y = x then some true else if y ∈ L then some true else none)) (h2a : Below w2.heap.size w2 w2a) (hg3 : w2a.grownBy w3 v.ownBlock)
    (hown : w3.ownsRow base 25 4 (.slice (some ⟨gg, 0, none⟩) (L.length + 1) cap) (L.length + 1) (L.flatMap c25 ++ c25 x)) (hat : v.ownBlock = some gg ∨ w.heap.size ≤ gg)
    (h4 : Below w3.heap.size (w3.setCell ⟨g, 0, none⟩ (.slice (some ⟨gg, 0, none⟩) (L.length + 1) cap)) w4) :
    TS base w4 g M (.slice (some ⟨gg, 0, none⟩) (L.length + 1) cap) (L ++ [x]) ∧ Fr w w4 g M v (.slice (some ⟨gg, 0, none⟩) (L.length + 1) cap) := by
  obtain ⟨n1, n2, n3, lM, lg, lr⟩ := hS.ne
  have s1 := h1.size
  have s2 := hg2.size
  have s2a := h2a.size
  have s3 := hg3.size
  have s4 := h4.size
  have z4 : (w3.setCell ⟨g, 0, none⟩ (.slice (some ⟨gg, 0, none⟩) (L.length + 1) cap)).heap.size = w3.heap.size := by simp [World.setCell]
  rw [z4] at s4
  have B2 : ∀ b, b < w.heap.size → b ≠ M → w2.heap[b]? = w.heap[b]? := fun b hb hM => (hg2.block b (by omega) (fun e => hM (Option.some.inj e))).trans (h1.block b hb)
  have B3 : ∀ b, b < w2.heap.size → some b ≠ v.ownBlock → w3.heap[b]? = w2.heap[b]? := fun b hb hv => (hg3.block b (by omega) hv).trans (h2a.block b hb)
  have B4 : ∀ b, b < w3.heap.size → b ≠ g → w4.heap[b]? = w3.heap[b]? := fun b hb hg => (h4.block b (by omega)).trans (Below.heap_setCell _ _ _ _ hg)
  have hg3b : w3.heap[g]? = some (.cells #[v, .map (some M)] 70 (0, 0)) := ((B3 g (by omega) n2).trans (B2 g lg n1)).trans hS.blk
  have hgg : gg ≠ g := by
    rintro rfl
    obtain ⟨cs, hc⟩ := own_typed hown gg (by simp [Value.ownBlock])
    rw [hg3b] at hc
    injection hc with hc
    injection hc with _ hc
    exact absurd hc (by decide)
  have lgg : gg < w3.heap.size := own_lt hown gg (by simp [Value.ownBlock])
  have hlen : (L ++ [x]).length = L.length + 1 := by simp
  refine ⟨⟨hS.gb, hS.Mb, ?_, ?_, ?_⟩, ⟨?_, ?_, ?_, by omega, ?_, ?_⟩⟩
  · rw [h4.block g (by omega)]
    exact blk_set hg3b 0 _
  · rw [hlen, List.flatMap_append]
    have e : (L.flatMap c25 ++ [x].flatMap c25) = L.flatMap c25 ++ c25 x := by simp
    rw [e]
    refine own_move hown fun k hk => ?_
    have : gg = k := by simpa [Value.ownBlock] using hk
    subst this
    exact B4 gg lgg hgg
  · rw [hlen]
    have e : (fun y => if y ∈ L ++ [x] then some true else none) = (fun y => if y = x then some true else if y ∈ L then some true else none) := by
      funext y
      by_cases h1 : y = x
      · simp [h1]
      · simp [h1]
    rw [e]
    exact MapA_move hseen ((B4 M (by omega) (Ne.symm n1)).trans (B3 M (by omega) n3))
  · rw [h4.os]; exact (hg3.os.trans h2a.os).trans (hg2.os.trans h1.os)
  · rw [h4.tape]; exact (hg3.tape.trans h2a.tape).trans (hg2.tape.trans h1.tape)
  · rw [h4.output]; exact (hg3.output.trans h2a.output).trans (hg2.output.trans h1.output)
  · intro b hb hg hM hv
    exact ((B4 b (by omega) hg).trans (B3 b (by omega) hv)).trans (B2 b hb hM)
  · intro k hk
    have : gg = k := by simpa [Value.ownBlock] using hk
    subst this
    exact hat

set_option maxHeartbeats 8000000 in
set_option maxRecDepth 100000 in
theorem tell41c (base ba bk bt g M : Nat) (v : Value) (L : List S25) (name : ByteArray) (a k y : Int) (w : World) (hS : TS base w g M v L)
    (h0 : w.heap[ba]? = some (.cells #[.int .i64 a] 3 (0, 0))) (h1 : w.heap[bk]? = some (.cells #[.int .i64 k] 3 (0, 0))) (h2 : w.heap[bt]? = some (.cells #[.pointer (some ⟨g, 0, none⟩)] 67 (0, 0)))
    (hy : y ≠ 0) (hn : (⟨a, k, name, y⟩ : S25) ∉ L) (ha : (Lit.int .i64 a).wf = true) (hk : (Lit.int .i64 k).wf = true) (hyw : (Lit.int .i64 y).wf = true) (hs : name.size ≤ maxLen) (hlen : L.length < 1000000) :
    Calls Tryd.prog 41 #[.string name, .int .i64 y, .pointer (some ⟨ba, 0, none⟩), .pointer (some ⟨bk, 0, none⟩), .pointer (some ⟨bt, 0, none⟩)] w fun e w' => e = .returned (.tuple #[]) ∧ ∃ v', TS base w' g M v' (L ++ [⟨a, k, name, y⟩]) ∧ Fr w w' g M v v' := by
  have hu25 := Tryd.underlying25
  have hu70 := Tryd.underlying70
  have c0 : w.cell? ⟨ba, 0, none⟩ = some (.int .i64 a) := cell_of_blk h0 rfl
  have c1 : w.cell? ⟨bk, 0, none⟩ = some (.int .i64 k) := cell_of_blk h1 rfl
  have c2 : w.cell? ⟨bt, 0, none⟩ = some (.pointer (some ⟨g, 0, none⟩)) := cell_of_blk h2 rfl
  have c3 : w.cell? ⟨g, 1, none⟩ = some (.map (some M)) := cell_of_blk hS.blk rfl
  have hyb : (y != 0) = true := by simpa using hy
  have l0 := (cell_lt c0).2
  have l1 := (cell_lt c1).2
  have l2 := (cell_lt c2).2
  have l3 := (cell_lt c3).2
  have d2 := fun o => cell_new w o c2 l2
  have d3 := fun o => cell_new w o c3 l3
  obtain ⟨kl, hkl⟩ := key25 ha hk hyw hs
  obtain ⟨i0, hi0, hz0, hz1, hz2⟩ := info_parts info25
  have hlk : ∀ o nq, (Instr.lookup 68 (.map (some M)) (.agg #[.int .i64 a, .int .i64 k, .string name, .int .i64 y]) false).run Tryd.prog ((w.alloc o).drewN nq) = .ok (.bool false) ((w.alloc o).drewN nq) := fun o nq => by
    have hm : MapA ((w.alloc o).drewN nq) 25 4 e25 Value.bool M L.length (fun x => if x ∈ L then some true else none) := MapA_below hS.seen (pw_below_drewN ((Below.refl _ _).alloc (Nat.le_refl _) o) nq)
    have := MapA_look kv68 hm (a := (⟨a, k, name, y⟩ : S25)) hkl
    rw [if_neg hn] at this
    exact this
  have HS := Aside0.mk hS
  have H2 := Aside0.mk h2
  clear hS h0 h1 h2 hy hn
  go_enter Tryd.func41, Tryd.ntmps41
  go_wp2
  go_quiet (fail)
  go_wp2
  go_outline
  refine wp_still_tail' 5 (by kernel_rfl) (by kernel_rfl) ?_
  simp only [List.take_succ_cons, List.take_zero, List.drop_succ_cons, List.drop_zero]
  repeat still_step
  refine wpStill_nil ?_
  refine wpList_put _ rfl _ _ _ rfl kv68 e25_inj rfl (MapA_below HS.out.seen (below_drew1 (pw_below_drewN ((Below.refl _ _).alloc (Nat.le_refl _) _) _))) (by unfold maxLen; omega) (⟨a, k, name, y⟩ : S25) true rfl rfl hkl (plainElem_bool Tryd.underlying4 true) ?_
  intro w2 hseen hg2
  have HG2 := Aside0.mk hg2
  have HSEEN := Aside0.mk hseen
  clear hg2 hseen
  have hsz : w.heap.size + 1 ≤ w2.heap.size := by have := HG2.out.size; simpa using this
  have e2 : ∀ (b : Nat) (cs : Array Value) (t : TypeId), w.heap[b]? = some (Obj.cells cs t (0, 0)) → w2.heap[b]? = some (Obj.cells cs t (0, 0)) := fun b cs t hb => (HG2.out.block b (by simp; have := blk_lt hb; omega) (by
      intro e
      injection e with e
      subst e
      obtain ⟨_, ⟨_, _, hm, _⟩, _⟩ := HS.out.seen
      rw [hb] at hm
      exact absurd hm (by simp))).trans (blk_alloc hb _)
  have hM : M < w.heap.size := MapA_lt HS.out.seen
  have HF : Aside0 (w2.heap[w.heap.size]? = some (Obj.cells #[.int .i64 a, .int .i64 k, .string name, .int .i64 y] 25 (0, 0))) := ⟨(HG2.out.block w.heap.size (by simp) (by simp; omega)).trans (heap_alloc_new w _)⟩
  have g2 : w2.cell? ⟨bt, 0, none⟩ = some (.pointer (some ⟨g, 0, none⟩)) := cell_of_blk (e2 _ _ _ H2.out) rfl
  have g0 : w2.cell? ⟨g, 0, none⟩ = some v := cell_of_blk (e2 _ _ _ HS.out.blk) rfl
  have gff : w2.frozen? ⟨g, 0, none⟩ = false := blk_frozen (e2 _ _ _ HS.out.blk) 0
  have gf0 : w2.cell? ⟨w.heap.size, 0, none⟩ = some (.int .i64 a) := cell_of_blk HF.out rfl
  have gf1 : w2.cell? ⟨w.heap.size, 1, none⟩ = some (.int .i64 k) := cell_of_blk HF.out rfl
  have gf2 : w2.cell? ⟨w.heap.size, 2, none⟩ = some (.string name) := cell_of_blk HF.out rfl
  have gf3 : w2.cell? ⟨w.heap.size, 3, none⟩ = some (.int .i64 y) := cell_of_blk HF.out rfl
  have HOWN : Aside0 (w2.ownsRow base 25 4 v L.length (L.flatMap c25)) := ⟨own_move HS.out.own (fun q hq => by
    obtain ⟨n1, n2, n3, lM, lg, lr⟩ := HS.out.ne
    have lq := (lr q hq).2
    exact (HG2.out.block q (by simp; omega) (fun e => n3 (by rw [← e, hq]))).trans (Below.heap_alloc _ _ _ lq))⟩
  have hbs : base ≤ w2.heap.size := by have := HS.out.gb; omega
  have ng : v.ownBlock ≠ some g := fun e => by
    obtain ⟨cs, hc⟩ := own_typed HS.out.own g e
    rw [HS.out.blk] at hc
    injection hc with hc
    injection hc with _ hc
    exact absurd hc (by decide)
  have nb : v.ownBlock ≠ some bt := fun e => by
    obtain ⟨cs, hc⟩ := own_typed HS.out.own bt e
    rw [H2.out] at hc
    injection hc with hc
    injection hc with _ hc
    exact absurd hc (by decide)
  have nf : v.ownBlock ≠ some w.heap.size := fun e => by have := own_lt HS.out.own _ e; omega
  have E2 := Aside0.mk e2
  have gfa : ∀ o : Obj, (w2.alloc o).frozen? ⟨g, 0, none⟩ = false := fun o => blk_frozen (blk_alloc (e2 _ _ _ HS.out.blk) o) 0
  clear e2
  go_wp2
  clear c0 c1 c2 c3 d2 d3 hlk hyb hkl hu25
  have gn0 : ∀ o : Obj, (w2.alloc o).cell? ⟨bt, 0, none⟩ = some (.pointer (some ⟨g, 0, none⟩)) := fun o => cell_new _ _ g2 (by omega)
  have gg0 : ∀ o : Obj, (w2.alloc o).cell? ⟨g, 0, none⟩ = some v := fun o => cell_new _ _ g0 (by omega)
  go_region_law (refine step_append_lies _ (by rfl) _ _ _ (by rfl) base 25 i0 _ 4 40 Tryd.underlying22 hi0 hz0 hz1 hz2 rfl (by omega) v L.length (L.flatMap c25) (by rfl) (by exact (HOWN.out.alloc _).drew) ⟨w2.heap.size, 0, none⟩ 1 1 [.int .i64 a, .int .i64 k, .string name, .int .i64 y] (by rfl) (by rfl) (by exact World.news_of_block (cs := #[.int .i64 a, .int .i64 k, .string name, .int .i64 y]) (t := 25) (fr := (0, 0)) (heap_alloc_new w2 _)) (by simp [Value.oneCell']) (by omega) (by unfold maxLen; omega) (by omega) (by simp; omega) (w2.heap.size + 1) (by simp) ?_; intro gg cap w3 hown3 hgrow hat hlt; have q1 : w3.cell? ⟨g, 0, none⟩ = some v := (by rw [hgrow.cell_far _ (by simp; omega) (Ne.symm ng)]; exact cell_new _ _ g0 (by omega)); have q2 : w3.frozen? ⟨g, 0, none⟩ = false := (by rw [hgrow.frozen_far _ (by simp; omega) (Ne.symm ng)]; exact gfa _); have q3 : w3.cell? ⟨bt, 0, none⟩ = some (.pointer (some ⟨g, 0, none⟩)) := (by rw [hgrow.cell_far _ (by simp; omega) (Ne.symm nb)]; exact gn0 _); have HGR := Aside0.mk hgrow; have HOW3 := Aside0.mk hown3; have HAT := Aside0.mk hat; clear hgrow hown3 hat)
  all_goals
    go_wp2
    go_end0
    exact ⟨rfl, _, tell_end HS.out (x := ⟨a, k, name, y⟩) (below_drew1 (pw_below_drewN ((Below.refl _ _).alloc (Nat.le_refl _) _) _)) HG2.out HSEEN.out (below_drew1 ((Below.refl _ _).alloc (Nat.le_refl _) _)) HGR.out HOW3.out (HAT.out.imp id (fun e => by omega)) (Below.refl _ _)⟩

set_option maxHeartbeats 400000 in
set_option maxRecDepth 100000 in
theorem tell41a (ba bk bt : Nat) (name : ByteArray) (a k : Int) (w : World)
    (c0 : w.cell? ⟨ba, 0, none⟩ = some (.int .i64 a)) (c1 : w.cell? ⟨bk, 0, none⟩ = some (.int .i64 k)) :
    Calls Tryd.prog 41 #[.string name, .int .i64 0, .pointer (some ⟨ba, 0, none⟩), .pointer (some ⟨bk, 0, none⟩), .pointer (some ⟨bt, 0, none⟩)] w fun e w' => e = .returned (.tuple #[]) ∧ Below w.heap.size w w' := by
  have hu25 := Tryd.underlying25
  go_enter Tryd.func41, Tryd.ntmps41
  go_wp2
  go_quiet (fail)
  go_wp2
  go_end0
  exact ⟨rfl, pw_below_drewN ((Below.refl _ _).alloc (Nat.le_refl _) _) _⟩

set_option maxHeartbeats 400000 in
set_option maxRecDepth 100000 in
theorem tell41b (base ba bk bt g M : Nat) (v : Value) (L : List S25) (name : ByteArray) (a k y : Int) (w : World) (hS : TS base w g M v L)
    (h0 : w.heap[ba]? = some (.cells #[.int .i64 a] 3 (0, 0))) (h1 : w.heap[bk]? = some (.cells #[.int .i64 k] 3 (0, 0))) (h2 : w.heap[bt]? = some (.cells #[.pointer (some ⟨g, 0, none⟩)] 67 (0, 0)))
    (hy : y ≠ 0) (hn : (⟨a, k, name, y⟩ : S25) ∈ L) (ha : (Lit.int .i64 a).wf = true) (hk : (Lit.int .i64 k).wf = true) (hyw : (Lit.int .i64 y).wf = true) (hs : name.size ≤ maxLen) :
    Calls Tryd.prog 41 #[.string name, .int .i64 y, .pointer (some ⟨ba, 0, none⟩), .pointer (some ⟨bk, 0, none⟩), .pointer (some ⟨bt, 0, none⟩)] w fun e w' => e = .returned (.tuple #[]) ∧ Below w.heap.size w w' := by
  have hu25 := Tryd.underlying25
  have hu70 := Tryd.underlying70
  have c0 : w.cell? ⟨ba, 0, none⟩ = some (.int .i64 a) := cell_of_blk h0 rfl
  have c1 : w.cell? ⟨bk, 0, none⟩ = some (.int .i64 k) := cell_of_blk h1 rfl
  have c2 : w.cell? ⟨bt, 0, none⟩ = some (.pointer (some ⟨g, 0, none⟩)) := cell_of_blk h2 rfl
  have c3 : w.cell? ⟨g, 1, none⟩ = some (.map (some M)) := cell_of_blk hS.blk rfl
  have hyb : (y != 0) = true := by simpa using hy
  have l2 := (cell_lt c2).2
  have l3 := (cell_lt c3).2
  have d2 := fun o => cell_new w o c2 l2
  have d3 := fun o => cell_new w o c3 l3
  obtain ⟨kl, hkl⟩ := key25 ha hk hyw hs
  have hlk : ∀ o nq, (Instr.lookup 68 (.map (some M)) (.agg #[.int .i64 a, .int .i64 k, .string name, .int .i64 y]) false).run Tryd.prog ((w.alloc o).drewN nq) = .ok (.bool true) ((w.alloc o).drewN nq) := fun o nq => by
    have hm : MapA ((w.alloc o).drewN nq) 25 4 e25 Value.bool M L.length (fun x => if x ∈ L then some true else none) := MapA_below hS.seen (pw_below_drewN ((Below.refl _ _).alloc (Nat.le_refl _) o) nq)
    have := MapA_look kv68 hm (a := (⟨a, k, name, y⟩ : S25)) hkl
    rw [if_pos hn] at this
    exact this
  clear hS h0 h1 h2 hy hn l2 l3 hkl
  go_enter Tryd.func41, Tryd.ntmps41
  go_wp2
  go_quiet (fail)
  go_wp2
  go_end0
  exact ⟨rfl, pw_below_drewN ((Below.refl _ _).alloc (Nat.le_refl _) _) _⟩

/-- One more is told: once, and never what is fine. -/
def tellF (L : List S25) (x : S25) : List S25 := if x.f3 = 0 then L else if x ∈ L then L else L ++ [x]
/-- What a teller has caught. -/
structure Env (w : World) (g : Nat) (a k : Int) (fv : Value) : Prop where
  ex : ∃ ba bk bt, fv = .func (.func 41) #[] #[.pointer (some ⟨ba, 0, none⟩), .pointer (some ⟨bk, 0, none⟩), .pointer (some ⟨bt, 0, none⟩)] ∧ w.heap[ba]? = some (.cells #[.int .i64 a] 3 (0, 0)) ∧ w.heap[bk]? = some (.cells #[.int .i64 k] 3 (0, 0)) ∧ w.heap[bt]? = some (.cells #[.pointer (some ⟨g, 0, none⟩)] 67 (0, 0))

theorem tell41 {base ba bk bt g M : Nat} {v : Value} {L : List S25} {name : ByteArray} {a k y : Int} {w : World} (hS : TS base w g M v L)
    (h0 : w.heap[ba]? = some (.cells #[.int .i64 a] 3 (0, 0))) (h1 : w.heap[bk]? = some (.cells #[.int .i64 k] 3 (0, 0))) (h2 : w.heap[bt]? = some (.cells #[.pointer (some ⟨g, 0, none⟩)] 67 (0, 0)))
    (ha : (Lit.int .i64 a).wf = true) (hk : (Lit.int .i64 k).wf = true) (hyw : (Lit.int .i64 y).wf = true) (hs : name.size ≤ maxLen) (hlen : L.length < 1000000) :
    Calls Tryd.prog 41 #[.string name, .int .i64 y, .pointer (some ⟨ba, 0, none⟩), .pointer (some ⟨bk, 0, none⟩), .pointer (some ⟨bt, 0, none⟩)] w fun e w' => e = .returned (.tuple #[]) ∧ ∃ v', TS base w' g M v' (tellF L ⟨a, k, name, y⟩) ∧ Fr w w' g M v v' := by
  by_cases hy : y = 0
  · subst hy
    refine (tell41a ba bk bt name a k w (cell_of_blk h0 rfl) (cell_of_blk h1 rfl)).mono ?_
    rintro e w' ⟨rfl, hb⟩
    exact ⟨rfl, v, by rw [tellF, if_pos rfl]; exact hS.below hb, Fr.of_below hb _ _ _⟩
  · by_cases hn : (⟨a, k, name, y⟩ : S25) ∈ L
    · refine (tell41b base ba bk bt g M v L name a k y w hS h0 h1 h2 hy hn ha hk hyw hs).mono ?_
      rintro e w' ⟨rfl, hb⟩
      exact ⟨rfl, v, by rw [tellF, if_neg hy, if_pos hn]; exact hS.below hb, Fr.of_below hb _ _ _⟩
    · refine (tell41c base ba bk bt g M v L name a k y w hS h0 h1 h2 hy hn ha hk hyw hs hlen).mono ?_
      rintro e w' ⟨rfl, h⟩
      rw [tellF, if_neg hy, if_neg hn]
      exact ⟨rfl, h⟩
end Go.Proofs.YtcibglpbfaffgaaDoor.X
