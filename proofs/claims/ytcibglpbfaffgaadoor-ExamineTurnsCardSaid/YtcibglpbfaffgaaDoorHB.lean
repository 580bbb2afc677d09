/- Rows of raw cells: a slice literal, a row appended to a row of one's own, as steps of a region that draws; read as a row of elements again. -/
import Derived.Test.YtcibglpbfaffgaaDoorHA
import Derived.Test.YtcibglpbfaffgaaDoorGP
namespace Go.Proofs.YtcibglpbfaffgaaDoor.X
open Go Go.RowKit Go.Proofs.YtcibglpbfaffgaaDoorW.PrintWords Go.Proofs.YtcibglpbfaffgaaDoorW.PrintLast Go.Proofs.YtcibglpbfaffgaaDoorW.PrintMore
set_option linter.unusedVariables false
set_option linter.unusedSimpArgs false

/-- Elements that are told by their cells alone. -/
def kraw (sz : Nat) : Kd (List Value) where
  sz := sz
  E := []
  K := fun _ x cs => cs = x ∧ x.length = sz ∧ ∀ u ∈ x, u.oneCell' = true
  M := fun _ _ _ x cs => cs = x ∧ x.length = sz ∧ ∀ u ∈ x, u.oneCell' = true
  K_len := by rintro w x cs ⟨rfl, h, _⟩; exact h
  K_one := by rintro w x cs ⟨rfl, _, h⟩; exact h
  K_below := fun _ h => h
  K_of_M := fun h => h
  M_mono := fun _ h => h
  M_bound := fun h => h
  M_move := fun _ h => h
  M_lower := fun _ h => h
section
variable {α : Type} {d : Kd α}
/-- The cells of a row that is read. -/
theorem raws_of {w : World} {A : Option Addr} {n : Nat} {xs : List α} (h : Kd.C d w A n xs) :
    ∃ raws : List (List Value), Kd.C (kraw d.sz) w A n raws ∧ raws.length = xs.length ∧ ∀ (j : Nat) (p : α), xs[j]? = some p → ∃ c, raws[j]? = some c ∧ d.K w p c := by
  obtain ⟨h1, h2, h3⟩ := h
  rcases Nat.eq_zero_or_pos n with h0 | h0
  · refine ⟨[], ⟨by simp; omega, h2, fun h => by omega⟩, by simp; omega, fun j p hp => ?_⟩
    obtain rfl : xs = [] := List.eq_nil_of_length_eq_zero (by omega)
    simp at hp
  · obtain ⟨ad, rfl, hc⟩ := h3 h0
    have key : ∀ i, i < xs.length → ∃ v c : List Value, (v = c ∧ c.length = d.sz ∧ (∀ p, xs[i]? = some p → d.K w p c) ∧ ∀ k u, c[k]? = some u → w.cell? (ad.add (i * d.sz + k)) = some u) ∧ (∀ u ∈ v, u.oneCell' = true) := by
      intro i hi
      obtain ⟨c, hl, hK, hcell⟩ := hc i _ (List.getElem?_eq_getElem hi)
      exact ⟨c, c, ⟨rfl, hl, fun p hp => by rw [List.getElem?_eq_getElem hi] at hp; exact Option.some.inj hp ▸ hK, hcell⟩, d.K_one hK⟩
    obtain ⟨l, hl, hq⟩ := list_of (Q := fun i v c => v = c ∧ c.length = d.sz ∧ (∀ p, xs[i]? = some p → d.K w p c) ∧ ∀ k u, c[k]? = some u → w.cell? (ad.add (i * d.sz + k)) = some u) (ok := fun v => ∀ u ∈ v, u.oneCell' = true) key
    refine ⟨l, ⟨by omega, h2, fun _ => ⟨ad, rfl, fun j p hp => ?_⟩⟩, hl, fun j p hp => ?_⟩
    · obtain ⟨c, ⟨rfl, hcl, _, hcell⟩, hone⟩ := hq j p hp
      exact ⟨p, hcl, ⟨rfl, hcl, hone⟩, hcell⟩
    · have hj : j < l.length := by rw [hl]; exact (List.getElem?_eq_some_iff.1 hp).1
      obtain ⟨c, ⟨rfl, hcl, hK, _⟩, _⟩ := hq j _ (List.getElem?_eq_getElem hj)
      exact ⟨_, List.getElem?_eq_getElem hj, hK p hp⟩
/-- A row of raw cells, read as a row of elements. -/
theorem C_of_raw {w w' : World} {A : Option Addr} {n : Nat} {raws : List (List Value)} {xs : List α} (hb : Below w.heap.size w w') (h : Kd.C (kraw d.sz) w' A n raws) (hl : raws.length = xs.length) (hx : ∀ (j : Nat) (p : α), xs[j]? = some p → ∃ c, raws[j]? = some c ∧ d.K w p c) : Kd.C d w' A n xs := by
  obtain ⟨h1, h2, h3⟩ := h
  refine ⟨by omega, h2, fun h0 => ?_⟩
  obtain ⟨ad, rfl, hc⟩ := h3 h0
  refine ⟨ad, rfl, fun j p hp => ?_⟩
  obtain ⟨c, hr, hK⟩ := hx j p hp
  obtain ⟨c', hcl, ⟨rfl, _, _⟩, hcell⟩ := hc j c hr
  exact ⟨_, hcl, d.K_below hb hK, hcell⟩
theorem raws_snoc {w : World} {raws : List (List Value)} {xs : List α} {c : List Value} {p : α} (hl : raws.length = xs.length) (hx : ∀ (j : Nat) (p : α), xs[j]? = some p → ∃ c, raws[j]? = some c ∧ d.K w p c) (hp : d.K w p c) :
    (raws ++ [c]).length = (xs ++ [p]).length ∧ ∀ (j : Nat) (q : α), (xs ++ [p])[j]? = some q → ∃ c', (raws ++ [c])[j]? = some c' ∧ d.K w q c' := by
  refine ⟨by simp [hl], fun j q hq => ?_⟩
  rcases Nat.lt_or_ge j xs.length with hj | hj
  · rw [List.getElem?_append_left hj] at hq
    obtain ⟨c', h1, h2⟩ := hx j q hq
    exact ⟨c', by rw [List.getElem?_append_left (by omega)]; exact h1, h2⟩
  · rw [List.getElem?_append_right hj] at hq
    have hj0 : j - xs.length = 0 := by
      rcases Nat.eq_zero_or_pos (j - xs.length) with h | h
      · exact h
      · rw [List.getElem?_eq_none (by simp; omega)] at hq
        exact absurd hq (by simp)
    rw [hj0] at hq
    obtain rfl : p = q := by simpa using hq
    exact ⟨c, by rw [List.getElem?_append_right (by omega), hl, hj0]; rfl, hp⟩
/-- One element's cells, in a block of their own. -/
theorem C_raw_one {w : World} {sz b : Nat} {e : TypeId} {cs : List Value} (hsz : cs.length = sz) (h1 : ∀ u ∈ cs, u.oneCell' = true) (h : w.heap[b]? = some (.cells cs.toArray e (0, 0))) : Kd.C (kraw sz) w (some ⟨b, 0, none⟩) 1 [cs] := by
  refine ⟨rfl, by decide, fun _ => ⟨_, rfl, fun j p hp => ?_⟩⟩
  cases j with
  | succ j => simp at hp
  | zero =>
    obtain rfl : cs = p := by simpa using hp
    refine ⟨cs, hsz, ⟨rfl, hsz, h1⟩, fun i u hu => ?_⟩
    have e : ((⟨b, 0, none⟩ : Addr).add (0 * (kraw sz).sz + i)) = ⟨b, i, none⟩ := by
      rw [Nat.zero_mul, Nat.zero_add]
      unfold Addr.add
      split <;> simp_all
    rw [e]
    exact cell_of_blk h (by simpa using hu)
end
section
variable {P : Program} {ops : Array Oper} {o : Oper} {a : Act} {Q : Exit → Act → World → Prop} {Kc : Act → World → Prop}
/-- append(v, rows...) on a row of raw cells of one's own, as one step. -/
theorem raw_append_step {sz : Nat} {w0 W : World} (base : Nat) (hw : Region.wanted o (yielded ops a.tmps) = true) (s x : Operand) (t e : TypeId) (z : Value) (bytes : Nat)
    (ho : o.op = .call { callee := .builtin .append, args := #[s, x], argTypes := #[t, t] })
    (ht : P.underlying t = some (.slice e)) (hinfo : (P.info? e).map (fun i => (i.zero, i.size, i.bytes)) = some (some z, sz, bytes)) (hz : z.cells.size = sz) (hs0 : 0 < sz) (hb0 : 0 < bytes)
    (v : Value) (xs ys : List (List Value)) (A : Option Addr) (m c : Nat) (hs : a.eval s = v) (hx : a.eval x = .slice A m c)
    (HO : Kd.R (kraw sz) e W base (fun _ => True) v xs) (HR : Kd.C (kraw sz) W A m ys) (HB : Below base w0 W) (hbase : base ≤ W.heap.size) (hl : (xs.length + m) * bytes ≤ 140737488355328)
    (h : ∀ v1 w1, Kd.R (kraw sz) e w1 base (fun _ => True) v1 (xs ++ ys) → Below base w0 w1 → W.grownBy w1 v.ownBlock → Kc (a.put o.dst v1) w1) :
    if Region.wanted o (yielded ops a.tmps) = true then Oper.wp P o a W Kc Q else Kc (a.put o.dst undef) W := by
  obtain ⟨i0, hi, hzz⟩ := Option.map_eq_some_iff.1 hinfo
  simp only [Prod.mk.injEq] at hzz
  obtain ⟨hz0, hz1, hz2⟩ := hzz
  have hm : ys.length = m := HR.1
  have hlen : xs.length + m ≤ 140737488355328 := Nat.le_trans (Nat.le_mul_of_pos_right _ hb0) hl
  obtain ⟨_, inner, hown, hr⟩ := HO
  have hrun : ∃ v1 w1, (Builtin.append_ #[t, t] o.type #[v, .slice A m c]).run P W = .ok v1 w1 ∧ Kd.R (kraw sz) e w1 base (fun _ => True) v1 (xs ++ ys) ∧ W.grownBy w1 v.ownBlock := by
    rcases A with _ | ad
    · have h0 : m = 0 := by
        rcases Nat.eq_zero_or_pos m with h0 | h0
        · exact h0
        · obtain ⟨ad, h, _⟩ := HR.2.2 h0
          cases h
      subst h0
      obtain rfl : ys = [] := List.eq_nil_of_length_eq_zero hm
      refine ⟨v, W, ?_, by rw [List.append_nil]; exact ⟨fun _ _ => trivial, inner, hown, hr⟩, World.grownBy.refl W _⟩
      rcases hown.2 with ⟨rfl, hn⟩ | ⟨g, cap, cur, rfl, _, _, hnc, _⟩
      · simp [Builtin.append_, run_underlying ht, sizeOf, typeInfo, hi, Builtin.lenOf, Builtin.firstCells]
      · simp [Builtin.append_, run_underlying ht, sizeOf, typeInfo, hi, Builtin.lenOf, Builtin.firstCells, hnc, storeCells]
    · obtain ⟨news, hnr, hnc⟩ := ReadsRow.inner_ HR
      have hone : ∀ u ∈ news, u.oneCell' = true := by
        intro u hu
        obtain ⟨q, hq, rfl⟩ := List.mem_iff_getElem.1 hu
        have hql : q / sz < ys.length := by
          rw [Nat.div_lt_iff_lt_mul hs0]
          have := hnr.1
          exact this ▸ hq
        have hc := hnr.2 (q / sz) _ (List.getElem?_eq_getElem hql)
        refine (kraw sz).K_one (w := W) hc _ ?_
        rw [List.mem_iff_getElem?]
        refine ⟨q % sz, ?_⟩
        show ((news.drop (q / sz * sz)).take sz)[q % sz]? = _
        rw [List.getElem?_take, if_pos (Nat.mod_lt _ hs0), List.getElem?_drop, Nat.mul_comm, Nat.div_add_mod, List.getElem?_eq_getElem hq]
      have hnl : news.length = m * sz := by have := hnr.1; rw [this, hm]; rfl
      obtain ⟨v1, w1, hrun, h2, hg, _, _⟩ := run_append_own_at (P := P) W base t o.type e i0 z sz bytes ht hi hz0 hz1 hz2 hz hs0 v xs.length inner hown ad m c news hnl hnc hone (by simp only [maxLen]; omega) hl hbase
      refine ⟨v1, w1, hrun, ⟨fun _ _ => trivial, inner ++ news, by rw [List.length_append, hm]; exact h2, Kd.reps_append hr hnr⟩, hg⟩
  obtain ⟨v1, w1, hr1, h1, hg⟩ := hrun
  rw [if_pos hw]
  unfold Oper.wp execOp
  simp only [ho, resolve, invoke, builtin, Sem.run_bind, Sem.run_pure, Result.andThen_ok, List.map_toArray, List.map_cons, List.map_nil, hs, hx, hr1]
  exact h v1 w1 h1 (HB.grown hg hbase (own_base hown)) hg
/-- A slice literal, as one step. -/
theorem raw_lit_step {sz : Nat} {w0 W : World} (base e : Nat) (hw : Region.wanted o (yielded ops a.tmps) = true) {N : Tmp} (hd : o.dst = some N) {xs : List (List Value)} {inner : List Value}
    (hrun : (execOp a.eval o).run P W = .ok (.value (.slice (some ⟨W.heap.size, 0, none⟩) xs.length xs.length)) (W.alloc (.cells inner.toArray e)))
    (hrep : Reps (fun x cs => cs = x ∧ x.length = sz ∧ ∀ u ∈ x, u.oneCell' = true) sz xs inner) (HB : Below base w0 W) (hbase : base ≤ W.heap.size) (hm : xs.length ≤ 9223372036854775807)
    (h : ∀ b, b = W.heap.size → ∀ w1, Kd.R (kraw sz) e w1 base (fun _ => True) (.slice (some ⟨b, 0, none⟩) xs.length xs.length) xs → w1.heap[b]? = some (.cells inner.toArray e (0, 0)) → Below base w0 w1 → Below W.heap.size W w1 → Kc (a.put o.dst (.slice (some ⟨b, 0, none⟩) xs.length xs.length)) w1) :
    if Region.wanted o (yielded ops a.tmps) = true then Oper.wp P o a W Kc Q else Kc (a.put o.dst undef) W := by
  refine event_step hw hrun (h _ rfl _ ⟨fun _ _ => trivial, inner, ?_, ?_⟩ (blk_new W _) (HB.alloc hbase _) (below_alloc (Below.refl _ _) _))
  · have h2 := World.ownsRow_lit (base := base) (e := e) (size := sz) W inner.toArray xs.length hbase (by simpa [maxLen] using hm) (by simpa using hrep.1)
    have h3 : (kraw sz).sz = sz := rfl
    rw [h3]
    simpa using h2
  · exact hrep
/-- The rows of a raw row of one's own: kept where its block is. -/
theorem raw_keep {sz base : Nat} {e : TypeId} {W w1 : World} {v : Value} {xs : List (List Value)} (h : Kd.R (kraw sz) e W base (fun _ => True) v xs) (hm : ∀ k, v.ownBlock = some k → w1.heap[k]? = W.heap[k]?) : Kd.R (kraw sz) e w1 base (fun _ => True) v xs := by
  obtain ⟨h1, inner, ho, hr⟩ := h
  exact ⟨h1, inner, own_move ho hm, hr⟩
theorem raw_below {sz base : Nat} {e : TypeId} {W w1 : World} {v : Value} {xs : List (List Value)} (h : Kd.R (kraw sz) e W base (fun _ => True) v xs) (hb : Below W.heap.size W w1) : Kd.R (kraw sz) e w1 base (fun _ => True) v xs := Kd.R_below h hb
theorem reps_one {sz : Nat} {cs : List Value} (h : cs.length = sz) (h1 : ∀ u ∈ cs, u.oneCell' = true) : Reps (fun x c => c = x ∧ x.length = sz ∧ ∀ u ∈ x, u.oneCell' = true) sz [cs] cs := by
  refine ⟨by simp [h], fun j p hp => ?_⟩
  cases j with
  | succ j => simp at hp
  | zero =>
    obtain rfl : cs = p := by simpa using hp
    rw [Nat.zero_mul, List.drop_zero, List.take_of_length_le (by omega)]
    exact ⟨rfl, h, h1⟩
end
theorem C_len {α : Type} {d : Kd α} {w : World} {A : Option Addr} {n : Nat} {xs : List α} (h : Kd.C d w A n xs) : Kd.C d w A xs.length xs := by
  have e := h.1
  rw [e]
  exact h
theorem set_blk {w : World} {g j : Nat} {cs : Array Value} {t : TypeId} {u : Value} (h : w.heap[g]? = some (.cells cs t (0, 0))) : (w.setCell ⟨g, j, none⟩ u).heap[g]? = some (.cells (cs.setIfInBounds j u) t (0, 0)) := by
  have hlt := blk_lt h
  have hg : w.heap[g] = .cells cs t (0, 0) := by rw [Array.getElem?_eq_getElem hlt] at h; exact Option.some.inj h
  simp only [World.setCell]
  rw [Array.getElem?_eq_getElem (by simpa using hlt), Array.getElem_modify, if_pos rfl, hg]
  rfl
theorem set_other {w : World} {g j k : Nat} {u : Value} (h : k ≠ g) : (w.setCell ⟨g, j, none⟩ u).heap[k]? = w.heap[k]? := Below.heap_setCell w ⟨g, j, none⟩ u k h
/-- The last operation, behind which S need not hold. -/
theorem last_ {P : Program} {md : Region.Mode} {ops : Array Oper} {Q : Exit → Act → World → Prop} {S : World → Prop} {ds : List Nat} {i : Nat} {N : Option Tmp} {oi : Oper} {fuel : Nat} {l : Array Bool} {a : Act} {w : World} (l' : Array Bool) (hi : ops[i]? = some oi) (hN : oi.dst = N) (hc : readyB md ops l l' i = true) (hd : i ∈ ds)
    (h : ∀ K : Act → World → Prop, Shut (∀ a' w', wpAnyLast P md ops Q S ds fuel l' a' w' → K a' w') → if Region.wanted oi (yielded ops a.tmps) = true then Oper.wp P oi a w K Q else K (a.put N undef) w) :
    wpAnyLast P md ops Q S ds (fuel + 1) l a w := by
  subst hN
  simp only [readyB, Bool.and_eq_true, beq_iff_eq] at hc
  obtain ⟨h1, h2⟩ := hc
  subst h2
  refine wpAnyLast_ready h1 (by simp) fun j hj => ?_
  obtain rfl : j = i := by simpa using hj
  exact wpOp_step hi (fun K' hK => h K' (fun a w hW => hK a w ⟨fun hn => absurd hd hn, hW⟩))
end Go.Proofs.YtcibglpbfaffgaaDoor.X
