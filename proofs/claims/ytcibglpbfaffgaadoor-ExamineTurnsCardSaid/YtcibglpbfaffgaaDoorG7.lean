/- The document's example of the layer: in any world in which the package variables read as laid, it comes out true. -/
import Derived.Test.YtcibglpbfaffgaaDoorG6
import Derived.Test.YtcibglpbfaffgaaDoorX4
import Derived.Test.YtcibglpbfaffgaaDoorX6
import Derived.Test.YtcibglpbfaffgaaDoorX12
import Derived.Outline
import Derived.Deep.DeepCutAuto
namespace Go.Proofs.YtcibglpbfaffgaaDoor.X
open Go.RowKit Go.Proofs.YtcibglpbfaffgaaDoorW.PrintWords Go.Proofs.YtcibglpbfaffgaaDoorW.PrintLast Go.Proofs.YtcibglpbfaffgaaDoorW.PrintMore
set_option linter.unusedVariables false
set_option linter.unusedSimpArgs false

def aw0 : S45 := ⟨0, 1, z43⟩
def awX : S25 := ⟨-1, 0, ⟨#[]⟩, 1⟩
def awE : ByteArray := ⟨#[]⟩
theorem aw_ex : exF 5 ⟨awE, awE, awE, awE, awE, awE, awE, ⟨awE, 0⟩, 0, 0, 0, 5, 0, 0, false, false, [aw0]⟩ [] 5 = some [awX] := by rfl
theorem aw_ex0 : exF 5 ⟨awE, awE, awE, awE, awE, awE, awE, ⟨awE, 0⟩, 0, 0, 0, 0, 0, 0, false, false, []⟩ [] 0 = some [] := by rfl
theorem aw_fine : examine_Fine.f 5 awE awE awE awE awE awE awE awE 0 0 0 0 5 0 0 false false [aw0] [] 5 = some false := by rfl
theorem aw_fine0 : examine_Fine.f 5 awE awE awE awE awE awE awE awE 0 0 0 0 0 0 0 false false [] [] 0 = some true := by rfl
theorem aw_same : supercargoref31_Same.f 5 [awX] [awX] = some true := by kernel_rfl
theorem aw_text : examine_Text.f 9 [awX] = some ⟨#[45, 32, 105, 110, 118, 111, 105, 99, 101, 32, 45, 32, 108, 97, 99, 107, 115]⟩ := by kernel_rfl
/-- A row of one element of a block of its own. -/
theorem C45_one {w : World} {b : Nat} (h : w.heap[b]? = some (.cells #[.int .i64 0, .int .i64 1, .int .i64 0, .int .i64 0, .string ⟨#[]⟩, .string ⟨#[]⟩, .int .i64 0, .slice none 0 0] 45 (0, 0))) : Kd.C k45 w (some ⟨b, 0, none⟩) 1 [aw0] := by
  refine ⟨rfl, by decide, fun _ => ⟨_, rfl, fun j p hp => ?_⟩⟩
  cases j with
  | succ j => simp at hp
  | zero =>
    obtain rfl : aw0 = p := by simpa using hp
    refine ⟨_, rfl, k45_mk w aw0 (A7 := none) (c7 := 0) (Nat.le_refl _) ⟨rfl, by decide, fun h => absurd h (by decide)⟩, fun i u hu => ?_⟩
    have e : ((⟨b, 0, none⟩ : Addr).add (0 * k45.sz + i)) = ⟨b, i, none⟩ := by
      have : k45.sz = 8 := rfl
      rw [this]
      unfold Addr.add
      split <;> simp_all
    rw [e]
    exact cell_of_blk h (by simpa [aw0, z43] using hu)
theorem C25_one {w : World} {b : Nat} (h : w.heap[b]? = some (.cells #[.int .i64 (-1), .int .i64 0, .string ⟨#[]⟩, .int .i64 1] 25 (0, 0))) : Kd.C k25 w (some ⟨b, 0, none⟩) 1 [awX] := by
  refine ⟨rfl, by decide, fun _ => ⟨_, rfl, fun j p hp => ?_⟩⟩
  cases j with
  | succ j => simp at hp
  | zero =>
    obtain rfl : awX = p := by simpa using hp
    refine ⟨_, rfl, k25_mk w awX, fun i u hu => ?_⟩
    have e : ((⟨b, 0, none⟩ : Addr).add (0 * k25.sz + i)) = ⟨b, i, none⟩ := by
      have : k25.sz = 4 := rfl
      rw [this]
      unfold Addr.add
      split <;> simp_all
    rw [e]
    exact cell_of_blk h (by simpa [awX] using hu)
theorem C_nil {α : Type} (d : Kd α) (w : World) : Kd.C d w none 0 [] := ⟨rfl, by decide, fun h => absurd h (by decide)⟩

/-- A load of a whole row where the operation's guard says yes. -/
theorem wpList_load_rowG {P : Program} {ops : Array Oper} {rest : List Oper} {o : Oper} {a : Act} {w : World} {Q : Exit → Act → World → Prop} (hw : Region.wanted o (yielded ops a.tmps) = true) (ty : TypeId) (x : Operand) (ho : o.op = .load ty x)
    (g : Nat) (hx : a.eval x = .pointer (some ⟨g, 0, none⟩)) (t : TypeId) (cs : Array Value) (fr : Nat × Nat) (d : TypeDesc) (hg : w.heap[g]? = some (.cells cs t fr))
    (hu : P.underlying ty = some d) (hd : (match d with | .struct _ | .array _ _ => true | _ => false) = true) (hi : (P.info? ty).map (·.size) = some cs.size)
    (h : wpList P ops Q rest (a.put o.dst (.agg cs)) w) : wpList P ops Q (o :: rest) a w :=
  Go.BigFrame.wpList_want hw fun _ hK => wp_load_row ty x ho g hx t cs fr d hg hu hd hi (hK _ _ h)

def supercargolaw31_awake.f : Option Bool := some true
set_option maxHeartbeats 1600000 in
set_option maxRecDepth 100000 in
theorem awake11 (w : World) (hG : Glob w) : Calls Tryd.prog 11 #[] w fun e w' => e = .returned (.bool true) ∧ Below w.heap.size w w' := by
  have hu33 := Tryd.underlying33
  have hu45 := Tryd.underlying45
  have hu25 := Tryd.underlying25
  have HG := Aside0.mk hG
  clear hG
  obtain ⟨W1, hW1⟩ : ∃ W1, W1 = (w.alloc (.cells #[.int .i64 0, .int .i64 1, .int .i64 0, .int .i64 0, .string ⟨#[]⟩, .string ⟨#[]⟩, .int .i64 0, .slice none 0 0] 45)).alloc (.cells #[.string ⟨#[]⟩, .string ⟨#[]⟩, .string ⟨#[]⟩, .string ⟨#[]⟩, .string ⟨#[]⟩, .string ⟨#[]⟩, .string ⟨#[]⟩, .string ⟨#[]⟩, .int .i64 0, .int .i64 0, .int .i64 0, .int .i64 0, .int .i64 5, .int .i64 0, .int .i64 0, .bool false, .bool false, .slice (some ⟨w.heap.size, 0, none⟩) 1 1] 33) := ⟨_, rfl⟩
  have HB1 : Aside0 (Below w.heap.size w W1) := ⟨by rw [hW1]; exact below_alloc (below_alloc (Below.refl _ _) _) _⟩
  have HN1 : Aside0 (W1.heap[w.heap.size]? = some (.cells #[.int .i64 0, .int .i64 1, .int .i64 0, .int .i64 0, .string ⟨#[]⟩, .string ⟨#[]⟩, .int .i64 0, .slice none 0 0] 45 (0, 0))) := ⟨by rw [hW1]; exact blk_alloc (heap_alloc_new w _) _⟩
  have HC1 : Aside0 (W1.heap[w.heap.size + 1]? = some (.cells #[.string ⟨#[]⟩, .string ⟨#[]⟩, .string ⟨#[]⟩, .string ⟨#[]⟩, .string ⟨#[]⟩, .string ⟨#[]⟩, .string ⟨#[]⟩, .string ⟨#[]⟩, .int .i64 0, .int .i64 0, .int .i64 0, .int .i64 0, .int .i64 5, .int .i64 0, .int .i64 0, .bool false, .bool false, .slice (some ⟨w.heap.size, 0, none⟩) 1 1] 33 (0, 0))) := ⟨by rw [hW1]; have := heap_alloc_new (w.alloc (.cells #[.int .i64 0, .int .i64 1, .int .i64 0, .int .i64 0, .string ⟨#[]⟩, .string ⟨#[]⟩, .int .i64 0, .slice none 0 0] 45)) (.cells #[.string ⟨#[]⟩, .string ⟨#[]⟩, .string ⟨#[]⟩, .string ⟨#[]⟩, .string ⟨#[]⟩, .string ⟨#[]⟩, .string ⟨#[]⟩, .string ⟨#[]⟩, .int .i64 0, .int .i64 0, .int .i64 0, .int .i64 0, .int .i64 5, .int .i64 0, .int .i64 0, .bool false, .bool false, .slice (some ⟨w.heap.size, 0, none⟩) 1 1] 33); simpa using this⟩
  have HW1 := Aside0.mk hW1
  clear hW1
  go_enter Tryd.func11, Tryd.ntmps11
  go_upto_region 2 with (fail)
  rw [← HW1.out]
  go_wp2_with (refine wpList_load_row rfl 33 _ rfl (w.heap.size + 1) rfl 33 _ (0, 0) _ HC1.out hu33 rfl (by kernel_rfl) ?_)
  refine (examine_Examine.calls 5 _ _ _ _ _ _ _ _ _ _ _ _ _ _ _ _ _ _ _ [aw0] none 0 [] 5 [awX] W1 (C45_one HN1.out) (Nat.le_refl _) (C_nil _ _) (Nat.le_refl _) (Glob_below HG.out HB1.out) aw_ex).mono ?_
  rintro e w2 ⟨v0, rfl, hR, hb2⟩
  obtain ⟨A0, c0, rfl, hc0, hC0⟩ := Kd.R_reads hR
  have HCC := Aside0.mk hC0
  have HCL := Aside0.mk hc0
  have HB2 := Aside0.mk (HB1.out.trans (hb2.mono HB1.out.size))
  have HC2 := Aside0.mk (blk_below HC1.out hb2)
  have HN2 := Aside0.mk (blk_below HN1.out hb2)
  clear hR hC0 hc0 hb2
  go_wp2_with fail
  refine (supercargoref31_Same.calls 5 _ _ [awX] _ _ [awX] true _ (Kd.C_below HCC.out (below_alloc (Below.refl _ _) _)) HCL.out (C25_one (heap_alloc_new w2 _)) (Nat.le_refl _) aw_same).mono ?_
  rintro e w3 ⟨rfl, hd3⟩
  obtain ⟨⟨m3, rfl⟩⟩ := hd3
  have HB3 := Aside0.mk (HB2.out.trans ((pw_below_drewN (below_alloc (Below.refl w2.heap.size w2) (.cells #[.int .i64 (-1), .int .i64 0, .string ⟨#[]⟩, .int .i64 1] 25)) m3).mono HB2.out.size))
  have HS3 := Aside0.mk (pw_below_drewN (below_alloc (Below.refl w2.heap.size w2) (.cells #[.int .i64 (-1), .int .i64 0, .string ⟨#[]⟩, .int .i64 1] 25)) m3)
  go_wp2_with fail
  refine (examine_Text.calls 9 _ _ [awX] _ _ (Kd.C_below HCC.out HS3.out) HCL.out (Glob_below HG.out HB3.out) aw_text).mono ?_
  rintro e w4 ⟨rfl, hb4⟩
  have HB4 := Aside0.mk (HB3.out.trans (hb4.mono HB3.out.size))
  have HC4 := Aside0.mk (blk_below (blk_below HC2.out HS3.out) hb4)
  have HN4 := Aside0.mk (blk_below (blk_below HN2.out HS3.out) hb4)
  clear hb4
  go_wp2_with (refine wpList_load_rowG rfl 33 _ rfl (w.heap.size + 1) rfl 33 _ (0, 0) _ HC4.out hu33 rfl (by kernel_rfl) ?_)
  refine (examine_Fine.calls 5 _ _ _ _ _ _ _ _ _ _ _ _ _ _ _ _ _ _ _ [aw0] none 0 [] 5 false w4 (C45_one HN4.out) (Nat.le_refl _) (C_nil _ _) (Nat.le_refl _) (Glob_below HG.out HB4.out) aw_fine).mono ?_
  rintro e w5 ⟨rfl, hb5⟩
  have HB5 := Aside0.mk (HB4.out.trans (hb5.mono HB4.out.size))
  clear hb5
  go_wp2_with fail
  refine (examine_Fine.calls 5 _ _ _ _ _ _ _ _ _ _ _ _ _ _ _ _ _ _ _ [] none 0 [] 0 true w5 (C_nil _ _) (Nat.le_refl _) (C_nil _ _) (Nat.le_refl _) (Glob_below HG.out HB5.out) aw_fine0).mono ?_
  rintro e w6 ⟨rfl, hb6⟩
  have HB6 := Aside0.mk (HB5.out.trans (hb6.mono HB5.out.size))
  clear hb6
  go_wp2
  go_ret
  exact ⟨rfl, HB6.out⟩
theorem supercargolaw31_awake.calls (r : Bool) (w : World) (hG : Glob w) (h : supercargolaw31_awake.f = some r) : Calls Tryd.prog 11 #[] w fun e w' => e = .returned (.bool r) ∧ Below w.heap.size w w' := by
  obtain rfl : true = r := Option.some.inj h
  exact awake11 w hG
end Go.Proofs.YtcibglpbfaffgaaDoor.X
