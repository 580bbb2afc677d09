/- The maker of tellers. -/
import Derived.Test.YtcibglpbfaffgaaDoorG5
namespace Go.Proofs.YtcibglpbfaffgaaDoor.X
open Go.RowKit Go.Proofs.YtcibglpbfaffgaaDoorW.PrintWords Go.Proofs.YtcibglpbfaffgaaDoorW.PrintLast Go.Proofs.YtcibglpbfaffgaaDoorW.PrintMore
set_option linter.unusedVariables false
set_option maxRecDepth 100000 in
theorem of30 (g : Nat) (a k : Int) (w : World) : Calls Tryd.prog 30 #[.pointer (some ⟨g, 0, none⟩), .int .i64 a, .int .i64 k] w
    fun e w' => ∃ ba bk bt, e = .returned (.func (.func 41) #[] #[.pointer (some ⟨ba, 0, none⟩), .pointer (some ⟨bk, 0, none⟩), .pointer (some ⟨bt, 0, none⟩)]) ∧ w'.heap[ba]? = some (.cells #[.int .i64 a] 3 (0, 0)) ∧ w'.heap[bk]? = some (.cells #[.int .i64 k] 3 (0, 0)) ∧ w'.heap[bt]? = some (.cells #[.pointer (some ⟨g, 0, none⟩)] 67 (0, 0)) ∧ Below w.heap.size w w' := by
  have hmf : ∀ (fn : Fn) (first cap : Array Value) (w : World), (Instr.makeFunc fn first cap).run Tryd.prog w = .ok (.func fn first cap) w := fun _ _ _ _ => rfl
  go_enter Tryd.func30, Tryd.ntmps30
  go_wp2
  go_ret
  refine ⟨_, _, _, rfl, ?_, ?_, ?_, below_alloc (below_alloc (below_alloc (Below.refl _ _) _) _) _⟩
  · have := heap_alloc_new (w.alloc (.cells #[.pointer (some ⟨g, 0, none⟩)] 67)) (.cells #[.int .i64 a] 3)
    exact blk_alloc (by simpa using this) _
  · have := heap_alloc_new ((w.alloc (.cells #[.pointer (some ⟨g, 0, none⟩)] 67)).alloc (.cells #[.int .i64 a] 3)) (.cells #[.int .i64 k] 3)
    simpa using this
  · exact blk_alloc (blk_alloc (heap_alloc_new w _) _) _
end Go.Proofs.YtcibglpbfaffgaaDoor.X
