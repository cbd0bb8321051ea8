import Derived.Test.YtkhnalboodkddaaIec1
set_option linter.unusedSimpArgs false
set_option linter.unusedVariables false
namespace Go.Proofs.Ytkhnalboodkddaa
open Go.RowKit
theorem size_any (k : Int) (w : World) :
    Calls Try.prog 92 #[.int .i64 k] w fun e w' => e = .returned (.int .i64 (ksize k)) ∧ Below w.heap.size w w' := by
  go_enter Try.func92, Try.ntmps92
  go_wp2_with fail
  refine (of_any _ _).mono ?_
  rintro e w1 ⟨rfl, hb⟩
  go_wp2
  go_ret
  exact ⟨rfl, below_alloc' hb _⟩
end Go.Proofs.Ytkhnalboodkddaa
