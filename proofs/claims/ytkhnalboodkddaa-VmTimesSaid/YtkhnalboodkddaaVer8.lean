import Derived.Test.YtkhnalboodkddaaVer7
import Derived.Laws.StructEq
set_option linter.unusedSimpArgs false
set_option linter.unusedVariables false
set_option maxRecDepth 100000
namespace Go.Proofs.Ytkhnalboodkddaa
open Go.RowKit
theorem brStood : Try.prog.stoodInHeld 157 = false := by kernel_rfl
theorem brGuard : Try.prog.eqGuardType Try.prog.depth 157 = false := by kernel_rfl
theorem brUnder : Try.prog.underlying 157 = some (.struct (Try.prog.fieldsOf 157)) := by kernel_rfl
theorem brNeq (p1 p2 q1 q2 : Int) (X : World) : (binOp .neq 157 (.agg #[.int .i64 p1, .int .i64 p2]) (.agg #[.int .i64 q1, .int .i64 q2])).run Try.prog X = .ok (.bool (!(p1 == q1 && p2 == q2))) X := by
  rw [run_neq_struct, run_equalIn_agg _ _ _ _ _ brUnder brStood]
  simp [go_sem]
  by_cases a : p1 = q1 <;> by_cases b : p2 = q2 <;> simp [a, b]
end Go.Proofs.Ytkhnalboodkddaa
