import Derived.Test.YtkhnalboodkddaaIec10
import Derived.BigGuardPart
set_option linter.unusedSimpArgs false
set_option linter.unusedVariables false
set_option maxRecDepth 100000
namespace Go.Proofs.Ytkhnalboodkddaa
open Go.RowKit
/-- An instruction. -/
structure Ins where
  op : Int
  kind : Int
  area : Int
  at_ : Int
  n : Int
  deriving DecidableEq
def clsL : List Int := [0, 1, 1, 2, 2, 2, 2, 1, 1, 1, 1, 1, 1, 4, 1, 1, 1, 1, 1, 1, 1, 1, 1, 1, 1, 3, 3, 3, 4, 4, 4, 5, 6, 4, 7, 7, 8]
def onameL : List ByteArray := [⟨#[]⟩, ⟨#[76, 68]⟩, ⟨#[76, 68, 78]⟩, ⟨#[83, 84]⟩, ⟨#[83, 84, 78]⟩, ⟨#[83]⟩, ⟨#[82]⟩, ⟨#[65, 78, 68]⟩, ⟨#[79, 82]⟩, ⟨#[88, 79, 82]⟩, ⟨#[65, 78, 68, 78]⟩, ⟨#[79, 82, 78]⟩, ⟨#[88, 79, 82, 78]⟩, ⟨#[78, 79, 84]⟩, ⟨#[65, 68, 68]⟩, ⟨#[83, 85, 66]⟩, ⟨#[77, 85, 76]⟩, ⟨#[68, 73, 86]⟩, ⟨#[77, 79, 68]⟩, ⟨#[71, 84]⟩, ⟨#[71, 69]⟩, ⟨#[69, 81]⟩, ⟨#[78, 69]⟩, ⟨#[76, 69]⟩, ⟨#[76, 84]⟩, ⟨#[74, 77, 80]⟩, ⟨#[74, 77, 80, 67]⟩, ⟨#[74, 77, 80, 67, 78]⟩, ⟨#[82, 69, 84]⟩, ⟨#[82, 69, 84, 67]⟩, ⟨#[82, 69, 84, 67, 78]⟩, ⟨#[67, 79, 78, 86]⟩, ⟨#[]⟩, ⟨#[]⟩, ⟨#[84, 79, 78]⟩, ⟨#[67, 84, 85]⟩, ⟨#[84, 82, 73, 71]⟩]
def cls (op : Int) : Int := if 0 ≤ op ∧ op ≤ 36 then clsL.getD op.toNat 0 else 0
def oname (op : Int) : ByteArray := if 0 ≤ op ∧ op ≤ 36 then onameL.getD op.toNat ⟨#[]⟩ else ⟨#[]⟩
def opsCells : Array Value := #[.string ⟨#[]⟩, .int .i64 0, .string ⟨#[76, 68]⟩, .int .i64 1, .string ⟨#[76, 68, 78]⟩, .int .i64 1, .string ⟨#[83, 84]⟩, .int .i64 2, .string ⟨#[83, 84, 78]⟩, .int .i64 2, .string ⟨#[83]⟩, .int .i64 2, .string ⟨#[82]⟩, .int .i64 2, .string ⟨#[65, 78, 68]⟩, .int .i64 1, .string ⟨#[79, 82]⟩, .int .i64 1, .string ⟨#[88, 79, 82]⟩, .int .i64 1, .string ⟨#[65, 78, 68, 78]⟩, .int .i64 1, .string ⟨#[79, 82, 78]⟩, .int .i64 1, .string ⟨#[88, 79, 82, 78]⟩, .int .i64 1, .string ⟨#[78, 79, 84]⟩, .int .i64 4, .string ⟨#[65, 68, 68]⟩, .int .i64 1, .string ⟨#[83, 85, 66]⟩, .int .i64 1, .string ⟨#[77, 85, 76]⟩, .int .i64 1, .string ⟨#[68, 73, 86]⟩, .int .i64 1, .string ⟨#[77, 79, 68]⟩, .int .i64 1, .string ⟨#[71, 84]⟩, .int .i64 1, .string ⟨#[71, 69]⟩, .int .i64 1, .string ⟨#[69, 81]⟩, .int .i64 1, .string ⟨#[78, 69]⟩, .int .i64 1, .string ⟨#[76, 69]⟩, .int .i64 1, .string ⟨#[76, 84]⟩, .int .i64 1, .string ⟨#[74, 77, 80]⟩, .int .i64 3, .string ⟨#[74, 77, 80, 67]⟩, .int .i64 3, .string ⟨#[74, 77, 80, 67, 78]⟩, .int .i64 3, .string ⟨#[82, 69, 84]⟩, .int .i64 4, .string ⟨#[82, 69, 84, 67]⟩, .int .i64 4, .string ⟨#[82, 69, 84, 67, 78]⟩, .int .i64 4, .string ⟨#[67, 79, 78, 86]⟩, .int .i64 5, .string ⟨#[]⟩, .int .i64 6, .string ⟨#[]⟩, .int .i64 4, .string ⟨#[84, 79, 78]⟩, .int .i64 7, .string ⟨#[67, 84, 85]⟩, .int .i64 7, .string ⟨#[84, 82, 73, 71]⟩, .int .i64 8]
set_option maxHeartbeats 8000000 in
theorem ops_any (w : World) :
    Calls Try.prog 113 #[] w fun e w' => e = .returned (.slice (some ⟨w.heap.size,0,none⟩) 37 37) ∧ w' = w.alloc (.cells opsCells 147) := by
  go_enter Try.func113, Try.ntmps113
  go_wp2
  go_ret
  exact ⟨rfl, rfl⟩
theorem opsCells_nat (n : Nat) (h : n < 37) : opsCells[n*2]? = some (.string (onameL.getD n ⟨#[]⟩)) ∧ opsCells[n*2+1]? = some (.int .i64 (clsL.getD n 0)) := by
  rcases n with (_ | (_ | (_ | (_ | (_ | (_ | (_ | (_ | (_ | (_ | (_ | (_ | (_ | (_ | (_ | (_ | (_ | (_ | (_ | (_ | (_ | (_ | (_ | (_ | (_ | (_ | (_ | (_ | (_ | (_ | (_ | (_ | (_ | (_ | (_ | (_ | (_ | n)))))))))))))))))))))))))))))))))))))
  iterate 37
    · exact ⟨rfl, rfl⟩
  · omega
theorem opsCells_at (op : Int) (h0 : 0 ≤ op) (h1 : op ≤ 36) : opsCells[op.toNat*2]? = some (.string (oname op)) ∧ opsCells[op.toNat*2+1]? = some (.int .i64 (cls op)) := by
  have h := opsCells_nat op.toNat (by omega)
  rw [oname, cls, if_pos ⟨h0, h1⟩, if_pos ⟨h0, h1⟩]
  exact h
theorem ops_b (w : World) :
    Calls Try.prog 113 #[] w fun e w' => e = .returned (.slice (some ⟨w.heap.size,0,none⟩) 37 37) ∧ Below w.heap.size w w' ∧ w'.heap.size = w.heap.size + 1 ∧ ∀ op : Int, 0 ≤ op → op ≤ 36 →
       w'.cell? ⟨w.heap.size, op.toNat*2, none⟩ = some (.string (oname op)) ∧ w'.cell? ⟨w.heap.size, op.toNat*2+1, none⟩ = some (.int .i64 (cls op)) := by
  refine (ops_any w).mono ?_
  rintro e w' ⟨rfl, rfl⟩
  refine ⟨rfl, (Below.refl _ _).alloc (Nat.le_refl _) _, by simp, fun k h1 h2 => ?_⟩
  have h := opsCells_at k h1 h2
  simp only [cell_of_heap (heap_new _ _)]
  exact h
end Go.Proofs.Ytkhnalboodkddaa
