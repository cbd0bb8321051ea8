import Derived.Test.YtkhnalboodkddaaBase
namespace Go.Proofs.Ytkhnalboodkddaa
open Go.RowKit
def ksize (k : Int) : Int := if k = 1 then 1 else if k = 2 then 1 else if k = 3 then 2 else if k = 4 then 4 else if k = 5 then 2 else if k = 6 then 2 else if k = 7 then 4 else 0
def ksigned (k : Int) : Bool := decide (k = 2 ∨ k = 3 ∨ k = 4)
def kbits (k : Int) : Bool := decide (k = 1 ∨ k = 6 ∨ k = 7)
def kname (k : Int) : ByteArray := if k = 1 then ⟨#[66, 79, 79, 76]⟩ else if k = 2 then ⟨#[83, 73, 78, 84]⟩ else if k = 3 then ⟨#[73, 78, 84]⟩ else if k = 4 then ⟨#[68, 73, 78, 84]⟩ else if k = 5 then ⟨#[85, 73, 78, 84]⟩ else if k = 6 then ⟨#[87, 79, 82, 68]⟩ else if k = 7 then ⟨#[68, 87, 79, 82, 68]⟩ else ⟨#[]⟩
def isKind (k : Int) : Bool := decide (1 ≤ k ∧ k ≤ 7)
theorem kind_cases (k : Int) : (k = 1 ∨ k = 2 ∨ k = 3 ∨ k = 4 ∨ k = 5 ∨ k = 6 ∨ k = 7) ∨ (k < 1 ∨ 7 < k) := by omega
def kindsCells : Array Value := #[Value.string { data := #[] }, Value.int IntKind.i64 0, Value.bool false, Value.bool false,
          Value.string { data := #[66, 79, 79, 76] }, Value.int IntKind.i64 1, Value.bool false, Value.bool true,
          Value.string { data := #[83, 73, 78, 84] }, Value.int IntKind.i64 1, Value.bool true, Value.bool false,
          Value.string { data := #[73, 78, 84] }, Value.int IntKind.i64 2, Value.bool true, Value.bool false,
          Value.string { data := #[68, 73, 78, 84] }, Value.int IntKind.i64 4, Value.bool true, Value.bool false,
          Value.string { data := #[85, 73, 78, 84] }, Value.int IntKind.i64 2, Value.bool false, Value.bool false,
          Value.string { data := #[87, 79, 82, 68] }, Value.int IntKind.i64 2, Value.bool false, Value.bool true,
          Value.string { data := #[68, 87, 79, 82, 68] }, Value.int IntKind.i64 4, Value.bool false, Value.bool true]
theorem kindsCells_at (k : Int) (h1 : 1 ≤ k) (h2 : k ≤ 7) : kindsCells[k.toNat*4]? = some (.string (kname k)) ∧ kindsCells[k.toNat*4+1]? = some (.int .i64 (ksize k)) ∧ kindsCells[k.toNat*4+2]? = some (.bool (ksigned k)) ∧ kindsCells[k.toNat*4+3]? = some (.bool (kbits k)) := by
  rcases kind_cases k with (rfl | rfl | rfl | rfl | rfl | rfl | rfl) | h | h
  iterate 7
    · exact ⟨rfl, rfl, rfl, rfl⟩
  · omega
  · omega
theorem kinds_any (w : World) :
    Calls Try.prog 119 #[] w fun e w' => e = .returned (.slice (some ⟨w.heap.size,0,none⟩) 8 8) ∧ w' = (w.alloc (Obj.cells kindsCells 167)) := by
  go_enter Try.func119, Try.ntmps119
  go_wp2
  go_ret
  exact ⟨rfl, rfl⟩
theorem kinds_b (w : World) :
    Calls Try.prog 119 #[] w fun e w' => e = .returned (.slice (some ⟨w.heap.size,0,none⟩) 8 8) ∧ Below w.heap.size w w' ∧ w'.heap.size = w.heap.size + 1 ∧ ∀ k : Int, 1 ≤ k → k ≤ 7 → 
       w'.cell? ⟨w.heap.size, k.toNat*4, none⟩ = some (.string (kname k)) ∧ w'.cell? ⟨w.heap.size, k.toNat*4+1, none⟩ = some (.int .i64 (ksize k)) ∧ w'.cell? ⟨w.heap.size, k.toNat*4+2, none⟩ = some (.bool (ksigned k)) ∧ w'.cell? ⟨w.heap.size, k.toNat*4+3, none⟩ = some (.bool (kbits k)) := by
  refine (kinds_any w).mono ?_
  rintro e w' ⟨rfl, rfl⟩
  refine ⟨rfl, (Below.refl _ _).alloc (Nat.le_refl _) _, by simp, fun k h1 h2 => ?_⟩
  have h := kindsCells_at k h1 h2
  simp only [cell_of_heap (heap_new _ _)]
  exact h
end Go.Proofs.Ytkhnalboodkddaa
