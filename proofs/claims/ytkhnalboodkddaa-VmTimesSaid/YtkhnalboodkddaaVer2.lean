import Derived.Test.YtkhnalboodkddaaVer1
import Derived.Deep.RegionHeld3
import Derived.Deep.RegionLawGrows
import Derived.Deep.AppendLies
set_option linter.unusedSimpArgs false
set_option linter.unusedVariables false
set_option maxRecDepth 100000
namespace Go.Proofs.Ytkhnalboodkddaa
open Go.RowKit
theorem info_br : (Try.prog.info? 157).map (fun i => (i.zero, i.size, i.bytes)) = some (some (.agg #[.int .i64 0, .int .i64 0]), 2, 16) := by kernel_rfl
def brCells (l : List Br) : List Value := l.flatMap fun x => [.int .i64 x.1, .int .i64 x.2]
theorem brCells_length (l : List Br) : (brCells l).length = l.length * 2 := by
  induction l with
  | nil => rfl
  | cons x l ih => simp [brCells] at ih ⊢; omega
theorem brCells_at (l : List Br) : ∀ (j : Nat) (u : Value), (brCells l)[j]? = some u → (j % 2 = 0 → u = .int .i64 (l.getD (j / 2) (0, 0)).1) ∧ (j % 2 = 1 → u = .int .i64 (l.getD (j / 2) (0, 0)).2) ∧ j / 2 < l.length := by
  induction l with
  | nil => intro j u h; simp [brCells] at h
  | cons x l ih =>
    intro j u h
    match j, h with
    | 0, h => simp [brCells] at h; subst h; simp
    | 1, h => simp [brCells] at h; subst h; simp
    | j + 2, h =>
      have h' : (brCells l)[j]? = some u := by simpa [brCells] using h
      have := ih j u h'
      have e1 : (j + 2) / 2 = j / 2 + 1 := by omega
      have e2 : (j + 2) % 2 = j % 2 := by omega
      rw [e1, e2]
      simpa using this
theorem BrAt.olds {w : World} {A : Option Addr} {l : List Br} (h : BrAt w A l) : ∀ b, A = some b → ∀ j u, (brCells l)[j]? = some u → w.cell? (b.add j) = some u := by
  intro b hb j u hu
  obtain ⟨h0, h1, hlt⟩ := brCells_at l j u hu
  obtain ⟨b', e, _, c0, c1⟩ := h.cells (j / 2) hlt
  subst hb
  injection e with e
  subst e
  rw [show (⟨b', 0, none⟩ : Addr).add j = ⟨b', j, none⟩ by unfold Addr.add; split <;> simp_all]
  rcases Nat.mod_two_eq_zero_or_one j with e | e
  · rw [show j = j / 2 * 2 by omega, c0, ← h0 e]
  · rw [show j = j / 2 * 2 + 1 by omega, c1, ← h1 e]
theorem BrAt.owned {w : World} {base n : Nat} {v : Value} {l : List Br} (h : w.ownsRow base 157 2 v n (brCells l)) : ∃ A c, v = .slice A l.length c ∧ n = l.length ∧ l.length ≤ c ∧ c ≤ 9223372036854775807 ∧ BrAt w A l := by
  have hn : n = l.length := by have := h.1; rw [brCells_length] at this; omega
  subst hn
  rcases h.2 with ⟨rfl, h0⟩ | ⟨g, cap, cur, rfl, _, hh, h1, h2, h3, h4⟩
  · refine ⟨none, 0, by rw [h0], rfl, by omega, by omega, fun hl => ?_⟩
    exact absurd (List.eq_nil_of_length_eq_zero h0) hl
  · refine ⟨_, cap, rfl, rfl, h1, by unfold maxLen at h2; omega, fun _ => ⟨g, cur, _, rfl, hh, fun i hi => ?_⟩⟩
    have key : ∀ j, j < l.length * 2 → cur[j]? = (brCells l)[j]? := by
      intro j hj
      rw [← h4, List.getElem?_take, if_pos hj]
      simp
    have hl := brCells_length l
    constructor
    · rw [key _ (by omega)]
      have hs : (brCells l)[i * 2]? = some ((brCells l)[i * 2]'(by omega)) := List.getElem?_eq_getElem (by omega)
      rw [hs]
      obtain ⟨h0, _, _⟩ := brCells_at l _ _ hs
      rw [h0 (by omega), show i * 2 / 2 = i by omega]
    · rw [key _ (by omega)]
      have hs : (brCells l)[i * 2 + 1]? = some ((brCells l)[i * 2 + 1]'(by omega)) := List.getElem?_eq_getElem (by omega)
      rw [hs]
      obtain ⟨_, h1, _⟩ := brCells_at l _ _ hs
      rw [h1 (by omega), show (i * 2 + 1) / 2 = i by omega]
end Go.Proofs.Ytkhnalboodkddaa
