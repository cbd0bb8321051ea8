import Derived.Test.YtkhnalboodkddaaVer14
import Derived.Lib.SliceRun
set_option linter.unusedSimpArgs false
set_option linter.unusedVariables false
set_option maxRecDepth 100000
namespace Go.Proofs.Ytkhnalboodkddaa
open Go.RowKit
theorem info_ins : (Try.prog.info? 46).map (fun i => (i.zero, i.size, i.bytes)) = some (some (.agg #[.int .i64 0, .int .i64 0, .int .i64 0, .int .i64 0, .int .i64 0]), 5, 40) := by kernel_rfl
/-- What check answers. -/
def checkE (code : List Ins) : Int × Nat := match verifyV code with | .error x => x | .ok _ => (0, 0)
theorem check_any (A : Option Addr) (n c : Nat) (code : List Ins) (w : World) (hn : n = code.length) (hmax : n ≤ 9223372036854775807) (hc : InsAt w A code) :
    Calls Try.prog 24 #[.slice A n c] w fun e w' => e = .returned (.tuple #[.int .i64 (checkE code).1, .int .i64 ((checkE code).2 : Int)]) ∧ Below w.heap.size w w' := by
  have key : Calls Try.prog 38 #[.slice A n c] w fun e w' => ∃ v, e = .returned (.tuple #[v, .int .i64 (checkE code).1, .int .i64 ((checkE code).2 : Int)]) ∧ Below w.heap.size w w' := by
    refine (all_any A n c code w hn hmax hc).mono ?_
    intro e w' h
    unfold AllRet at h
    split at h
    · rename_i x k hx
      have e2 : checkE code = (x, k) := by unfold checkE; rw [hx]
      rw [e2]
      exact ⟨_, h.1, h.2⟩
    · rename_i t hx
      have e2 : checkE code = (0, 0) := by unfold checkE; rw [hx]
      rw [e2]
      obtain ⟨tb, p, h1, _, _, h2⟩ := h
      exact ⟨_, h1, h2⟩
  generalize (checkE code).1 = x at *
  generalize ((checkE code).2 : Int) = y at *
  have K := hid key
  clear key hc hmax hn
  go_enter Try.func24, Try.ntmps24
  go_wp2_with (first | (go_at_call 38; refine K.out.mono ?_; rintro e w1 ⟨v, rfl, hb⟩))
  exact bodyPost_ret (v := .tuple #[.int .i64 x, .int .i64 y]) (by simp [results, Try.results24, go_sem]) rfl ⟨rfl, by assumption⟩
def insCells (l : List Ins) : List Value := l.flatMap fun i => [.int .i64 i.op, .int .i64 i.kind, .int .i64 i.area, .int .i64 i.at_, .int .i64 i.n]
theorem insCells_length (l : List Ins) : (insCells l).length = l.length * 5 := by
  induction l with
  | nil => rfl
  | cons x l ih => simp [insCells] at ih ⊢; omega
/-- The k-th cell of an instruction. -/
def insCell (i : Ins) : Nat → Value
  | 0 => .int .i64 i.op
  | 1 => .int .i64 i.kind
  | 2 => .int .i64 i.area
  | 3 => .int .i64 i.at_
  | _ => .int .i64 i.n
theorem insCells_at (l : List Ins) : ∀ (i k : Nat), i < l.length → k < 5 → (insCells l)[i * 5 + k]? = some (insCell (l.getD i ⟨0, 0, 0, 0, 0⟩) k) := by
  induction l with
  | nil => intro i k h; simp at h
  | cons x l ih =>
    intro i k h hk
    have e : insCells (x :: l) = [.int .i64 x.op, .int .i64 x.kind, .int .i64 x.area, .int .i64 x.at_, .int .i64 x.n] ++ insCells l := rfl
    rw [e]
    cases i with
    | zero =>
      rw [List.getElem?_append_left (by simp; omega)]
      match k, hk with
      | 0, _ => rfl
      | 1, _ => rfl
      | 2, _ => rfl
      | 3, _ => rfl
      | 4, _ => rfl
    | succ i =>
      rw [List.getElem?_append_right (by simp; omega)]
      have := ih i k (by simpa using h) hk
      simpa [show (i + 1) * 5 + k - 5 = i * 5 + k by omega] using this
theorem InsAt.cell {w : World} {A : Option Addr} {l : List Ins} (h : InsAt w A l) {i k : Nat} (hi : i < l.length) (hk : k < 5) : ∃ b o, A = some ⟨b, o, none⟩ ∧ b < w.heap.size ∧ w.cell? ⟨b, o + i * 5 + k, none⟩ = some (insCell (l.getD i ⟨0, 0, 0, 0, 0⟩) k) := by
  obtain ⟨b, o, e, hlt, hc⟩ := h (by intro h; subst h; simp at hi)
  obtain ⟨h0, h1, h2, h3, h4⟩ := hc i hi
  refine ⟨b, o, e, hlt, ?_⟩
  match k, hk with
  | 0, _ => exact h0
  | 1, _ => exact h1
  | 2, _ => exact h2
  | 3, _ => exact h3
  | 4, _ => exact h4
theorem InsAt.olds {w : World} {A : Option Addr} {l : List Ins} (h : InsAt w A l) : ∀ b, A = some b → ∀ j u, (insCells l)[j]? = some u → w.cell? (b.add j) = some u := by
  intro a ha j u hu
  have hj := (List.getElem?_eq_some_iff.1 hu).1
  rw [insCells_length] at hj
  obtain ⟨b, o, e, _, hc⟩ := h.cell (i := j / 5) (k := j % 5) (by omega) (by omega)
  subst ha
  injection e with e
  subst e
  rw [show (⟨b, o, none⟩ : Addr).add j = ⟨b, o + j, none⟩ by unfold Addr.add; split <;> simp_all]
  have h2 := insCells_at l (j / 5) (j % 5) (by omega) (by omega)
  rw [show j / 5 * 5 + j % 5 = j by omega, hu] at h2
  rw [show o + j / 5 * 5 + j % 5 = o + j by omega] at hc
  rw [hc]
  exact h2.symm
theorem InsAt.owned {w : World} {base n : Nat} {v : Value} {l : List Ins} (h : w.ownsRow base 46 5 v n (insCells l)) : ∃ A c, v = .slice A l.length c ∧ n = l.length ∧ l.length ≤ c ∧ c ≤ 9223372036854775807 ∧ InsAt w A l ∧ (∀ b, A = some b → base ≤ b.block ∧ b.block < w.heap.size) := by
  have hn : n = l.length := by have := h.1; rw [insCells_length] at this; omega
  subst hn
  rcases h.2 with ⟨rfl, h0⟩ | ⟨g, cap, cur, rfl, hg, hh, h1, h2, h3, h4⟩
  · refine ⟨none, 0, by rw [h0], rfl, by omega, by omega, fun hl => ?_, by simp⟩
    exact absurd (List.eq_nil_of_length_eq_zero h0) hl
  · refine ⟨_, cap, rfl, rfl, h1, by unfold maxLen at h2; omega, fun _ => ⟨g, 0, rfl, heap_lt hh, fun i hi => ?_⟩, by rintro b ⟨⟩; exact ⟨hg, heap_lt hh⟩⟩
    have key : ∀ k, k < 5 → w.cell? ⟨g, 0 + i * 5 + k, none⟩ = some (insCell (l.getD i ⟨0, 0, 0, 0, 0⟩) k) := by
      intro k hk
      rw [cell_of_heap hh, ← insCells_at l i k hi hk, ← h4, List.getElem?_take, if_pos (by omega)]
      simp
    exact ⟨key 0 (by omega), key 1 (by omega), key 2 (by omega), key 3 (by omega), key 4 (by omega)⟩
theorem insCells_one (l : List Ins) : ∀ u ∈ insCells l, u.oneCell' = true := by
  intro u hu
  simp only [insCells, List.mem_flatMap] at hu
  obtain ⟨i, _, hu⟩ := hu
  simp at hu
  rcases hu with rfl | rfl | rfl | rfl | rfl <;> rfl
theorem clone_nil (n c : Nat) (w : World) : Calls Try.prog 25 #[.slice none n c] w fun e w' => e = .returned (.slice none 0 0) ∧ w' = w := by
  have q : ∀ (w : World) (a : Option Addr) (n c n' c' : Nat), (binOp .eql 22 (.slice a n c) (.slice none n' c')).run Try.prog w = .ok (.bool a.isNone) w := fun w a n c n' c' => Lib.run_eql_slice_nil w _ _ a n c n' c' Try.underlying22
  go_enter Try.func25, Try.ntmps25
  go_wp2
  go_ret
  exact ⟨rfl, rfl⟩
set_option maxHeartbeats 2000000 in
theorem clone_some (a : Addr) (n c : Nat) (code : List Ins) (w : World) (hn : n = code.length) (h200 : n ≤ 1048576) (hc : InsAt w (some a) code) :
    Calls Try.prog 25 #[.slice (some a) n c] w fun e w' => ∃ v, e = .returned v ∧ w'.ownsRow w.heap.size 46 5 v n (insCells code) ∧ v ≠ .slice none 0 0 ∧ Below w.heap.size w w' := by
  have q : ∀ (w : World) (a : Option Addr) (n c n' c' : Nat), (binOp .eql 22 (.slice a n c) (.slice none n' c')).run Try.prog w = .ok (.bool a.isNone) w := fun w a n c n' c' => Lib.run_eql_slice_nil w _ _ a n c n' c' Try.underlying22
  have u : ∀ w, Sem.run Try.prog (underlying 22) w = .ok (TypeDesc.slice 46) w := run_underlying Try.underlying22
  obtain ⟨i0, hi, hz0, hz1, hz2⟩ := info_parts info_ins
  have hl : (insCells code).length = n * 5 := by rw [insCells_length, hn]
  have ho := hc.olds a rfl
  have hx : ∀ x ∈ insCells code, x.oneCell' = true := insCells_one code
  generalize insCells code = xs at *
  have HO := hid ho
  have HL := hid hl
  have HX := hid hx
  clear ho hl hx hc hn
  go_enter Try.func25, Try.ntmps25
  go_wp2_with (at_builtin; refine wpList_append_own _ rfl _ _ 22 rfl w.heap.size 46 i0 _ 5 40 Try.underlying22 hi hz0 hz1 hz2 rfl (by decide) _ _ _ rfl (World.ownsRow_made w #[] 0 (Nat.le_refl _) (Nat.zero_le _) rfl) a n c xs rfl ?qc1 ?qc2 ?qc3 ?qc4 ?qc5 ?qc6 ?_)
  case qc1 => exact HL.out
  case qc2 => intro j u hj; exact Lib.cell?_alloc_some _ (HO.out j u hj)
  case qc3 => exact HX.out
  case qc4 => unfold maxLen; omega
  case qc5 => omega
  case qc6 => simp
  intro v' w1 hown hgrow hnil
  go_wp2
  go_ret
  refine ⟨v', rfl, by simpa using hown, ?_, ?_⟩
  · exact hnil
  · exact ((Below.refl _ w).alloc (Nat.le_refl _) _).grown hgrow (by simp) (by intro k hk; simp [Value.ownBlock] at hk; omega)
theorem clone_any (A : Option Addr) (n c : Nat) (code : List Ins) (w : World) (hn : n = code.length) (h200 : n ≤ 1048576) (hc : InsAt w A code) :
    Calls Try.prog 25 #[.slice A n c] w fun e w' => ∃ A' c', e = .returned (.slice A' n c') ∧ (A' = none ↔ A = none) ∧ n ≤ c' ∧ c' ≤ 9223372036854775807 ∧ InsAt w' A' code ∧ (∀ b, A' = some b → w.heap.size ≤ b.block ∧ b.block < w'.heap.size) ∧ Below w.heap.size w w' := by
  cases A with
  | none =>
    have h0 : code = [] := by
      by_cases h : code = []
      · exact h
      · obtain ⟨b, o, e, _⟩ := hc h
        cases e
    subst h0
    refine (clone_nil n c w).mono ?_
    rintro e w' ⟨rfl, rfl⟩
    exact ⟨none, 0, by rw [hn]; rfl, by simp, by simp [hn], by omega, hc, by simp, Below.refl _ _⟩
  | some a =>
    refine (clone_some a n c code w hn h200 hc).mono ?_
    rintro e w' ⟨v, rfl, hown, hv, hb⟩
    obtain ⟨A', c', rfl, rfl, h1, h2, h3, h4⟩ := InsAt.owned hown
    refine ⟨A', c', rfl, ⟨fun h => ?_, fun h => by cases h⟩, h1, h2, h3, h4, hb⟩
    subst h
    rcases hown.2 with ⟨h, _⟩ | ⟨g, cap, cur, h, _⟩
    · exact absurd h hv
    · cases h
end Go.Proofs.Ytkhnalboodkddaa
