import Derived.Test.YtkhnalboodkddaaVm8
import Derived.Deep.RegionLawGrows
import Derived.Deep.RegionHeld3
set_option linter.unusedSimpArgs false
set_option linter.unusedVariables false
set_option maxRecDepth 100000
namespace Go.Proofs.Ytkhnalboodkddaa
open Go.RowKit
theorem step_append_own {P : Program} {ops : Array Oper} {o : Oper} {a : Act} {w : World} {K : Act → World → Prop} {Q : Exit → Act → World → Prop} {E : Prop}
    (hg : o.guard = none) (s x : Operand) (t : TypeId) (hop : o.op = Op.call { callee := Callee.builtin Builtin.append, args := #[s, x], argTypes := #[t, t] })
    (base : Nat) (e : TypeId) (i : TypeInfo) (z : Value) (size bytes : Nat) (h1 : P.underlying t = some (.slice e)) (h2 : P.info? e = some i) (h3 : i.zero = some z) (h4 : i.size = size) (h5 : i.bytes = bytes) (h6 : z.cells.size = size) (h7 : 0 < size)
    (v : Value) (n : Nat) (xs : List Value) (hs : a.eval s = v) (hown : w.ownsRow base e size v n xs)
    (ad : Addr) (m c : Nat) (news : List Value) (hx : a.eval x = .slice (some ad) m c) (hn : news.length = m * size) (hc : ∀ j u, news[j]? = some u → w.cell? (ad.add j) = some u) (h1c : ∀ u ∈ news, u.oneCell' = true)
    (b1 : n + m ≤ maxLen) (b2 : (n + m) * bytes ≤ 140737488355328) (hbase : base ≤ w.heap.size)
    (hK : ∀ v' w', w'.ownsRow base e size v' (n + m) (xs ++ news) → w.grownBy w' v.ownBlock → K (a.put o.dst v') w') :
    if Region.wanted o (yielded ops a.tmps) = true then Oper.wp P o a w K Q else E := by
  have hw : Region.wanted o (yielded ops a.tmps) = true := by simp [Region.wanted, hg]
  rw [if_pos hw]
  obtain ⟨v', w', hrun, r1, r2, _⟩ := run_append_own (P := P) w base t o.type e i z size bytes h1 h2 h3 h4 h5 h6 h7 v n xs hown ad m c news hn hc h1c b1 b2 hbase
  unfold Oper.wp
  simp [execOp, hop, resolve, invoke, builtin, hs, hx, hrun, Result.andThen]
  exact hK v' w' r1 r2
theorem only_of_grown {w w' : World} {q : Option Nat} (h : w.grownBy w' q) : Only q.toList w w' :=
  ⟨h.os, h.tape, h.output, h.size, fun k hk hn => h.block k hk (fun e => hn (by simp [e]))⟩
theorem own_form {w : World} {base size n : Nat} {e : TypeId} {v : Value} {xs : List Value} (h : w.ownsRow base e size v n xs) : ∃ A c, v = .slice A n c := by
  rcases h.2 with ⟨e1, e2⟩ | ⟨g, cap, cur, e1, _⟩
  · exact ⟨none, 0, by rw [e1, e2]⟩
  · exact ⟨_, cap, e1⟩
theorem info_bk : (Try.prog.info? 135).map (fun i => (i.zero, i.size, i.bytes)) = some (some (.agg #[.int .i64 0, .int .i64 0, .int .i64 0]), 3, 24) := by kernel_rfl
theorem bkCells_length (l : List (Int × Int × Int)) : (bkCells l).length = l.length * 3 := by
  induction l with
  | nil => rfl
  | cons x l ih => simp [bkCells] at ih ⊢; omega
theorem bkCells_snoc (l : List (Int × Int × Int)) (x : Int × Int × Int) : bkCells l ++ [.int .i64 x.1, .int .i64 x.2.1, .int .i64 x.2.2] = bkCells (l ++ [x]) := by simp [bkCells]
/-- A new row of brackets, in a world in which nothing else of the run has turned. -/
theorem RAt.push {w X : World} {B r : Nat} {b c : Nat → Nat} {s : Rs} {V V' : Value} (h : RAt w B r b c s V) (ho : Only V.ownBlock.toList w X) (x : Int × Int × Int)
    (hown : X.ownsRow B 135 3 V' (s.op ++ [x]).length (bkCells (s.op ++ [x]))) : RAt (X.setCell ⟨r, 7, none⟩ V') B r b c { s with op := s.op ++ [x] } V' := by
  have hmem : ∀ g, g ∈ V.ownBlock.toList → g ≠ r ∧ ∀ i, 1 ≤ i → i ≤ 4 → g ≠ b i := fun g hg => h.sep g (by simpa using hg)
  have hrX : X.heap[r]? = some (.cells (runCells b c s V) 75 (0, 0)) := (ho.block r h.lt (fun hm => (hmem r hm).1 rfl)).trans h.blk
  have hAX : ∀ i, 1 ≤ i → i ≤ 4 → Area X (b i) (s.ar i) := fun i i1 i4 => (h.area i i1 i4).only ho (fun hm => (hmem _ hm).2 i i1 i4 rfl)
  have hsep : ∀ g, V'.ownBlock = some g → g ≠ r ∧ ∀ i, 1 ≤ i → i ≤ 4 → g ≠ b i := by
    intro g hg
    rcases hown.2 with ⟨e, _⟩ | ⟨g', cap, cur, e, e2, e3, e4, e5, e6, e7⟩
    · rw [e] at hg; simp [Value.ownBlock] at hg
    · rw [e] at hg
      simp [Value.ownBlock] at hg
      subst hg
      refine ⟨fun e => ?_, fun i i1 i4 e => ?_⟩
      · rw [e, hrX] at e3
        injection e3 with e3
        injection e3 with _ e3
        revert e3; decide
      · have a0 := (hAX i i1 i4).cell 0 (by rw [h.len i i1 i4]; omega)
        rw [← e, cell_of_heap e3] at a0
        have hl := bkCells_length (s.op ++ [x])
        have h0 : cur[0]? = (bkCells (s.op ++ [x]))[0]? := by
          rw [← e7, List.getElem?_take, if_pos (by simp)]
          simp
        rw [h0] at a0
        cases hs : s.op with
        | nil => rw [hs] at a0; simp [bkCells] at a0
        | cons y l => rw [hs] at a0; simp [bkCells] at a0
  refine ⟨?_, ?_, hsep, fun i i1 i4 => ?_, h.len, h.ne, h.inj, h.base⟩
  · exact heap_setCell_same hrX 7 V'
  · refine ⟨hown.1, ?_⟩
    rcases hown.2 with h1 | ⟨g, cap, cur, e, e2, e3, e4⟩
    · exact Or.inl h1
    · refine Or.inr ⟨g, cap, cur, e, e2, ?_, e4⟩
      rw [Below.heap_setCell _ _ _ _ (by simp; exact (hsep g (by rw [e]; rfl)).1)]
      exact e3
  · exact (hAX i i1 i4).only ((Only.refl [r] X).setCell (by simp) _) (by simp; exact h.ne i i1 i4)
theorem bkCells_at (l : List (Int × Int × Int)) : ∀ i, i < l.length → (bkCells l)[i * 3]? = some (.int .i64 (l.getD i (0, 0, 0)).1) ∧ (bkCells l)[i * 3 + 1]? = some (.int .i64 (l.getD i (0, 0, 0)).2.1) ∧ (bkCells l)[i * 3 + 2]? = some (.int .i64 (l.getD i (0, 0, 0)).2.2) := by
  induction l with
  | nil => intro i h; simp at h
  | cons x l ih =>
    intro i h
    have e : bkCells (x :: l) = .int .i64 x.1 :: .int .i64 x.2.1 :: .int .i64 x.2.2 :: bkCells l := rfl
    rw [e]
    cases i with
    | zero => exact ⟨rfl, rfl, rfl⟩
    | succ i =>
      have := ih i (by simpa using h)
      simpa [show (i + 1) * 3 = i * 3 + 3 by omega, show (i * 3 + 3 + 1) = i * 3 + 1 + 3 by omega, show (i * 3 + 3 + 2) = i * 3 + 2 + 3 by omega] using this
/-- The bracket that was opened last. -/
theorem RAt.last {w : World} {B r : Nat} {b c : Nat → Nat} {s : Rs} {V : Value} (h : RAt w B r b c s V) (m : Nat) (hm : s.op.length = m + 1) :
    ∃ g cap x0 x1 x2, V = .slice (some ⟨g, 0, none⟩) (m + 1) cap ∧ lastBk s.op = (x0, x1, x2) ∧ w.cell? ⟨g, m * 3, none⟩ = some (.int .i64 x0) ∧ w.cell? ⟨g, m * 3 + 1, none⟩ = some (.int .i64 x1) ∧ w.cell? ⟨g, m * 3 + 2, none⟩ = some (.int .i64 x2) ∧ g ≠ r ∧ m + 1 ≤ cap ∧ cap ≤ maxLen := by
  rcases h.own.2 with ⟨e, e2⟩ | ⟨g, cap, cur, e, e2, e3, e4, e5, e6, e7⟩
  · omega
  · have hb := bkCells_at s.op m (by omega)
    have key : ∀ j, j < s.op.length * 3 → w.cell? ⟨g, j, none⟩ = (bkCells s.op)[j]? := by
      intro j hj
      rw [cell_of_heap e3, ← e7, List.getElem?_take, if_pos hj]
      simp
    refine ⟨g, cap, _, _, _, by rw [e, hm], ?_, (key _ (by omega)).trans hb.1, (key _ (by omega)).trans hb.2.1, (key _ (by omega)).trans hb.2.2, (h.sep g (by rw [e]; rfl)).1, by omega, e5⟩
    simp [lastBk, hm]
theorem bkCells_take (l : List (Int × Int × Int)) : ∀ m, m ≤ l.length → bkCells (l.take m) = (bkCells l).take (m * 3) := by
  induction l with
  | nil => intro m h; simp at h; subst h; rfl
  | cons x l ih =>
    intro m h
    cases m with
    | zero => simp [bkCells]
    | succ m =>
      have e : bkCells (x :: l) = .int .i64 x.1 :: .int .i64 x.2.1 :: .int .i64 x.2.2 :: bkCells l := rfl
      have e2 : bkCells ((x :: l).take (m + 1)) = .int .i64 x.1 :: .int .i64 x.2.1 :: .int .i64 x.2.2 :: bkCells (l.take m) := rfl
      rw [e, e2, ih m (by simpa using h), show (m + 1) * 3 = m * 3 + 1 + 1 + 1 by omega]
      rfl
theorem RAt.pop {w : World} {B r : Nat} {b c : Nat → Nat} {s : Rs} {A : Option Addr} {m cap : Nat} (h : RAt w B r b c s (.slice A (m + 1) cap)) (hm : s.op.length = m + 1) :
    RAt (w.setCell ⟨r, 7, none⟩ (.slice A m cap)) B r b c { s with op := s.op.take m } (.slice A m cap) := by
  have hsep : ∀ g, (Value.slice A m cap).ownBlock = some g → g ≠ r ∧ ∀ i, 1 ≤ i → i ≤ 4 → g ≠ b i := fun g hg => h.sep g (by
    cases A with
    | none => simp [Value.ownBlock] at hg
    | some a => simpa [Value.ownBlock] using hg)
  refine ⟨heap_setCell_same h.blk 7 _, ?_, hsep, fun i i1 i4 => (h.area i i1 i4).only ((Only.refl [r] w).setCell (by simp) _) (by simp; exact h.ne i i1 i4), h.len, h.ne, h.inj, h.base⟩
  have hl : (s.op.take m).length = m := by rw [List.length_take]; omega
  refine ⟨by rw [bkCells_length], ?_⟩
  rcases h.own.2 with ⟨e, e2⟩ | ⟨g, cap', cur, e, e2, e3, e4, e5, e6, e7⟩
  · omega
  · injection e with ea eb ec
    subst ec
    refine Or.inr ⟨g, cap, cur, by rw [hl, ea], e2, ?_, by rw [hl]; omega, e5, e6, ?_⟩
    · rw [Below.heap_setCell _ _ _ _ (by simp; exact (h.sep g (by rw [ea]; rfl)).1)]
      exact e3
    · rw [hl, bkCells_take _ _ (by omega), ← e7, List.take_take, show min (m * 3) (s.op.length * 3) = m * 3 by omega]
end Go.Proofs.Ytkhnalboodkddaa
