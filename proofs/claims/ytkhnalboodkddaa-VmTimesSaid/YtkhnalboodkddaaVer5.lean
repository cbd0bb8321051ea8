import Derived.Test.YtkhnalboodkddaaVer4
set_option linter.unusedSimpArgs false
set_option linter.unusedVariables false
set_option maxRecDepth 100000
namespace Go.Proofs.Ytkhnalboodkddaa
open Go.RowKit
/-- While the answer to 'what is behind' is made: its three own blocks, and all else as it was. -/
structure Zb (w : World) (kind : Int) (A : Option Addr) (n c : Nat) (op kd ar at_ nn : Int) (l : List Br) (X : World) : Prop where
  c0 : X.cell? ⟨w.heap.size, 0, none⟩ = some (.int .i64 kind)
  c1 : X.cell? ⟨w.heap.size, 1, none⟩ = some (.slice A n c)
  d0 : X.cell? ⟨w.heap.size + 1, 0, none⟩ = some (.int .i64 op)
  d1 : X.cell? ⟨w.heap.size + 1, 1, none⟩ = some (.int .i64 kd)
  d2 : X.cell? ⟨w.heap.size + 1, 2, none⟩ = some (.int .i64 ar)
  d3 : X.cell? ⟨w.heap.size + 1, 3, none⟩ = some (.int .i64 at_)
  d4 : X.cell? ⟨w.heap.size + 1, 4, none⟩ = some (.int .i64 nn)
  z0 : X.cell? ⟨w.heap.size + 1 + 1, 0, none⟩ = some (.int .i64 0)
  z1 : X.cell? ⟨w.heap.size + 1 + 1, 1, none⟩ = some (.slice none 0 0)
  f0 : X.frozen? ⟨w.heap.size + 1 + 1, 0, none⟩ = false
  f1 : X.frozen? ⟨w.heap.size + 1 + 1, 1, none⟩ = false
  bel : Below w.heap.size w X
  sz : w.heap.size + 3 ≤ X.heap.size
  br : BrAt X A l
  ty : Typ X (w.heap.size + 1 + 1) 114
section
variable {w : World} {kind : Int} {A : Option Addr} {n c : Nat} {op kd ar at_ nn : Int} {l : List Br} {X Y : World}
theorem Zb.below (h : Zb w kind A n c op kd ar at_ nn l X) (hb : Below X.heap.size X Y) : Zb w kind A n c op kd ar at_ nn l Y := by
  have hs := h.sz
  refine ⟨(hb.cell (by simp; omega)).trans h.c0, (hb.cell (by simp; omega)).trans h.c1, (hb.cell (by simp; omega)).trans h.d0, (hb.cell (by simp; omega)).trans h.d1, (hb.cell (by simp; omega)).trans h.d2, (hb.cell (by simp; omega)).trans h.d3, (hb.cell (by simp; omega)).trans h.d4,
    (hb.cell (by simp; omega)).trans h.z0, (hb.cell (by simp; omega)).trans h.z1, (hb.frozen (by simp; omega)).trans h.f0, (hb.frozen (by simp; omega)).trans h.f1, below_then' h.bel hb, Nat.le_trans hs hb.size, h.br.below hb, h.ty.below hb⟩
theorem Zb.drew (h : Zb w kind A n c op kd ar at_ nn l X) : Zb w kind A n c op kd ar at_ nn l X.drew := h.below (Below.refl _ _).drew
theorem Zb.start (w : World) (kind : Int) (A : Option Addr) (n c : Nat) (op kd ar at_ nn : Int) (l : List Br) (hb : BrAt w A l) :
    Zb w kind A n c op kd ar at_ nn l (((w.alloc (.cells #[.int .i64 kind, .slice A n c] 114)).alloc (.cells #[.int .i64 op, .int .i64 kd, .int .i64 ar, .int .i64 at_, .int .i64 nn] 46)).alloc (.cells #[.int .i64 0, .slice none 0 0] 114)) := by
  refine ⟨by simp [go_sem], by simp [go_sem], by simp [go_sem], by simp [go_sem], by simp [go_sem], by simp [go_sem], by simp [go_sem], by simp [go_sem], by simp [go_sem], by simp [go_sem], by simp [go_sem], (by repeat (first | exact Below.refl _ _ | assumption | (with_reducible refine below_alloc' ?_ _) | (with_reducible refine below_drew' ?_) | (with_reducible refine below_drewN' ?_ _) | (with_reducible refine below_setCell' ?_ (by first | omega | (simp; omega) | (simp; done)) _) | (refine below_then' ?_ (by assumption)))), by simp, hb.below (by repeat (first | exact Below.refl _ _ | assumption | (with_reducible refine below_alloc' ?_ _) | (with_reducible refine below_drew' ?_) | (with_reducible refine below_drewN' ?_ _) | (with_reducible refine below_setCell' ?_ (by first | omega | (simp; omega) | (simp; done)) _) | (refine below_then' ?_ (by assumption)))), ?_⟩
  have := Typ.new ((w.alloc (.cells #[.int .i64 kind, .slice A n c] 114)).alloc (.cells #[.int .i64 op, .int .i64 kd, .int .i64 ar, .int .i64 at_, .int .i64 nn] 46)) #[.int .i64 0, .slice none 0 0] 114
  simpa using this
/-- The answer stands in its block. -/
theorem Zb.end_ (h : Zb w kind A n c op kd ar at_ nn l X) {A' : Option Addr} {c' m : Nat} {k' : Int} {l' : List Br} (hb : BrAt X A' l') :
    Below w.heap.size w ((X.setCell ⟨w.heap.size + 1 + 1, 0, none⟩ (.int .i64 k')).setCell ⟨w.heap.size + 1 + 1, 1, none⟩ (.slice A' m c')) ∧
    BrAt ((X.setCell ⟨w.heap.size + 1 + 1, 0, none⟩ (.int .i64 k')).setCell ⟨w.heap.size + 1 + 1, 1, none⟩ (.slice A' m c')) A' l' :=
  ⟨below_setCell' (below_setCell' h.bel (by simp; omega) _) (by simp; omega) _, (hb.setCell h.ty (by decide) _ _).setCell (h.ty.setCell _ _) (by decide) _ _⟩
/-- What the loads read. -/
theorem Zb.s (h : Zb w kind A n c op kd ar at_ nn l X) : X.cell? ⟨w.heap.size, 0, none⟩ = some (.int .i64 kind) ∧ X.cell? ⟨w.heap.size, 1, none⟩ = some (.slice A n c) ∧ X.cell? ⟨w.heap.size + 1, 0, none⟩ = some (.int .i64 op) ∧ X.cell? ⟨w.heap.size + 1, 1, none⟩ = some (.int .i64 kd) := ⟨h.c0, h.c1, h.d0, h.d1⟩
theorem Zb.s1 (h : Zb w kind A n c op kd ar at_ nn l X) (v : Value) (o : Nat) : (X.setCell ⟨w.heap.size + 1 + 1, o, none⟩ v).cell? ⟨w.heap.size, 0, none⟩ = some (.int .i64 kind) ∧ (X.setCell ⟨w.heap.size + 1 + 1, o, none⟩ v).cell? ⟨w.heap.size, 1, none⟩ = some (.slice A n c) ∧ (X.setCell ⟨w.heap.size + 1 + 1, o, none⟩ v).cell? ⟨w.heap.size + 1, 0, none⟩ = some (.int .i64 op) ∧ (X.setCell ⟨w.heap.size + 1 + 1, o, none⟩ v).cell? ⟨w.heap.size + 1, 1, none⟩ = some (.int .i64 kd) := by
  refine ⟨?_, ?_, ?_, ?_⟩
  · rw [World.cell?_setCell_other _ _ _ _ (by simp)]; exact h.c0
  · rw [World.cell?_setCell_other _ _ _ _ (by simp)]; exact h.c1
  · rw [World.cell?_setCell_other _ _ _ _ (by simp)]; exact h.d0
  · rw [World.cell?_setCell_other _ _ _ _ (by simp)]; exact h.d1
theorem Zb.s2 (h : Zb w kind A n c op kd ar at_ nn l X) (v u : Value) (o p : Nat) : ((X.setCell ⟨w.heap.size + 1 + 1, o, none⟩ v).setCell ⟨w.heap.size + 1 + 1, p, none⟩ u).cell? ⟨w.heap.size, 0, none⟩ = some (.int .i64 kind) ∧ ((X.setCell ⟨w.heap.size + 1 + 1, o, none⟩ v).setCell ⟨w.heap.size + 1 + 1, p, none⟩ u).cell? ⟨w.heap.size, 1, none⟩ = some (.slice A n c) ∧ ((X.setCell ⟨w.heap.size + 1 + 1, o, none⟩ v).setCell ⟨w.heap.size + 1 + 1, p, none⟩ u).cell? ⟨w.heap.size + 1, 0, none⟩ = some (.int .i64 op) ∧ ((X.setCell ⟨w.heap.size + 1 + 1, o, none⟩ v).setCell ⟨w.heap.size + 1 + 1, p, none⟩ u).cell? ⟨w.heap.size + 1, 1, none⟩ = some (.int .i64 kd) := by
  refine ⟨?_, ?_, ?_, ?_⟩
  · rw [World.cell?_setCell_other _ _ _ _ (by simp)]; exact (h.s1 v o).1
  · rw [World.cell?_setCell_other _ _ _ _ (by simp)]; exact (h.s1 v o).2.1
  · rw [World.cell?_setCell_other _ _ _ _ (by simp)]; exact (h.s1 v o).2.2.1
  · rw [World.cell?_setCell_other _ _ _ _ (by simp)]; exact (h.s1 v o).2.2.2
end
end Go.Proofs.Ytkhnalboodkddaa
