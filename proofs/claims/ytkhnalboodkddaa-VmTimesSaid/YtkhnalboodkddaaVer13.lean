import Derived.Test.YtkhnalboodkddaaVer12
set_option linter.unusedSimpArgs false
set_option linter.unusedVariables false
set_option maxRecDepth 100000
namespace Go.Proofs.Ytkhnalboodkddaa
open Go.RowKit
/-- In a round of verify.all: the instruction's own block, the table's cell, and what stands behind it. -/
structure Yb (wr : World) (tb k q : Nat) (a : Ah) (A : Option Addr) (c : Nat) (op kd ar at_ nn : Int) (X : World) : Prop where
  y0 : X.cell? ⟨wr.heap.size, 0, none⟩ = some (.int .i64 op)
  y1 : X.cell? ⟨wr.heap.size, 1, none⟩ = some (.int .i64 kd)
  y2 : X.cell? ⟨wr.heap.size, 2, none⟩ = some (.int .i64 ar)
  y3 : X.cell? ⟨wr.heap.size, 3, none⟩ = some (.int .i64 at_)
  y4 : X.cell? ⟨wr.heap.size, 4, none⟩ = some (.int .i64 nn)
  y5 : X.cell? ⟨tb, k, none⟩ = some (.pointer (some ⟨q, 0, none⟩))
  y6 : X.cell? ⟨q, 0, none⟩ = some (.int .i64 a.kind)
  y7 : X.cell? ⟨q, 1, none⟩ = some (.slice A a.op.length c)
  bel : Below wr.heap.size wr X
  sz : wr.heap.size + 1 ≤ X.heap.size
  tlt : tb < wr.heap.size
  plt : q < wr.heap.size
section
variable {wr : World} {tb k q : Nat} {a : Ah} {A : Option Addr} {c : Nat} {op kd ar at_ nn : Int} {X Y : World}
theorem Yb.below (h : Yb wr tb k q a A c op kd ar at_ nn X) (hb : Below X.heap.size X Y) : Yb wr tb k q a A c op kd ar at_ nn Y := by
  have hs := h.sz
  have ht := h.tlt
  have hp := h.plt
  exact ⟨(hb.cell (by simp; omega)).trans h.y0, (hb.cell (by simp; omega)).trans h.y1, (hb.cell (by simp; omega)).trans h.y2, (hb.cell (by simp; omega)).trans h.y3, (hb.cell (by simp; omega)).trans h.y4,
    (hb.cell (by simp; omega)).trans h.y5, (hb.cell (by simp; omega)).trans h.y6, (hb.cell (by simp; omega)).trans h.y7, below_then' h.bel hb, Nat.le_trans hs hb.size, ht, hp⟩
theorem Yb.drew (h : Yb wr tb k q a A c op kd ar at_ nn X) : Yb wr tb k q a A c op kd ar at_ nn X.drew := h.below (Below.refl _ _).drew
theorem Yb.alloc (h : Yb wr tb k q a A c op kd ar at_ nn X) (o : Obj) : Yb wr tb k q a A c op kd ar at_ nn (X.alloc o) := h.below ((Below.refl _ _).alloc (Nat.le_refl _) o)
theorem Yb.set (h : Yb wr tb k q a A c op kd ar at_ nn X) {p : Nat} (hp : wr.heap.size + 1 ≤ p) (o : Nat) (v : Value) : Yb wr tb k q a A c op kd ar at_ nn (X.setCell ⟨p, o, none⟩ v) := by
  have ht := h.tlt
  have hq := h.plt
  have e : ∀ b j, b < p → (X.setCell ⟨p, o, none⟩ v).cell? ⟨b, j, none⟩ = X.cell? ⟨b, j, none⟩ := fun b j hb => World.cell?_setCell_other _ _ _ _ (fun e => by injection e with e; omega)
  exact ⟨(e _ _ (by omega)).trans h.y0, (e _ _ (by omega)).trans h.y1, (e _ _ (by omega)).trans h.y2, (e _ _ (by omega)).trans h.y3, (e _ _ (by omega)).trans h.y4, (e _ _ (by omega)).trans h.y5, (e _ _ (by omega)).trans h.y6, (e _ _ (by omega)).trans h.y7,
    h.bel.setCell (by simp; omega) _, by simp; exact h.sz, ht, hq⟩
theorem Yb.s (h : Yb wr tb k q a A c op kd ar at_ nn X) : X.cell? ⟨tb, k, none⟩ = some (.pointer (some ⟨q, 0, none⟩)) ∧ X.cell? ⟨q, 0, none⟩ = some (.int .i64 a.kind) ∧ X.cell? ⟨q, 1, none⟩ = some (.slice A a.op.length c) ∧
    X.cell? ⟨wr.heap.size, 0, none⟩ = some (.int .i64 op) ∧ X.cell? ⟨wr.heap.size, 1, none⟩ = some (.int .i64 kd) ∧ X.cell? ⟨wr.heap.size, 2, none⟩ = some (.int .i64 ar) ∧ X.cell? ⟨wr.heap.size, 3, none⟩ = some (.int .i64 at_) ∧ X.cell? ⟨wr.heap.size, 4, none⟩ = some (.int .i64 nn) :=
  ⟨h.y5, h.y6, h.y7, h.y0, h.y1, h.y2, h.y3, h.y4⟩
theorem Yb.start (tlt : tb < wr.heap.size) (plt : q < wr.heap.size) (tc : wr.cell? ⟨tb, k, none⟩ = some (.pointer (some ⟨q, 0, none⟩))) (pc0 : wr.cell? ⟨q, 0, none⟩ = some (.int .i64 a.kind)) (pc1 : wr.cell? ⟨q, 1, none⟩ = some (.slice A a.op.length c)) (op kd ar at_ nn : Int) :
    Yb wr tb k q a A c op kd ar at_ nn (wr.alloc (.cells #[.int .i64 op, .int .i64 kd, .int .i64 ar, .int .i64 at_, .int .i64 nn] 46)) :=
  ⟨by simp [go_sem], by simp [go_sem], by simp [go_sem], by simp [go_sem], by simp [go_sem], (World.cell?_alloc_lt wr _ _ tlt).trans tc, (World.cell?_alloc_lt wr _ _ plt).trans pc0, (World.cell?_alloc_lt wr _ _ plt).trans pc1, (by repeat (first | exact Below.refl _ _ | assumption | (with_reducible refine below_alloc' ?_ _) | (with_reducible refine below_drew' ?_) | (with_reducible refine below_drewN' ?_ _) | (with_reducible refine below_setCell' ?_ (by first | omega | (simp; omega) | (simp; done)) _) | (refine below_then' ?_ (by assumption)))), by simp, tlt, plt⟩
end
/-- Behind the call of behind: the instruction's own block, and that of what is behind it. -/
structure Gb (wr : World) (g : Nat) (op kd ar at_ nn : Int) (r : Ah) (A : Option Addr) (c : Nat) (X : World) : Prop where
  y0 : X.cell? ⟨wr.heap.size, 0, none⟩ = some (.int .i64 op)
  y1 : X.cell? ⟨wr.heap.size, 1, none⟩ = some (.int .i64 kd)
  y2 : X.cell? ⟨wr.heap.size, 2, none⟩ = some (.int .i64 ar)
  y3 : X.cell? ⟨wr.heap.size, 3, none⟩ = some (.int .i64 at_)
  y4 : X.cell? ⟨wr.heap.size, 4, none⟩ = some (.int .i64 nn)
  g0 : X.cell? ⟨g, 0, none⟩ = some (.int .i64 r.kind)
  g1 : X.cell? ⟨g, 1, none⟩ = some (.slice A r.op.length c)
  br : BrAt X A r.op
  sz : wr.heap.size + 1 ≤ g
  lt : g < X.heap.size
theorem Gb.below {wr : World} {g : Nat} {op kd ar at_ nn : Int} {r : Ah} {A : Option Addr} {c : Nat} {X Y : World} (h : Gb wr g op kd ar at_ nn r A c X) (hb : Below X.heap.size X Y) : Gb wr g op kd ar at_ nn r A c Y := by
  have hs := h.sz
  have hl := h.lt
  exact ⟨(hb.cell (by simp; omega)).trans h.y0, (hb.cell (by simp; omega)).trans h.y1, (hb.cell (by simp; omega)).trans h.y2, (hb.cell (by simp; omega)).trans h.y3, (hb.cell (by simp; omega)).trans h.y4,
    (hb.cell hl).trans h.g0, (hb.cell hl).trans h.g1, h.br.below hb, hs, Nat.lt_of_lt_of_le hl hb.size⟩
theorem Gb.drew {wr : World} {g : Nat} {op kd ar at_ nn : Int} {r : Ah} {A : Option Addr} {c : Nat} {X : World} (h : Gb wr g op kd ar at_ nn r A c X) : Gb wr g op kd ar at_ nn r A c X.drew := h.below (Below.refl _ _).drew
theorem Gb.lead {wr : World} {g : Nat} {op kd ar at_ nn : Int} {r : Ah} {A : Option Addr} {c : Nat} {X Y : World} {B tb : Nat} {t : Tab} {p : Nat → Nat} {to : Nat} (h : Gb wr g op kd ar at_ nn r A c X) (h0 : TRep wr B tb t p) (h1 : TRep X B tb t p) (ho : Only (leadBs t p tb to) X Y) : Gb wr g op kd ar at_ nn r A c Y := by
  have hs := h.sz
  have hl := h.lt
  have hn : ∀ x, wr.heap.size ≤ x → x ∉ leadBs t p tb to := fun x hx hm => by
    rcases h0.bs to x hm with h' | h'
    · have := h'.lt; omega
    · have := h'.lt; omega
  have e0 := ho.cell (b := wr.heap.size) (by omega) (hn _ (Nat.le_refl _))
  have e1 := ho.cell (b := g) hl (hn _ (by omega))
  exact ⟨(e0 0).trans h.y0, (e0 1).trans h.y1, (e0 2).trans h.y2, (e0 3).trans h.y3, (e0 4).trans h.y4, (e1 0).trans h.g0, (e1 1).trans h.g1, h1.br ho h.br, hs, Nat.lt_of_lt_of_le hl ho.size⟩
theorem TRep.lead_below {X Y : World} {B tb : Nat} {t : Tab} {p : Nat → Nat} {to : Nat} (h : TRep X B tb t p) (ho : Only (leadBs t p tb to) X Y) (hB : B ≤ X.heap.size) : Below B X Y :=
  ho.below hB (fun x hx => by
    unfold leadBs at hx
    split at hx
    · rename_i a ha
      simp at hx
      rcases hx with rfl | rfl
      · exact h.bt
      · exact h.bp to a ha
    · simp at hx
      subst hx
      exact h.bt)
theorem behind_box (kind : Int) (A : Option Addr) (n c : Nat) (op kd ar at_ nn : Int) (l : List Br) (W : World) (hn : n = l.length) (hc1 : l.length ≤ c) (hc2 : c ≤ 9223372036854775807) (hb : BrAt W A l) (h8 : l.length ≤ 8) :
    Calls Try.prog 60 #[.agg #[.int .i64 kind, .slice A n c], .agg #[.int .i64 op, .int .i64 kd, .int .i64 ar, .int .i64 at_, .int .i64 nn]] (W.alloc (.cells #[.int .i64 0, .slice none 0 0] 114)).drew
      fun e w' => AhRet (W.alloc (.cells #[.int .i64 0, .slice none 0 0] 114)).drew (behA ⟨op, kd, ar, at_, nn⟩ ⟨kind, l⟩) (behE ⟨op, kd, ar, at_, nn⟩ ⟨kind, l⟩) e w' ∧ w'.heap[W.heap.size]? = some (.cells #[.int .i64 0, .slice none 0 0] 114 (0, 0)) := by
  refine (behind_any kind A n c op kd ar at_ nn l _ hn hc1 hc2 (hb.below (by repeat (first | exact Below.refl _ _ | assumption | (with_reducible refine below_alloc' ?_ _) | (with_reducible refine below_drew' ?_) | (with_reducible refine below_drewN' ?_ _) | (with_reducible refine below_setCell' ?_ (by first | omega | (simp; omega) | (simp; done)) _) | (refine below_then' ?_ (by assumption))))) h8).mono ?_
  intro e w' h
  refine ⟨h, ?_⟩
  obtain ⟨_, _, _, hbel, _⟩ := h
  rw [hbel.block W.heap.size (by simp)]
  exact heap_new W _
end Go.Proofs.Ytkhnalboodkddaa
