import Derived.Test.YtkhnalboodkddaaIl2
set_option linter.unusedSimpArgs false
set_option linter.unusedVariables false
set_option maxRecDepth 100000
namespace Go.Proofs.Ytkhnalboodkddaa
open Go.RowKit
def mustI (b : Bool) : Int := if b then 0 else 6
theorem must_any (b : Bool) (w : World) :
    Calls Try.prog 96 #[.bool b] w fun e w' => e = .returned (.int .i64 (mustI b)) ∧ Below w.heap.size w w' := by
  cases b
  · go_enter Try.func96, Try.ntmps96
    go_wp2
    go_ret
    exact ⟨rfl, (by repeat (first | exact Below.refl _ _ | assumption | (with_reducible refine below_alloc' ?_ _) | (with_reducible refine below_drew' ?_) | (with_reducible refine below_drewN' ?_ _) | (with_reducible refine below_setCell' ?_ (by first | omega | (simp; omega) | (simp; done)) _) | (refine below_then' ?_ (by assumption))))⟩
  · go_enter Try.func96, Try.ntmps96
    go_wp2
    go_ret
    exact ⟨rfl, (by repeat (first | exact Below.refl _ _ | assumption | (with_reducible refine below_alloc' ?_ _) | (with_reducible refine below_drew' ?_) | (with_reducible refine below_drewN' ?_ _) | (with_reducible refine below_setCell' ?_ (by first | omega | (simp; omega) | (simp; done)) _) | (refine below_then' ?_ (by assumption))))⟩
def logicB (k : Int) : Bool := mayK 13 k
theorem logic_any (k : Int) (w : World) :
    Calls Try.prog 97 #[.int .i64 k] w fun e w' => e = .returned (.bool (logicB k)) ∧ Below w.heap.size w w' := by
  go_enter Try.func97, Try.ntmps97
  go_wp2_with (first | (go_at_call 85; refine (may_any _ _ _).mono ?_; rintro e w1 ⟨rfl, hb⟩; have hbc := (bcell hb).1; have hbf := (bcell hb).2; try simp only [World.size_alloc, World.size_setCell] at hbc hbf; try (have hlt : w.heap.size < w1.heap.size := by (have hsz := hb.size; simp only [World.size_alloc, World.size_setCell] at hsz; omega))))
  go_ret
  exact ⟨rfl, (by repeat (first | exact Below.refl _ _ | assumption | (with_reducible refine below_alloc' ?_ _) | (with_reducible refine below_drew' ?_) | (with_reducible refine below_drewN' ?_ _) | (with_reducible refine below_setCell' ?_ (by first | omega | (simp; omega) | (simp; done)) _) | (refine below_then' ?_ (by assumption))))⟩
def madeI (op k : Int) : Int := if 19 ≤ op ∧ op ≤ 24 then 1 else k
theorem made_any (op k : Int) (w : World) :
    Calls Try.prog 101 #[.int .i64 op, .int .i64 k] w fun e w' => e = .returned (.int .i64 (madeI op k)) ∧ Below w.heap.size w w' := by
  obtain ⟨r, hr⟩ : ∃ r, r = madeI op k := ⟨_, rfl⟩
  rw [← hr]
  have HR := hid hr
  clear hr
  go_enter Try.func101, Try.ntmps101
  go_wp2
  all_goals go_ret
  all_goals refine ⟨ret_int ?_, (by repeat (first | exact Below.refl _ _ | assumption | (with_reducible refine below_alloc' ?_ _) | (with_reducible refine below_drew' ?_) | (with_reducible refine below_drewN' ?_ _) | (with_reducible refine below_setCell' ?_ (by first | omega | (simp; omega) | (simp; done)) _) | (refine below_then' ?_ (by assumption))))⟩
  all_goals rw [HR.out, madeI]
  all_goals first | rw [if_pos (by omega)] | rw [if_neg (by omega)]
def jumpsB (op : Int) : Bool := decide (25 ≤ op ∧ op ≤ 27)
theorem jumps_any (op kind area at_ n : Int) (w : World) :
    Calls Try.prog 59 #[.agg #[.int .i64 op, .int .i64 kind, .int .i64 area, .int .i64 at_, .int .i64 n]] w fun e w' => e = .returned (.bool (jumpsB op)) ∧ Below w.heap.size w w' := by
  go_enter Try.func59, Try.ntmps59
  go_wp2
  all_goals go_ret
  all_goals exact ⟨ret_bool (by unfold jumpsB; first | (simp; omega) | (rw [Bool.eq_iff_iff]; simp; omega)), (by repeat (first | exact Below.refl _ _ | assumption | (with_reducible refine below_alloc' ?_ _) | (with_reducible refine below_drew' ?_) | (with_reducible refine below_drewN' ?_ _) | (with_reducible refine below_setCell' ?_ (by first | omega | (simp; omega) | (simp; done)) _) | (refine below_then' ?_ (by assumption))))⟩
def onB (op : Int) : Bool := decide (op ≠ 25 ∧ op ≠ 28)
theorem on_any (op kind area at_ n : Int) (w : World) :
    Calls Try.prog 61 #[.agg #[.int .i64 op, .int .i64 kind, .int .i64 area, .int .i64 at_, .int .i64 n]] w fun e w' => e = .returned (.bool (onB op)) ∧ Below w.heap.size w w' := by
  obtain ⟨r, hr⟩ : ∃ r, r = onB op := ⟨_, rfl⟩
  rw [← hr]
  have HR := hid hr
  clear hr
  go_enter Try.func61, Try.ntmps61
  go_wp2
  all_goals go_ret
  all_goals refine ⟨ret_bool ?_, (by repeat (first | exact Below.refl _ _ | assumption | (with_reducible refine below_alloc' ?_ _) | (with_reducible refine below_drew' ?_) | (with_reducible refine below_drewN' ?_ _) | (with_reducible refine below_setCell' ?_ (by first | omega | (simp; omega) | (simp; done)) _) | (refine below_then' ?_ (by assumption))))⟩
  all_goals rw [HR.out, onB]
  all_goals first | (simp; omega) | (rw [Bool.eq_iff_iff]; simp; omega) | (simp [*]; done) | (rw [Bool.eq_iff_iff]; simp [*]; omega)
theorem with_any (kind k : Int) (A : Option Addr) (n c : Nat) (w : World) :
    Calls Try.prog 95 #[.agg #[.int .i64 kind, .slice A n c], .int .i64 k] w fun e w' => e = .returned (.agg #[.int .i64 k, .slice A n c]) ∧ Below w.heap.size w w' := by
  go_enter Try.func95, Try.ntmps95
  go_wp2
  exact bodyPost_ret (v := .agg #[.int .i64 k, .slice A n c]) (by simp [results, Try.results95, go_sem]) rfl ⟨rfl, (by repeat (first | exact Below.refl _ _ | assumption | (with_reducible refine below_alloc' ?_ _) | (with_reducible refine below_drew' ?_) | (with_reducible refine below_drewN' ?_ _) | (with_reducible refine below_setCell' ?_ (by first | omega | (simp; omega) | (simp; done)) _) | (refine below_then' ?_ (by assumption))))⟩
def retE (op kind : Int) (n : Nat) : Int := if op ≠ 28 ∧ kind ≠ 1 then 6 else if 0 < n then 3 else 0
theorem ret_any (kind op : Int) (A : Option Addr) (n c : Nat) (w : World) (hn : n ≤ 9223372036854775807) :
    Calls Try.prog 98 #[.agg #[.int .i64 kind, .slice A n c], .int .i64 op] w fun e w' => e = .returned (.tuple #[.agg #[.int .i64 kind, .slice A n c], .int .i64 (retE op kind n)]) ∧ Below w.heap.size w w' := by
  obtain ⟨r, hr⟩ : ∃ r, r = retE op kind n := ⟨_, rfl⟩
  rw [← hr]
  have HR := hid hr
  clear hr
  go_enter Try.func98, Try.ntmps98
  go_wp2
  all_goals refine bodyPost_ret (v := .tuple #[.agg #[.int .i64 kind, .slice A n c], .int .i64 r]) ?_ rfl ⟨rfl, (by repeat (first | exact Below.refl _ _ | assumption | (with_reducible refine below_alloc' ?_ _) | (with_reducible refine below_drew' ?_) | (with_reducible refine below_drewN' ?_ _) | (with_reducible refine below_setCell' ?_ (by first | omega | (simp; omega) | (simp; done)) _) | (refine below_then' ?_ (by assumption))))⟩
  all_goals simp [results, Try.results98, go_sem]
  all_goals rw [HR.out, retE]
  all_goals exact (by (try go_light); (try simp only [bne_iff_ne, ne_eq, beq_iff_eq, Bool.not_eq_true, bne_eq_false_iff_eq, beq_eq_false_iff_ne, decide_eq_true_eq, decide_eq_false_iff_not] at *); repeat (first | rfl | omega | split | (exfalso; omega)))
/-- A bracket: its operation, its kind. -/
abbrev Br := Int × Int
/-- A slice of brackets, from the begin of a block of brackets; such a block is never written again. -/
def BrAt (w : World) (A : Option Addr) (l : List Br) : Prop :=
  l ≠ [] → ∃ b cs fr, A = some ⟨b, 0, none⟩ ∧ w.heap[b]? = some (.cells cs 157 fr) ∧ ∀ i, i < l.length → cs[i * 2]? = some (.int .i64 (l.getD i (0, 0)).1) ∧ cs[i * 2 + 1]? = some (.int .i64 (l.getD i (0, 0)).2)
theorem BrAt.only {w w' : World} {A : Option Addr} {l : List Br} {bs : List Nat} (h : BrAt w A l) (ho : Only bs w w')
    (hb : ∀ x, x ∈ bs → ∀ cs fr, w.heap[x]? ≠ some (.cells cs 157 fr)) : BrAt w' A l := by
  intro hl
  obtain ⟨b, cs, fr, e, hh, hc⟩ := h hl
  have hlt : b < w.heap.size := (Array.getElem?_eq_some_iff.1 hh).1
  exact ⟨b, cs, fr, e, (ho.block b hlt (fun hm => hb b hm cs fr hh)).trans hh, hc⟩
theorem BrAt.below {w w' : World} {A : Option Addr} {l : List Br} (h : BrAt w A l) (ho : Below w.heap.size w w') : BrAt w' A l := h.only (Only.of_below (bs := []) ho) (by simp)
theorem BrAt.cells {w : World} {A : Option Addr} {l : List Br} (h : BrAt w A l) (i : Nat) (hi : i < l.length) : ∃ b, A = some ⟨b, 0, none⟩ ∧ b < w.heap.size ∧ w.cell? ⟨b, i * 2, none⟩ = some (.int .i64 (l.getD i (0, 0)).1) ∧ w.cell? ⟨b, i * 2 + 1, none⟩ = some (.int .i64 (l.getD i (0, 0)).2) := by
  obtain ⟨b, cs, fr, e, hh, hc⟩ := h (by intro e; subst e; simp at hi)
  have hc := hc i hi
  exact ⟨b, e, (Array.getElem?_eq_some_iff.1 hh).1, by rw [cell_of_heap hh]; exact hc.1, by rw [cell_of_heap hh]; exact hc.2⟩
theorem BrAt.setCell {w : World} {A : Option Addr} {l : List Br} (h : BrAt w A l) {b : Nat} {T : TypeId} (ht : Typ w b T) (hT : T ≠ 157) (o : Nat) (v : Value) : BrAt (w.setCell ⟨b, o, none⟩ v) A l :=
  h.only (bs := [b]) ((Only.refl _ _).setCell (by simp) _) (fun x hx cs fr => by simp at hx; subst hx; exact ht.ne hT cs fr)
theorem BrAt.take {w : World} {A : Option Addr} {l : List Br} (h : BrAt w A l) (n : Nat) : BrAt w A (l.take n) := by
  intro hl
  obtain ⟨b, cs, fr, e, hh, hc⟩ := h (by intro e; subst e; simp at hl)
  refine ⟨b, cs, fr, e, hh, fun i hi => ?_⟩
  rw [List.length_take] at hi
  have := hc i (by omega)
  simpa [List.getD_eq_getElem?_getD, List.getElem?_take, show i < n by omega] using this
end Go.Proofs.Ytkhnalboodkddaa
