import Derived.Test.YtkhnalboodkddaaVer0
import Derived.StillTailTactics
set_option linter.unusedSimpArgs false
set_option linter.unusedVariables false
set_option maxRecDepth 100000
namespace Go.Proofs.Ytkhnalboodkddaa
open Go.RowKit
theorem made_same (op k : Int) (w : World) :
    Calls Try.prog 101 #[.int .i64 op, .int .i64 k] w fun e w' => e = .returned (.int .i64 (madeI op k)) ∧ w = w' := by
  obtain ⟨r, hr⟩ : ∃ r, r = madeI op k := ⟨_, rfl⟩
  rw [← hr]
  have HR := hid hr
  clear hr
  go_enter Try.func101, Try.ntmps101
  go_wp2
  all_goals go_ret
  all_goals refine ⟨ret_int ?_, rfl⟩
  all_goals rw [HR.out, madeI]
  all_goals exact (by (try go_light); (try simp only [bne_iff_ne, ne_eq, beq_iff_eq, Bool.not_eq_true, bne_eq_false_iff_eq, beq_eq_false_iff_ne, decide_eq_true_eq, decide_eq_false_iff_not] at *); repeat (first | rfl | omega | split | (exfalso; omega)))
theorem made_still (op k : Int) (w : World) :
    Calls Try.prog 101 #[.int .i64 op, .int .i64 k] w fun e w' => e = .returned (.int .i64 (madeI op k)) ∧ w' = w := (made_same op k w).mono fun e w' h => ⟨h.1, h.2.symm⟩
theorem clip_same (A : Option Addr) (n c : Nat) (w : World) (h : n ≤ c) (hc : c ≤ 9223372036854775807) :
    Calls Try.prog 114 #[.slice A n c] w fun e w' => e = .returned (.slice A n n) ∧ w = w' := by
  go_enter Try.func114, Try.ntmps114
  go_wp2
  go_ret
  exact ⟨rfl, rfl⟩
theorem pop_0 (kind : Int) (A : Option Addr) (c : Nat) (w : World) :
    Calls Try.prog 100 #[.agg #[.int .i64 kind, .slice A 0 c]] w fun e w' => e = .returned (.tuple #[.agg #[.int .i64 kind, .slice A 0 c], .int .i64 3]) ∧ Below w.heap.size w w' := by
  go_enter Try.func100, Try.ntmps100
  go_wp2
  exact bodyPost_ret (v := .tuple #[.agg #[.int .i64 kind, .slice A 0 c], .int .i64 3]) (by simp [results, Try.results100, go_sem]) rfl ⟨rfl, (by repeat (first | exact Below.refl _ _ | assumption | (with_reducible refine below_alloc' ?_ _) | (with_reducible refine below_drew' ?_) | (with_reducible refine below_drewN' ?_ _) | (with_reducible refine below_setCell' ?_ (by first | omega | (simp; omega) | (simp; done)) _) | (refine below_then' ?_ (by assumption))))⟩
theorem pop_1 (kind : Int) (A : Option Addr) (c : Nat) (w : World) (l : List Br) (m : Nat) (hl : l.length = m + 1) (hc1 : m + 1 ≤ c) (hc2 : c ≤ 9223372036854775807) (hb : BrAt w A l)
    (hk : (l.getD m (0, 0)).2 ≠ kind) :
    Calls Try.prog 100 #[.agg #[.int .i64 kind, .slice A (m + 1) c]] w fun e w' => e = .returned (.tuple #[.agg #[.int .i64 kind, .slice A (m + 1) c], .int .i64 6]) ∧ Below w.heap.size w w' := by
  obtain ⟨b, rfl, hlt, c0, c1⟩ := hb.cells m (by omega)
  have HL := hid hl
  clear hl hb
  generalize l.getD m (0, 0) = x at *
  obtain ⟨o, k⟩ := x
  simp only at c0 c1 hk
  have hk' : (k != kind) = true := by simp [hk]
  go_enter Try.func100, Try.ntmps100
  go_wp2

  exact bodyPost_ret (v := .tuple #[.agg #[.int .i64 kind, .slice (some ⟨b, 0, none⟩) (m + 1) c], .int .i64 6]) (by simp [results, Try.results100, go_sem]) rfl ⟨rfl, (by repeat (first | exact Below.refl _ _ | assumption | (with_reducible refine below_alloc' ?_ _) | (with_reducible refine below_drew' ?_) | (with_reducible refine below_drewN' ?_ _) | (with_reducible refine below_setCell' ?_ (by first | omega | (simp; omega) | (simp; done)) _) | (refine below_then' ?_ (by assumption))))⟩
theorem pop_2 (kind : Int) (A : Option Addr) (c : Nat) (w : World) (l : List Br) (m : Nat) (hl : l.length = m + 1) (hc1 : m + 1 ≤ c) (hc2 : c ≤ 9223372036854775807) (hb : BrAt w A l)
    (hk : (l.getD m (0, 0)).2 = kind) :
    Calls Try.prog 100 #[.agg #[.int .i64 kind, .slice A (m + 1) c]] w fun e w' => e = .returned (.tuple #[.agg #[.int .i64 (madeI (l.getD m (0, 0)).1 (l.getD m (0, 0)).2), .slice A m c], .int .i64 0]) ∧ Below w.heap.size w w' := by
  obtain ⟨b, rfl, hlt, c0, c1⟩ := hb.cells m (by omega)
  have HL := hid hl
  clear hl hb
  generalize l.getD m (0, 0) = x at *
  obtain ⟨o, k⟩ := x
  simp only at c0 c1 hk ⊢
  subst hk
  go_enter Try.func100, Try.ntmps100
  go_wp2_with (first | (go_at_call 101; refine (made_same _ _ _).mono ?_; rintro e w1 ⟨rfl, rfl⟩))
  have hmc : m ≤ c := by omega
  have hmc' : (m : Int) ≤ c := by omega
  have hw : IntKind.i64.wrap (m : Int) = m := IntWalk.i64_in _ (by omega)
  refine still_tail 11 (by kernel_rfl) (by kernel_rfl) ?_
  simp only [List.take_succ_cons, List.take_zero, List.drop_succ_cons, List.drop_zero]
  repeat still_step
  refine wpStill_step (fun K hK => ?_)
  go_simp
  refine ⟨_, made_still _ _ _, hK _ ?_⟩
  clear hK K
  repeat still_step
  refine wpStill_nil ?_
  go_wp2
  exact bodyPost_ret (v := .tuple #[.agg #[.int .i64 (madeI o k), .slice (some ⟨b, 0, none⟩) m c], .int .i64 0]) (by simp [results, Try.results100, go_sem]) rfl ⟨rfl, (by repeat (first | exact Below.refl _ _ | assumption | (with_reducible refine below_alloc' ?_ _) | (with_reducible refine below_drew' ?_) | (with_reducible refine below_drewN' ?_ _) | (with_reducible refine below_setCell' ?_ (by first | omega | (simp; omega) | (simp; done)) _) | (refine below_then' ?_ (by assumption))))⟩
end Go.Proofs.Ytkhnalboodkddaa
