import Derived.Test.YtkhnalboodkddaaVer8
set_option linter.unusedSimpArgs false
set_option linter.unusedVariables false
set_option maxRecDepth 100000
namespace Go.Proofs.Ytkhnalboodkddaa
open Go.RowKit
theorem brEq_any (A1 A2 : Option Addr) (n1 n2 c1 c2 : Nat) (l1 l2 : List Br) (w : World) (h1 : n1 = l1.length) (h2 : n2 = l2.length) (b1 : BrAt w A1 l1) (b2 : BrAt w A2 l2) (m1 : n1 ≤ 9223372036854775807) (m2 : n2 ≤ 9223372036854775807) :
    Calls Try.prog 102 #[.slice A1 n1 c1, .slice A2 n2 c2] w fun e w' => e = .returned (.bool (decide (l1 = l2))) ∧ Below w.heap.size w w' := by
  obtain ⟨r, hr⟩ : ∃ r, r = decide (l1 = l2) := ⟨_, rfl⟩
  rw [← hr]
  have HR := hid hr
  have H1 := hid h1
  have H2 := hid h2
  have B1 := hid b1
  have B2 := hid b2
  clear hr h1 h2 b1 b2
  by_cases hne : n1 = n2
  · subst hne
    have hq : ((n1 : Int) != n1) = false := by simp
    go_enter Try.func102, Try.ntmps102
    go_wp2
    go_loopw [13] (fun i wr => ∃ k : Nat, k ≤ n1 ∧ i = .int .i64 k ∧ l1.take k = l2.take k ∧ ∃ nq, wr = w.drewN nq) (fun i _ => n1 - (intOf i).toNat)
    case atStart => exact ⟨0, by omega, rfl, by simp, 0, rfl⟩
    case round =>
      obtain ⟨k, hk, rfl, ht, nq, rfl⟩ := hrel
      have HT := hid ht
      clear ht
      by_cases hlt : k < n1
      · obtain ⟨g1, rfl, _, x0, x1⟩ := B1.out.cells k (by rw [← H1.out]; exact hlt)
        obtain ⟨g2, rfl, _, y0, y1⟩ := B2.out.cells k (by rw [← H2.out]; exact hlt)
        generalize hp : l1.getD k (0, 0) = p at *
        generalize hq' : l2.getD k (0, 0) = q at *
        have HP := hid hp
        have HQ := hid hq'
        clear hp hq'
        obtain ⟨p1, p2⟩ := p
        obtain ⟨q1, q2⟩ := q
        simp only at x0 x1 y0 y1
        have hnq := brNeq p1 p2 q1 q2
        have hgd := brGuard
        by_cases hpq : p1 = q1 ∧ p2 = q2
        · obtain ⟨rfl, rfl⟩ := hpq
          go_wp2
          go_quiet (fail)
          go_wp2
          go_roundw
          case rel => exact ⟨k + 1, by omega, by go_num, (by
            rw [List.take_succ_eq_append_getElem (by rw [← H1.out]; exact hlt), List.take_succ_eq_append_getElem (by rw [← H2.out]; exact hlt), HT.out]
            congr 2
            have e1 := HP.out
            have e2 := HQ.out
            rw [List.getD_eq_getElem?_getD, List.getElem?_eq_getElem (by rw [← H1.out]; exact hlt)] at e1
            rw [List.getD_eq_getElem?_getD, List.getElem?_eq_getElem (by rw [← H2.out]; exact hlt)] at e2
            simp at e1 e2
            rw [e1, e2]), _, rfl⟩
          case measure => simp [intOf]; omega
        · have hb1 : (p1 == q1 && p2 == q2) = false := by
            rw [Bool.eq_false_iff]; intro h; simp at h; exact hpq h
          have HB := hid hpq
          have hnq' : ∀ X : World, (binOp .neq 157 (.agg #[.int .i64 p1, .int .i64 p2]) (.agg #[.int .i64 q1, .int .i64 q2])).run Try.prog X = .ok (.bool true) X := fun X => by rw [hnq, hb1]; rfl
          clear hpq hb1 hnq
          go_wp2
          go_quiet (fail)
          go_wp2
          go_ret
          refine ⟨ret_bool ?_, (by repeat (first | exact Below.refl _ _ | assumption | (with_reducible refine below_alloc' ?_ _) | (with_reducible refine below_drew' ?_) | (with_reducible refine below_drewN' ?_ _) | (with_reducible refine below_setCell' ?_ (by first | omega | (simp; omega) | (simp; done)) _) | (refine below_then' ?_ (by assumption))))⟩
          rw [HR.out]
          symm
          apply decide_eq_false
          intro e
          have e1 := HP.out
          rw [e, HQ.out] at e1
          injection e1 with e1 e2
          exact HB.out ⟨e1.symm, e2.symm⟩
      · have hkn : k = n1 := by omega
        have HK := hid hkn
        clear hkn
        go_wp2
        go_ret
        refine ⟨ret_bool ?_, (by repeat (first | exact Below.refl _ _ | assumption | (with_reducible refine below_alloc' ?_ _) | (with_reducible refine below_drew' ?_) | (with_reducible refine below_drewN' ?_ _) | (with_reducible refine below_setCell' ?_ (by first | omega | (simp; omega) | (simp; done)) _) | (refine below_then' ?_ (by assumption))))⟩
        rw [HR.out]
        symm
        apply decide_eq_true
        have h1 : l1.take k = l1 := List.take_of_length_le (by rw [HK.out, H1.out]; exact Nat.le_refl _)
        have h2 : l2.take k = l2 := List.take_of_length_le (by rw [HK.out, H2.out]; exact Nat.le_refl _)
        rw [← h1, ← h2]
        exact HT.out
  · have hq : ((n1 : Int) != n2) = true := by simp; omega
    go_enter Try.func102, Try.ntmps102
    go_wp2
    go_ret
    refine ⟨ret_bool ?_, (by repeat (first | exact Below.refl _ _ | assumption | (with_reducible refine below_alloc' ?_ _) | (with_reducible refine below_drew' ?_) | (with_reducible refine below_drewN' ?_ _) | (with_reducible refine below_setCell' ?_ (by first | omega | (simp; omega) | (simp; done)) _) | (refine below_then' ?_ (by assumption))))⟩
    rw [HR.out]
    symm
    apply decide_eq_false
    intro e
    apply hne
    rw [H1.out, H2.out, e]
end Go.Proofs.Ytkhnalboodkddaa
