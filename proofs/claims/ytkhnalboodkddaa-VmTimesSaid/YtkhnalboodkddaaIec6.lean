import Derived.Test.YtkhnalboodkddaaIec5
set_option linter.unusedSimpArgs false
set_option linter.unusedVariables false
namespace Go.Proofs.Ytkhnalboodkddaa
open Go.RowKit
def notK (k v : Int) : Int := if mayK 13 k = false ∨ isK k v = false then 0 else if k = 1 then 1 - v else wrapK k (bits .xor .i64 (-1) v)
theorem isK_1 {v : Int} (h : isK 1 v = true) : 0 ≤ v ∧ v ≤ 1 := by
  simp [isK, wrapK, isKind_1] at h
  split at h <;> omega
theorem not_any (k v : Int) (w : World) :
    Calls Try.prog 55 #[.int .i64 k, .int .i64 v] w fun e w' => e = .returned (.int .i64 (notK k v)) ∧ Below w.heap.size w w' := by
  cases h1 : mayK 13 k
  · have he : notK k v = 0 := by simp [notK, h1]
    have HE := hid he
    clear he
    go_enter Try.func55, Try.ntmps55
    go_wp2_with (first | (go_at_call 85; refine (may_any _ _ _).mono ?_; rintro e w1 ⟨rfl, hb⟩))
    go_ret
    exact ⟨ret_int (by rw [HE.out]), (by repeat (first | exact Below.refl _ _ | assumption | (with_reducible refine below_alloc' ?_ _) | (with_reducible refine below_drew' ?_) | (with_reducible refine below_drewN' ?_ _) | (with_reducible refine below_setCell' ?_ (by first | omega | (simp; omega) | (simp; done)) _) | (refine below_then' ?_ (by assumption))))⟩
  · cases h2 : isK k v
    · have he : notK k v = 0 := by simp [notK, h2]
      have HE := hid he
      clear he
      go_enter Try.func55, Try.ntmps55
      go_wp2_with (first | (go_at_call 85; refine (may_any _ _ _).mono ?_; rintro e w1 ⟨rfl, hb⟩) | (go_at_call 86; refine (is_any _ _ _).mono ?_; rintro e w1 ⟨rfl, hb⟩))
      go_ret
      exact ⟨ret_int (by rw [HE.out]), (by repeat (first | exact Below.refl _ _ | assumption | (with_reducible refine below_alloc' ?_ _) | (with_reducible refine below_drew' ?_) | (with_reducible refine below_drewN' ?_ _) | (with_reducible refine below_setCell' ?_ (by first | omega | (simp; omega) | (simp; done)) _) | (refine below_then' ?_ (by assumption))))⟩
    · by_cases h3 : k = 1
      · subst h3
        have he : notK 1 v = 1 - v := by simp [notK, h1, h2]
        have HE := hid he
        clear he
        obtain ⟨v0, v1⟩ := isK_1 h2
        go_enter Try.func55, Try.ntmps55
        go_wp2_with (first | (go_at_call 85; refine (may_any _ _ _).mono ?_; rintro e w1 ⟨rfl, hb⟩) | (go_at_call 86; refine (is_any _ _ _).mono ?_; rintro e w1 ⟨rfl, hb⟩))
        go_ret
        exact ⟨ret_int (by rw [HE.out]), (by repeat (first | exact Below.refl _ _ | assumption | (with_reducible refine below_alloc' ?_ _) | (with_reducible refine below_drew' ?_) | (with_reducible refine below_drewN' ?_ _) | (with_reducible refine below_setCell' ?_ (by first | omega | (simp; omega) | (simp; done)) _) | (refine below_then' ?_ (by assumption))))⟩
      · have he : notK k v = wrapK k (bits .xor .i64 (-1) v) := by simp [notK, h1, h2, h3]
        have HE := hid he
        clear he
        have h4 : (k == 1) = false := by simp [h3]
        go_enter Try.func55, Try.ntmps55
        go_wp2_with (first | (go_at_call 85; refine (may_any _ _ _).mono ?_; rintro e w1 ⟨rfl, hb⟩) | (go_at_call 86; refine (is_any _ _ _).mono ?_; rintro e w1 ⟨rfl, hb⟩) | (go_at_call 72; refine (wrap_any _ _ _).mono ?_; rintro e w1 ⟨rfl, hb⟩))
        go_ret
        exact ⟨ret_int (by rw [HE.out]), (by repeat (first | exact Below.refl _ _ | assumption | (with_reducible refine below_alloc' ?_ _) | (with_reducible refine below_drew' ?_) | (with_reducible refine below_drewN' ?_ _) | (with_reducible refine below_setCell' ?_ (by first | omega | (simp; omega) | (simp; done)) _) | (refine below_then' ?_ (by assumption))))⟩
end Go.Proofs.Ytkhnalboodkddaa
