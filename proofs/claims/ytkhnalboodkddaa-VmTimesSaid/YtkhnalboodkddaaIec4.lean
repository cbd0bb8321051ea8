import Derived.Test.YtkhnalboodkddaaIec3
set_option linter.unusedSimpArgs false
set_option linter.unusedVariables false
namespace Go.Proofs.Ytkhnalboodkddaa
open Go.RowKit
def isK (k v : Int) : Bool := isKind k && (wrapK k v == v)
theorem is_any (k v : Int) (w : World) :
    Calls Try.prog 86 #[.int .i64 k, .int .i64 v] w fun e w' => e = .returned (.bool (isK k v)) ∧ Below w.heap.size w w' := by
  cases hk : isKind k
  · have he : isK k v = false := by simp [isK, hk]
    have HE := hid he
    clear he
    go_enter Try.func86, Try.ntmps86
    go_wp2_with (first | (go_at_call 110; refine (of_any _ _).mono ?_; rintro e w1 ⟨rfl, hb⟩) | (go_at_call 72; refine (wrap_any _ _ _).mono ?_; rintro e w1 ⟨rfl, hb⟩))
    go_ret
    exact ⟨ret_bool (by first | (rw [HE.out]; done) | (rw [HE.out]; simp; omega)), (by repeat (first | exact Below.refl _ _ | assumption | (with_reducible refine below_alloc' ?_ _) | (with_reducible refine below_drew' ?_) | (with_reducible refine below_drewN' ?_ _) | (with_reducible refine below_setCell' ?_ (by first | omega | (simp; omega) | (simp; done)) _) | (refine below_then' ?_ (by assumption))))⟩
  · have he : isK k v = (wrapK k v == v) := by simp [isK, hk]
    have HE := hid he
    clear he
    go_enter Try.func86, Try.ntmps86
    go_wp2_with (first | (go_at_call 110; refine (of_any _ _).mono ?_; rintro e w1 ⟨rfl, hb⟩) | (go_at_call 72; refine (wrap_any _ _ _).mono ?_; rintro e w1 ⟨rfl, hb⟩))
    go_ret
    exact ⟨ret_bool (by first | (rw [HE.out]; done) | (rw [HE.out]; simp; omega)), (by repeat (first | exact Below.refl _ _ | assumption | (with_reducible refine below_alloc' ?_ _) | (with_reducible refine below_drew' ?_) | (with_reducible refine below_drewN' ?_ _) | (with_reducible refine below_setCell' ?_ (by first | omega | (simp; omega) | (simp; done)) _) | (refine below_then' ?_ (by assumption))))⟩
def mayK (op k : Int) : Bool := if isKind k = false then false else if 7 ≤ op ∧ op ≤ 13 then kbits k else if 14 ≤ op ∧ op ≤ 18 then !kbits k else decide (19 ≤ op ∧ op ≤ 24)
theorem may_any (op k : Int) (w : World) :
    Calls Try.prog 85 #[.int .i64 op, .int .i64 k] w fun e w' => e = .returned (.bool (mayK op k)) ∧ Below w.heap.size w w' := by
  cases hk : isKind k
  · have he : mayK op k = false := by simp [mayK, hk]
    have HE := hid he
    clear he
    go_enter Try.func85, Try.ntmps85
    go_wp2_with (first | (go_at_call 110; refine (of_any _ _).mono ?_; rintro e w1 ⟨rfl, hb⟩))
    go_ret
    exact ⟨ret_bool (by first | (rw [HE.out]; done) | (rw [HE.out]; simp; omega)), (by repeat (first | exact Below.refl _ _ | assumption | (with_reducible refine below_alloc' ?_ _) | (with_reducible refine below_drew' ?_) | (with_reducible refine below_drewN' ?_ _) | (with_reducible refine below_setCell' ?_ (by first | omega | (simp; omega) | (simp; done)) _) | (refine below_then' ?_ (by assumption))))⟩
  · by_cases a1 : op < 7
    · have he : mayK op k = false := by unfold mayK; rw [if_neg (by simp [hk]), if_neg (by omega), if_neg (by omega)]; simp; omega
      have HE := hid he
      clear he
      go_enter Try.func85, Try.ntmps85
      go_wp2_with (first | (go_at_call 110; refine (of_any _ _).mono ?_; rintro e w1 ⟨rfl, hb⟩))
      go_ret
      exact ⟨ret_bool (by first | (rw [HE.out]; done) | (rw [HE.out]; simp; omega)), (by repeat (first | exact Below.refl _ _ | assumption | (with_reducible refine below_alloc' ?_ _) | (with_reducible refine below_drew' ?_) | (with_reducible refine below_drewN' ?_ _) | (with_reducible refine below_setCell' ?_ (by first | omega | (simp; omega) | (simp; done)) _) | (refine below_then' ?_ (by assumption))))⟩
    · by_cases a2 : op ≤ 13
      · have he : mayK op k = kbits k := by unfold mayK; rw [if_neg (by simp [hk]), if_pos (by omega)]
        have HE := hid he
        clear he
        go_enter Try.func85, Try.ntmps85
        go_wp2_with (first | (go_at_call 110; refine (of_any _ _).mono ?_; rintro e w1 ⟨rfl, hb⟩))
        go_ret
        exact ⟨ret_bool (by first | (rw [HE.out]; done) | (rw [HE.out]; simp; omega)), (by repeat (first | exact Below.refl _ _ | assumption | (with_reducible refine below_alloc' ?_ _) | (with_reducible refine below_drew' ?_) | (with_reducible refine below_drewN' ?_ _) | (with_reducible refine below_setCell' ?_ (by first | omega | (simp; omega) | (simp; done)) _) | (refine below_then' ?_ (by assumption))))⟩
      · by_cases a3 : op ≤ 18
        · have he : mayK op k = !kbits k := by unfold mayK; rw [if_neg (by simp [hk]), if_neg (by omega), if_pos (by omega)]
          have HE := hid he
          clear he
          go_enter Try.func85, Try.ntmps85
          go_wp2_with (first | (go_at_call 110; refine (of_any _ _).mono ?_; rintro e w1 ⟨rfl, hb⟩))
          go_ret
          exact ⟨ret_bool (by first | (rw [HE.out]; done) | (rw [HE.out]; simp; omega)), (by repeat (first | exact Below.refl _ _ | assumption | (with_reducible refine below_alloc' ?_ _) | (with_reducible refine below_drew' ?_) | (with_reducible refine below_drewN' ?_ _) | (with_reducible refine below_setCell' ?_ (by first | omega | (simp; omega) | (simp; done)) _) | (refine below_then' ?_ (by assumption))))⟩
        · by_cases a4 : op ≤ 24
          · have he : mayK op k = true := by unfold mayK; rw [if_neg (by simp [hk]), if_neg (by omega), if_neg (by omega)]; simp; omega
            have HE := hid he
            clear he
            go_enter Try.func85, Try.ntmps85
            go_wp2_with (first | (go_at_call 110; refine (of_any _ _).mono ?_; rintro e w1 ⟨rfl, hb⟩))
            go_ret
            exact ⟨ret_bool (by first | (rw [HE.out]; done) | (rw [HE.out]; simp; omega)), (by repeat (first | exact Below.refl _ _ | assumption | (with_reducible refine below_alloc' ?_ _) | (with_reducible refine below_drew' ?_) | (with_reducible refine below_drewN' ?_ _) | (with_reducible refine below_setCell' ?_ (by first | omega | (simp; omega) | (simp; done)) _) | (refine below_then' ?_ (by assumption))))⟩
          · have he : mayK op k = false := by unfold mayK; rw [if_neg (by simp [hk]), if_neg (by omega), if_neg (by omega)]; simp; omega
            have HE := hid he
            clear he
            go_enter Try.func85, Try.ntmps85
            go_wp2_with (first | (go_at_call 110; refine (of_any _ _).mono ?_; rintro e w1 ⟨rfl, hb⟩))
            go_ret
            exact ⟨ret_bool (by first | (rw [HE.out]; done) | (rw [HE.out]; simp; omega)), (by repeat (first | exact Below.refl _ _ | assumption | (with_reducible refine below_alloc' ?_ _) | (with_reducible refine below_drew' ?_) | (with_reducible refine below_drewN' ?_ _) | (with_reducible refine below_setCell' ?_ (by first | omega | (simp; omega) | (simp; done)) _) | (refine below_then' ?_ (by assumption))))⟩
end Go.Proofs.Ytkhnalboodkddaa
