import Derived.Test.YtkhnalboodkddaaIec4
set_option linter.unusedSimpArgs false
set_option linter.unusedVariables false
namespace Go.Proofs.Ytkhnalboodkddaa
open Go.RowKit
def yesI (b : Bool) : Int := if b then 1 else 0
theorem yes_any (b : Bool) (w : World) :
    Calls Try.prog 121 #[.bool b] w fun e w' => e = .returned (.int .i64 (yesI b)) ∧ Below w.heap.size w w' := by
  cases b
  · go_enter Try.func121, Try.ntmps121
    go_wp2
    go_ret
    exact ⟨rfl, (by repeat (first | exact Below.refl _ _ | assumption | (with_reducible refine below_alloc' ?_ _) | (with_reducible refine below_drew' ?_) | (with_reducible refine below_drewN' ?_ _) | (with_reducible refine below_setCell' ?_ (by first | omega | (simp; omega) | (simp; done)) _) | (refine below_then' ?_ (by assumption))))⟩
  · go_enter Try.func121, Try.ntmps121
    go_wp2
    go_ret
    exact ⟨rfl, (by repeat (first | exact Below.refl _ _ | assumption | (with_reducible refine below_alloc' ?_ _) | (with_reducible refine below_drew' ?_) | (with_reducible refine below_drewN' ?_ _) | (with_reducible refine below_setCell' ?_ (by first | omega | (simp; omega) | (simp; done)) _) | (refine below_then' ?_ (by assumption))))⟩
def i64 (v : Int) : Prop := -9223372036854775808 ≤ v ∧ v ≤ 9223372036854775807
def divI (a b : Int) : Int := if b = 0 then 0 else wrap64 (a.tdiv b)
def modI (a b : Int) : Int := if b = 0 then 0 else a.tmod b
theorem quotient_any (a b : Int) (w : World) :
    Calls Try.prog 120 #[.int .i64 a, .int .i64 b] w fun e w' => e = .returned (.tuple #[.int .i64 (divI a b), .int .i64 (modI a b)]) ∧ Below w.heap.size w w' := by
  by_cases hz : b = 0
  · have h0 : (b == 0) = true := by simp [hz]
    have h1 : divI a b = 0 := by simp [divI, hz]
    have h2 : modI a b = 0 := by simp [modI, hz]
    have H1 := hid h1
    have H2 := hid h2
    clear h1 h2 hz
    go_enter Try.func120, Try.ntmps120
    go_wp2
    go_ret2
    exact ⟨by rw [H1.out, H2.out]; rfl, (by repeat (first | exact Below.refl _ _ | assumption | (with_reducible refine below_alloc' ?_ _) | (with_reducible refine below_drew' ?_) | (with_reducible refine below_drewN' ?_ _) | (with_reducible refine below_setCell' ?_ (by first | omega | (simp; omega) | (simp; done)) _) | (refine below_then' ?_ (by assumption))))⟩
  · have h0 : (b == 0) = false := by simp [hz]
    have h1 : divI a b = wrap64 (a.tdiv b) := by simp [divI, hz]
    have h2 : modI a b = a.tmod b := by simp [modI, hz]
    have H1 := hid h1
    have H2 := hid h2
    clear h1 h2
    go_enter Try.func120, Try.ntmps120
    go_wp2
    go_quiet (fail)
    go_wp2
    go_ret2
    exact ⟨by rw [H1.out, H2.out]; rfl, (by repeat (first | exact Below.refl _ _ | assumption | (with_reducible refine below_alloc' ?_ _) | (with_reducible refine below_drew' ?_) | (with_reducible refine below_drewN' ?_ _) | (with_reducible refine below_setCell' ?_ (by first | omega | (simp; omega) | (simp; done)) _) | (refine below_then' ?_ (by assumption))))⟩
def rawI (op a b : Int) : Int := if op = 7 then bits .and .i64 a b else if op = 8 then bits .or .i64 a b else if op = 9 then bits .xor .i64 a b else if op = 14 then wrap64 (a + b) else if op = 15 then wrap64 (a - b) else if op = 16 then wrap64 (a * b) else if op = 17 then divI a b else if op = 18 then modI a b else if op = 19 then yesI (decide (b < a)) else if op = 20 then yesI (decide (b ≤ a)) else if op = 21 then yesI (a == b) else if op = 22 then yesI (a != b) else if op = 23 then yesI (decide (a ≤ b)) else yesI (decide (a < b))
theorem raw_7 (a b : Int) (w : World) :
    Calls Try.prog 112 #[.int .i64 7, .int .i64 a, .int .i64 b] w fun e w' => e = .returned (.int .i64 (rawI 7 a b)) ∧ Below w.heap.size w w' := by
  go_enter Try.func112, Try.ntmps112
  go_wp2_with (first | (go_at_call 120; refine (quotient_any _ _ _).mono ?_; rintro e w1 ⟨rfl, hb⟩) | (go_at_call 121; refine (yes_any _ _).mono ?_; rintro e w1 ⟨rfl, hb⟩))
  go_ret
  exact ⟨ret_int (by simp [rawI]), (by repeat (first | exact Below.refl _ _ | assumption | (with_reducible refine below_alloc' ?_ _) | (with_reducible refine below_drew' ?_) | (with_reducible refine below_drewN' ?_ _) | (with_reducible refine below_setCell' ?_ (by first | omega | (simp; omega) | (simp; done)) _) | (refine below_then' ?_ (by assumption))))⟩
theorem raw_8 (a b : Int) (w : World) :
    Calls Try.prog 112 #[.int .i64 8, .int .i64 a, .int .i64 b] w fun e w' => e = .returned (.int .i64 (rawI 8 a b)) ∧ Below w.heap.size w w' := by
  go_enter Try.func112, Try.ntmps112
  go_wp2_with (first | (go_at_call 120; refine (quotient_any _ _ _).mono ?_; rintro e w1 ⟨rfl, hb⟩) | (go_at_call 121; refine (yes_any _ _).mono ?_; rintro e w1 ⟨rfl, hb⟩))
  go_ret
  exact ⟨ret_int (by simp [rawI]), (by repeat (first | exact Below.refl _ _ | assumption | (with_reducible refine below_alloc' ?_ _) | (with_reducible refine below_drew' ?_) | (with_reducible refine below_drewN' ?_ _) | (with_reducible refine below_setCell' ?_ (by first | omega | (simp; omega) | (simp; done)) _) | (refine below_then' ?_ (by assumption))))⟩
theorem raw_9 (a b : Int) (w : World) :
    Calls Try.prog 112 #[.int .i64 9, .int .i64 a, .int .i64 b] w fun e w' => e = .returned (.int .i64 (rawI 9 a b)) ∧ Below w.heap.size w w' := by
  go_enter Try.func112, Try.ntmps112
  go_wp2_with (first | (go_at_call 120; refine (quotient_any _ _ _).mono ?_; rintro e w1 ⟨rfl, hb⟩) | (go_at_call 121; refine (yes_any _ _).mono ?_; rintro e w1 ⟨rfl, hb⟩))
  go_ret
  exact ⟨ret_int (by simp [rawI]), (by repeat (first | exact Below.refl _ _ | assumption | (with_reducible refine below_alloc' ?_ _) | (with_reducible refine below_drew' ?_) | (with_reducible refine below_drewN' ?_ _) | (with_reducible refine below_setCell' ?_ (by first | omega | (simp; omega) | (simp; done)) _) | (refine below_then' ?_ (by assumption))))⟩
theorem raw_14 (a b : Int) (w : World) :
    Calls Try.prog 112 #[.int .i64 14, .int .i64 a, .int .i64 b] w fun e w' => e = .returned (.int .i64 (rawI 14 a b)) ∧ Below w.heap.size w w' := by
  go_enter Try.func112, Try.ntmps112
  go_wp2_with (first | (go_at_call 120; refine (quotient_any _ _ _).mono ?_; rintro e w1 ⟨rfl, hb⟩) | (go_at_call 121; refine (yes_any _ _).mono ?_; rintro e w1 ⟨rfl, hb⟩))
  go_ret
  exact ⟨ret_int (by simp [rawI]), (by repeat (first | exact Below.refl _ _ | assumption | (with_reducible refine below_alloc' ?_ _) | (with_reducible refine below_drew' ?_) | (with_reducible refine below_drewN' ?_ _) | (with_reducible refine below_setCell' ?_ (by first | omega | (simp; omega) | (simp; done)) _) | (refine below_then' ?_ (by assumption))))⟩
theorem raw_15 (a b : Int) (w : World) :
    Calls Try.prog 112 #[.int .i64 15, .int .i64 a, .int .i64 b] w fun e w' => e = .returned (.int .i64 (rawI 15 a b)) ∧ Below w.heap.size w w' := by
  go_enter Try.func112, Try.ntmps112
  go_wp2_with (first | (go_at_call 120; refine (quotient_any _ _ _).mono ?_; rintro e w1 ⟨rfl, hb⟩) | (go_at_call 121; refine (yes_any _ _).mono ?_; rintro e w1 ⟨rfl, hb⟩))
  go_ret
  exact ⟨ret_int (by simp [rawI]), (by repeat (first | exact Below.refl _ _ | assumption | (with_reducible refine below_alloc' ?_ _) | (with_reducible refine below_drew' ?_) | (with_reducible refine below_drewN' ?_ _) | (with_reducible refine below_setCell' ?_ (by first | omega | (simp; omega) | (simp; done)) _) | (refine below_then' ?_ (by assumption))))⟩
theorem raw_16 (a b : Int) (w : World) :
    Calls Try.prog 112 #[.int .i64 16, .int .i64 a, .int .i64 b] w fun e w' => e = .returned (.int .i64 (rawI 16 a b)) ∧ Below w.heap.size w w' := by
  go_enter Try.func112, Try.ntmps112
  go_wp2_with (first | (go_at_call 120; refine (quotient_any _ _ _).mono ?_; rintro e w1 ⟨rfl, hb⟩) | (go_at_call 121; refine (yes_any _ _).mono ?_; rintro e w1 ⟨rfl, hb⟩))
  go_ret
  exact ⟨ret_int (by simp [rawI]), (by repeat (first | exact Below.refl _ _ | assumption | (with_reducible refine below_alloc' ?_ _) | (with_reducible refine below_drew' ?_) | (with_reducible refine below_drewN' ?_ _) | (with_reducible refine below_setCell' ?_ (by first | omega | (simp; omega) | (simp; done)) _) | (refine below_then' ?_ (by assumption))))⟩
theorem raw_17 (a b : Int) (w : World) :
    Calls Try.prog 112 #[.int .i64 17, .int .i64 a, .int .i64 b] w fun e w' => e = .returned (.int .i64 (rawI 17 a b)) ∧ Below w.heap.size w w' := by
  go_enter Try.func112, Try.ntmps112
  go_wp2_with (first | (go_at_call 120; refine (quotient_any _ _ _).mono ?_; rintro e w1 ⟨rfl, hb⟩) | (go_at_call 121; refine (yes_any _ _).mono ?_; rintro e w1 ⟨rfl, hb⟩))
  go_ret
  exact ⟨ret_int (by simp [rawI]), (by repeat (first | exact Below.refl _ _ | assumption | (with_reducible refine below_alloc' ?_ _) | (with_reducible refine below_drew' ?_) | (with_reducible refine below_drewN' ?_ _) | (with_reducible refine below_setCell' ?_ (by first | omega | (simp; omega) | (simp; done)) _) | (refine below_then' ?_ (by assumption))))⟩
theorem raw_18 (a b : Int) (w : World) :
    Calls Try.prog 112 #[.int .i64 18, .int .i64 a, .int .i64 b] w fun e w' => e = .returned (.int .i64 (rawI 18 a b)) ∧ Below w.heap.size w w' := by
  go_enter Try.func112, Try.ntmps112
  go_wp2_with (first | (go_at_call 120; refine (quotient_any _ _ _).mono ?_; rintro e w1 ⟨rfl, hb⟩) | (go_at_call 121; refine (yes_any _ _).mono ?_; rintro e w1 ⟨rfl, hb⟩))
  go_ret
  exact ⟨ret_int (by simp [rawI]), (by repeat (first | exact Below.refl _ _ | assumption | (with_reducible refine below_alloc' ?_ _) | (with_reducible refine below_drew' ?_) | (with_reducible refine below_drewN' ?_ _) | (with_reducible refine below_setCell' ?_ (by first | omega | (simp; omega) | (simp; done)) _) | (refine below_then' ?_ (by assumption))))⟩
theorem raw_19 (a b : Int) (w : World) :
    Calls Try.prog 112 #[.int .i64 19, .int .i64 a, .int .i64 b] w fun e w' => e = .returned (.int .i64 (rawI 19 a b)) ∧ Below w.heap.size w w' := by
  go_enter Try.func112, Try.ntmps112
  go_wp2_with (first | (go_at_call 120; refine (quotient_any _ _ _).mono ?_; rintro e w1 ⟨rfl, hb⟩) | (go_at_call 121; refine (yes_any _ _).mono ?_; rintro e w1 ⟨rfl, hb⟩))
  go_ret
  exact ⟨ret_int (by simp [rawI]), (by repeat (first | exact Below.refl _ _ | assumption | (with_reducible refine below_alloc' ?_ _) | (with_reducible refine below_drew' ?_) | (with_reducible refine below_drewN' ?_ _) | (with_reducible refine below_setCell' ?_ (by first | omega | (simp; omega) | (simp; done)) _) | (refine below_then' ?_ (by assumption))))⟩
theorem raw_20 (a b : Int) (w : World) :
    Calls Try.prog 112 #[.int .i64 20, .int .i64 a, .int .i64 b] w fun e w' => e = .returned (.int .i64 (rawI 20 a b)) ∧ Below w.heap.size w w' := by
  go_enter Try.func112, Try.ntmps112
  go_wp2_with (first | (go_at_call 120; refine (quotient_any _ _ _).mono ?_; rintro e w1 ⟨rfl, hb⟩) | (go_at_call 121; refine (yes_any _ _).mono ?_; rintro e w1 ⟨rfl, hb⟩))
  go_ret
  exact ⟨ret_int (by simp [rawI]), (by repeat (first | exact Below.refl _ _ | assumption | (with_reducible refine below_alloc' ?_ _) | (with_reducible refine below_drew' ?_) | (with_reducible refine below_drewN' ?_ _) | (with_reducible refine below_setCell' ?_ (by first | omega | (simp; omega) | (simp; done)) _) | (refine below_then' ?_ (by assumption))))⟩
theorem raw_21 (a b : Int) (w : World) :
    Calls Try.prog 112 #[.int .i64 21, .int .i64 a, .int .i64 b] w fun e w' => e = .returned (.int .i64 (rawI 21 a b)) ∧ Below w.heap.size w w' := by
  go_enter Try.func112, Try.ntmps112
  go_wp2_with (first | (go_at_call 120; refine (quotient_any _ _ _).mono ?_; rintro e w1 ⟨rfl, hb⟩) | (go_at_call 121; refine (yes_any _ _).mono ?_; rintro e w1 ⟨rfl, hb⟩))
  go_ret
  exact ⟨ret_int (by simp [rawI]), (by repeat (first | exact Below.refl _ _ | assumption | (with_reducible refine below_alloc' ?_ _) | (with_reducible refine below_drew' ?_) | (with_reducible refine below_drewN' ?_ _) | (with_reducible refine below_setCell' ?_ (by first | omega | (simp; omega) | (simp; done)) _) | (refine below_then' ?_ (by assumption))))⟩
theorem raw_22 (a b : Int) (w : World) :
    Calls Try.prog 112 #[.int .i64 22, .int .i64 a, .int .i64 b] w fun e w' => e = .returned (.int .i64 (rawI 22 a b)) ∧ Below w.heap.size w w' := by
  go_enter Try.func112, Try.ntmps112
  go_wp2_with (first | (go_at_call 120; refine (quotient_any _ _ _).mono ?_; rintro e w1 ⟨rfl, hb⟩) | (go_at_call 121; refine (yes_any _ _).mono ?_; rintro e w1 ⟨rfl, hb⟩))
  go_ret
  exact ⟨ret_int (by simp [rawI]), (by repeat (first | exact Below.refl _ _ | assumption | (with_reducible refine below_alloc' ?_ _) | (with_reducible refine below_drew' ?_) | (with_reducible refine below_drewN' ?_ _) | (with_reducible refine below_setCell' ?_ (by first | omega | (simp; omega) | (simp; done)) _) | (refine below_then' ?_ (by assumption))))⟩
theorem raw_23 (a b : Int) (w : World) :
    Calls Try.prog 112 #[.int .i64 23, .int .i64 a, .int .i64 b] w fun e w' => e = .returned (.int .i64 (rawI 23 a b)) ∧ Below w.heap.size w w' := by
  go_enter Try.func112, Try.ntmps112
  go_wp2_with (first | (go_at_call 120; refine (quotient_any _ _ _).mono ?_; rintro e w1 ⟨rfl, hb⟩) | (go_at_call 121; refine (yes_any _ _).mono ?_; rintro e w1 ⟨rfl, hb⟩))
  go_ret
  exact ⟨ret_int (by simp [rawI]), (by repeat (first | exact Below.refl _ _ | assumption | (with_reducible refine below_alloc' ?_ _) | (with_reducible refine below_drew' ?_) | (with_reducible refine below_drewN' ?_ _) | (with_reducible refine below_setCell' ?_ (by first | omega | (simp; omega) | (simp; done)) _) | (refine below_then' ?_ (by assumption))))⟩
theorem raw_no (op a b : Int) (w : World) (h : ¬ op = 7 ∧ ¬ op = 8 ∧ ¬ op = 9 ∧ ¬ op = 14 ∧ ¬ op = 15 ∧ ¬ op = 16 ∧ ¬ op = 17 ∧ ¬ op = 18 ∧ ¬ op = 19 ∧ ¬ op = 20 ∧ ¬ op = 21 ∧ ¬ op = 22 ∧ ¬ op = 23) :
    Calls Try.prog 112 #[.int .i64 op, .int .i64 a, .int .i64 b] w fun e w' => e = .returned (.int .i64 (rawI op a b)) ∧ Below w.heap.size w w' := by
  obtain ⟨h7, h8, h9, h14, h15, h16, h17, h18, h19, h20, h21, h22, h23⟩ := h
  have he : rawI op a b = yesI (decide (a < b)) := by simp [rawI, h7, h8, h9, h14, h15, h16, h17, h18, h19, h20, h21, h22, h23]
  have HE := hid he
  clear he
  have b7 : (op == 7) = false := by simp [h7]
  have b8 : (op == 8) = false := by simp [h8]
  have b9 : (op == 9) = false := by simp [h9]
  have b14 : (op == 14) = false := by simp [h14]
  have b15 : (op == 15) = false := by simp [h15]
  have b16 : (op == 16) = false := by simp [h16]
  have b17 : (op == 17) = false := by simp [h17]
  have b18 : (op == 18) = false := by simp [h18]
  have b19 : (op == 19) = false := by simp [h19]
  have b20 : (op == 20) = false := by simp [h20]
  have b21 : (op == 21) = false := by simp [h21]
  have b22 : (op == 22) = false := by simp [h22]
  have b23 : (op == 23) = false := by simp [h23]
  go_enter Try.func112, Try.ntmps112
  go_wp2_with (first | (go_at_call 120; refine (quotient_any _ _ _).mono ?_; rintro e w1 ⟨rfl, hb⟩) | (go_at_call 121; refine (yes_any _ _).mono ?_; rintro e w1 ⟨rfl, hb⟩))
  go_ret
  exact ⟨ret_int (by rw [HE.out]), (by repeat (first | exact Below.refl _ _ | assumption | (with_reducible refine below_alloc' ?_ _) | (with_reducible refine below_drew' ?_) | (with_reducible refine below_drewN' ?_ _) | (with_reducible refine below_setCell' ?_ (by first | omega | (simp; omega) | (simp; done)) _) | (refine below_then' ?_ (by assumption))))⟩
theorem raw_any (op a b : Int) (w : World) :
    Calls Try.prog 112 #[.int .i64 op, .int .i64 a, .int .i64 b] w fun e w' => e = .returned (.int .i64 (rawI op a b)) ∧ Below w.heap.size w w' := by
  by_cases h7 : op = 7
  · subst h7; exact raw_7 a b w
  by_cases h8 : op = 8
  · subst h8; exact raw_8 a b w
  by_cases h9 : op = 9
  · subst h9; exact raw_9 a b w
  by_cases h14 : op = 14
  · subst h14; exact raw_14 a b w
  by_cases h15 : op = 15
  · subst h15; exact raw_15 a b w
  by_cases h16 : op = 16
  · subst h16; exact raw_16 a b w
  by_cases h17 : op = 17
  · subst h17; exact raw_17 a b w
  by_cases h18 : op = 18
  · subst h18; exact raw_18 a b w
  by_cases h19 : op = 19
  · subst h19; exact raw_19 a b w
  by_cases h20 : op = 20
  · subst h20; exact raw_20 a b w
  by_cases h21 : op = 21
  · subst h21; exact raw_21 a b w
  by_cases h22 : op = 22
  · subst h22; exact raw_22 a b w
  by_cases h23 : op = 23
  · subst h23; exact raw_23 a b w
  exact raw_no op a b w ⟨h7, h8, h9, h14, h15, h16, h17, h18, h19, h20, h21, h22, h23⟩
end Go.Proofs.Ytkhnalboodkddaa
