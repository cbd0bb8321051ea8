import Derived.Test.YtkhnalboodkddaaIec6
set_option linter.unusedSimpArgs false
set_option linter.unusedVariables false
set_option maxRecDepth 100000
namespace Go.Proofs.Ytkhnalboodkddaa
open Go.RowKit
def doV (op k a b : Int) : Int := if op = 13 ∨ mayK op k = false then 0 else if isK k a = false ∨ isK k b = false then 0 else
  if 10 ≤ op ∧ op ≤ 12 then wrapK k (rawI (op - 3) a (notK k b)) else if op < 19 then wrapK k (rawI op a b) else rawI op a b
def doE (op k a b : Int) : Int := if op = 13 ∨ mayK op k = false then 6 else if isK k a = false ∨ isK k b = false then 1 else 0
theorem do_13 (k a b : Int) (w : World) :
    Calls Try.prog 88 #[.int .i64 13, .int .i64 k, .int .i64 a, .int .i64 b] w fun e w' => e = .returned (.tuple #[.int .i64 (doV 13 k a b), .int .i64 (doE 13 k a b)]) ∧ Below w.heap.size w w' := by
  have hv : doV 13 k a b = 0 := by simp [doV]
  have he : doE 13 k a b = 6 := by simp [doE]
  have HV := hid hv
  have HE := hid he
  clear hv he
  go_enter Try.func88, Try.ntmps88
  go_wp2_with (first | (go_at_call 85; refine (may_any _ _ _).mono ?_; rintro e w1 ⟨rfl, hb⟩) | (go_at_call 86; refine (is_any _ _ _).mono ?_; rintro e w1 ⟨rfl, hb⟩) | (go_at_call 55; refine (not_any _ _ _).mono ?_; rintro e w1 ⟨rfl, hb⟩) | (go_at_call 112; refine (raw_any _ _ _ _).mono ?_; rintro e w1 ⟨rfl, hb⟩) | (go_at_call 72; refine (wrap_any _ _ _).mono ?_; rintro e w1 ⟨rfl, hb⟩))
  go_ret2
  exact ⟨by rw [HV.out, HE.out]; rfl, (by repeat (first | exact Below.refl _ _ | assumption | (with_reducible refine below_alloc' ?_ _) | (with_reducible refine below_drew' ?_) | (with_reducible refine below_drewN' ?_ _) | (with_reducible refine below_setCell' ?_ (by first | omega | (simp; omega) | (simp; done)) _) | (refine below_then' ?_ (by assumption))))⟩
theorem do_may (op k a b : Int) (w : World) (h13 : (op == 13) = false) (h1 : mayK op k = false) :
    Calls Try.prog 88 #[.int .i64 op, .int .i64 k, .int .i64 a, .int .i64 b] w fun e w' => e = .returned (.tuple #[.int .i64 (doV op k a b), .int .i64 (doE op k a b)]) ∧ Below w.heap.size w w' := by
  have hv : doV op k a b = 0 := by simp [doV, h1]
  have he : doE op k a b = 6 := by simp [doE, h1]
  have HV := hid hv
  have HE := hid he
  clear hv he
  go_enter Try.func88, Try.ntmps88
  go_wp2_with (first | (go_at_call 85; refine (may_any _ _ _).mono ?_; rintro e w1 ⟨rfl, hb⟩) | (go_at_call 86; refine (is_any _ _ _).mono ?_; rintro e w1 ⟨rfl, hb⟩) | (go_at_call 55; refine (not_any _ _ _).mono ?_; rintro e w1 ⟨rfl, hb⟩) | (go_at_call 112; refine (raw_any _ _ _ _).mono ?_; rintro e w1 ⟨rfl, hb⟩) | (go_at_call 72; refine (wrap_any _ _ _).mono ?_; rintro e w1 ⟨rfl, hb⟩))
  go_ret2
  exact ⟨by rw [HV.out, HE.out]; rfl, (by repeat (first | exact Below.refl _ _ | assumption | (with_reducible refine below_alloc' ?_ _) | (with_reducible refine below_drew' ?_) | (with_reducible refine below_drewN' ?_ _) | (with_reducible refine below_setCell' ?_ (by first | omega | (simp; omega) | (simp; done)) _) | (refine below_then' ?_ (by assumption))))⟩
theorem do_is1 (op k a b : Int) (w : World) (h13 : (op == 13) = false) (h1 : mayK op k = true) (h2 : isK k a = false) :
    Calls Try.prog 88 #[.int .i64 op, .int .i64 k, .int .i64 a, .int .i64 b] w fun e w' => e = .returned (.tuple #[.int .i64 (doV op k a b), .int .i64 (doE op k a b)]) ∧ Below w.heap.size w w' := by
  have hv : doV op k a b = 0 := by simp at h13; simp [doV, h1, h2, h13]
  have he : doE op k a b = 1 := by simp at h13; simp [doE, h1, h2, h13]
  have HV := hid hv
  have HE := hid he
  clear hv he
  go_enter Try.func88, Try.ntmps88
  go_wp2_with (first | (go_at_call 85; refine (may_any _ _ _).mono ?_; rintro e w1 ⟨rfl, hb⟩) | (go_at_call 86; refine (is_any _ _ _).mono ?_; rintro e w1 ⟨rfl, hb⟩) | (go_at_call 55; refine (not_any _ _ _).mono ?_; rintro e w1 ⟨rfl, hb⟩) | (go_at_call 112; refine (raw_any _ _ _ _).mono ?_; rintro e w1 ⟨rfl, hb⟩) | (go_at_call 72; refine (wrap_any _ _ _).mono ?_; rintro e w1 ⟨rfl, hb⟩))
  go_ret2
  exact ⟨by rw [HV.out, HE.out]; rfl, (by repeat (first | exact Below.refl _ _ | assumption | (with_reducible refine below_alloc' ?_ _) | (with_reducible refine below_drew' ?_) | (with_reducible refine below_drewN' ?_ _) | (with_reducible refine below_setCell' ?_ (by first | omega | (simp; omega) | (simp; done)) _) | (refine below_then' ?_ (by assumption))))⟩
theorem do_is2 (op k a b : Int) (w : World) (h13 : (op == 13) = false) (h1 : mayK op k = true) (h2 : isK k a = true) (h3 : isK k b = false) :
    Calls Try.prog 88 #[.int .i64 op, .int .i64 k, .int .i64 a, .int .i64 b] w fun e w' => e = .returned (.tuple #[.int .i64 (doV op k a b), .int .i64 (doE op k a b)]) ∧ Below w.heap.size w w' := by
  have hv : doV op k a b = 0 := by simp at h13; simp [doV, h1, h2, h3, h13]
  have he : doE op k a b = 1 := by simp at h13; simp [doE, h1, h2, h3, h13]
  have HV := hid hv
  have HE := hid he
  clear hv he
  go_enter Try.func88, Try.ntmps88
  go_wp2_with (first | (go_at_call 85; refine (may_any _ _ _).mono ?_; rintro e w1 ⟨rfl, hb⟩) | (go_at_call 86; refine (is_any _ _ _).mono ?_; rintro e w1 ⟨rfl, hb⟩) | (go_at_call 55; refine (not_any _ _ _).mono ?_; rintro e w1 ⟨rfl, hb⟩) | (go_at_call 112; refine (raw_any _ _ _ _).mono ?_; rintro e w1 ⟨rfl, hb⟩) | (go_at_call 72; refine (wrap_any _ _ _).mono ?_; rintro e w1 ⟨rfl, hb⟩))
  go_ret2
  exact ⟨by rw [HV.out, HE.out]; rfl, (by repeat (first | exact Below.refl _ _ | assumption | (with_reducible refine below_alloc' ?_ _) | (with_reducible refine below_drew' ?_) | (with_reducible refine below_drewN' ?_ _) | (with_reducible refine below_setCell' ?_ (by first | omega | (simp; omega) | (simp; done)) _) | (refine below_then' ?_ (by assumption))))⟩
theorem do_n (op k a b : Int) (w : World) (h13 : (op == 13) = false) (h1 : mayK op k = true) (h2 : isK k a = true) (h3 : isK k b = true) (a1 : 10 ≤ op) (a2 : op ≤ 12) :
    Calls Try.prog 88 #[.int .i64 op, .int .i64 k, .int .i64 a, .int .i64 b] w fun e w' => e = .returned (.tuple #[.int .i64 (doV op k a b), .int .i64 (doE op k a b)]) ∧ Below w.heap.size w w' := by
  have hv : doV op k a b = wrapK k (rawI (op - 10 + 7) a (notK k b)) := by simp at h13; simp [doV, h1, h2, h3, h13, a1, a2]; rw [show op - 3 = op - 10 + 7 by omega]
  have he : doE op k a b = 0 := by simp at h13; simp [doE, h1, h2, h3, h13]
  have HV := hid hv
  have HE := hid he
  clear hv he
  go_enter Try.func88, Try.ntmps88
  go_wp2_with (first | (go_at_call 85; refine (may_any _ _ _).mono ?_; rintro e w1 ⟨rfl, hb⟩) | (go_at_call 86; refine (is_any _ _ _).mono ?_; rintro e w1 ⟨rfl, hb⟩) | (go_at_call 55; refine (not_any _ _ _).mono ?_; rintro e w1 ⟨rfl, hb⟩) | (go_at_call 112; refine (raw_any _ _ _ _).mono ?_; rintro e w1 ⟨rfl, hb⟩) | (go_at_call 72; refine (wrap_any _ _ _).mono ?_; rintro e w1 ⟨rfl, hb⟩))
  go_ret2
  exact ⟨by rw [HV.out, HE.out]; rfl, (by repeat (first | exact Below.refl _ _ | assumption | (with_reducible refine below_alloc' ?_ _) | (with_reducible refine below_drew' ?_) | (with_reducible refine below_drewN' ?_ _) | (with_reducible refine below_setCell' ?_ (by first | omega | (simp; omega) | (simp; done)) _) | (refine below_then' ?_ (by assumption))))⟩
theorem do_lo (op k a b : Int) (w : World) (h13 : (op == 13) = false) (h1 : mayK op k = true) (h2 : isK k a = true) (h3 : isK k b = true) (a1 : op < 10) :
    Calls Try.prog 88 #[.int .i64 op, .int .i64 k, .int .i64 a, .int .i64 b] w fun e w' => e = .returned (.tuple #[.int .i64 (doV op k a b), .int .i64 (doE op k a b)]) ∧ Below w.heap.size w w' := by
  have hv : doV op k a b = wrapK k (rawI op a b) := by simp at h13; simp only [doV, h1, h2, h3, h13]; rw [if_neg (by simp), if_neg (by simp), if_neg (by omega), if_pos (by omega)]
  have he : doE op k a b = 0 := by simp at h13; simp [doE, h1, h2, h3, h13]
  have HV := hid hv
  have HE := hid he
  clear hv he
  go_enter Try.func88, Try.ntmps88
  go_wp2_with (first | (go_at_call 85; refine (may_any _ _ _).mono ?_; rintro e w1 ⟨rfl, hb⟩) | (go_at_call 86; refine (is_any _ _ _).mono ?_; rintro e w1 ⟨rfl, hb⟩) | (go_at_call 55; refine (not_any _ _ _).mono ?_; rintro e w1 ⟨rfl, hb⟩) | (go_at_call 112; refine (raw_any _ _ _ _).mono ?_; rintro e w1 ⟨rfl, hb⟩) | (go_at_call 72; refine (wrap_any _ _ _).mono ?_; rintro e w1 ⟨rfl, hb⟩))
  go_ret2
  exact ⟨by rw [HV.out, HE.out]; rfl, (by repeat (first | exact Below.refl _ _ | assumption | (with_reducible refine below_alloc' ?_ _) | (with_reducible refine below_drew' ?_) | (with_reducible refine below_drewN' ?_ _) | (with_reducible refine below_setCell' ?_ (by first | omega | (simp; omega) | (simp; done)) _) | (refine below_then' ?_ (by assumption))))⟩
theorem do_mid (op k a b : Int) (w : World) (h13 : (op == 13) = false) (h1 : mayK op k = true) (h2 : isK k a = true) (h3 : isK k b = true) (a1 : 12 < op) (a2 : op < 19) :
    Calls Try.prog 88 #[.int .i64 op, .int .i64 k, .int .i64 a, .int .i64 b] w fun e w' => e = .returned (.tuple #[.int .i64 (doV op k a b), .int .i64 (doE op k a b)]) ∧ Below w.heap.size w w' := by
  have hv : doV op k a b = wrapK k (rawI op a b) := by simp at h13; simp only [doV, h1, h2, h3, h13]; rw [if_neg (by simp), if_neg (by simp), if_neg (by omega), if_pos (by omega)]
  have he : doE op k a b = 0 := by simp at h13; simp [doE, h1, h2, h3, h13]
  have HV := hid hv
  have HE := hid he
  clear hv he
  go_enter Try.func88, Try.ntmps88
  go_wp2_with (first | (go_at_call 85; refine (may_any _ _ _).mono ?_; rintro e w1 ⟨rfl, hb⟩) | (go_at_call 86; refine (is_any _ _ _).mono ?_; rintro e w1 ⟨rfl, hb⟩) | (go_at_call 55; refine (not_any _ _ _).mono ?_; rintro e w1 ⟨rfl, hb⟩) | (go_at_call 112; refine (raw_any _ _ _ _).mono ?_; rintro e w1 ⟨rfl, hb⟩) | (go_at_call 72; refine (wrap_any _ _ _).mono ?_; rintro e w1 ⟨rfl, hb⟩))
  go_ret2
  exact ⟨by rw [HV.out, HE.out]; rfl, (by repeat (first | exact Below.refl _ _ | assumption | (with_reducible refine below_alloc' ?_ _) | (with_reducible refine below_drew' ?_) | (with_reducible refine below_drewN' ?_ _) | (with_reducible refine below_setCell' ?_ (by first | omega | (simp; omega) | (simp; done)) _) | (refine below_then' ?_ (by assumption))))⟩
theorem do_hi (op k a b : Int) (w : World) (h13 : (op == 13) = false) (h1 : mayK op k = true) (h2 : isK k a = true) (h3 : isK k b = true) (a1 : 19 ≤ op) :
    Calls Try.prog 88 #[.int .i64 op, .int .i64 k, .int .i64 a, .int .i64 b] w fun e w' => e = .returned (.tuple #[.int .i64 (doV op k a b), .int .i64 (doE op k a b)]) ∧ Below w.heap.size w w' := by
  have hv : doV op k a b = rawI op a b := by simp at h13; simp only [doV, h1, h2, h3, h13]; rw [if_neg (by simp), if_neg (by simp), if_neg (by omega), if_neg (by omega)]
  have he : doE op k a b = 0 := by simp at h13; simp [doE, h1, h2, h3, h13]
  have HV := hid hv
  have HE := hid he
  clear hv he
  have a2 : 12 < op := by omega
  go_enter Try.func88, Try.ntmps88
  go_wp2_with (first | (go_at_call 85; refine (may_any _ _ _).mono ?_; rintro e w1 ⟨rfl, hb⟩) | (go_at_call 86; refine (is_any _ _ _).mono ?_; rintro e w1 ⟨rfl, hb⟩) | (go_at_call 55; refine (not_any _ _ _).mono ?_; rintro e w1 ⟨rfl, hb⟩) | (go_at_call 112; refine (raw_any _ _ _ _).mono ?_; rintro e w1 ⟨rfl, hb⟩) | (go_at_call 72; refine (wrap_any _ _ _).mono ?_; rintro e w1 ⟨rfl, hb⟩))
  go_ret2
  exact ⟨by rw [HV.out, HE.out]; rfl, (by repeat (first | exact Below.refl _ _ | assumption | (with_reducible refine below_alloc' ?_ _) | (with_reducible refine below_drew' ?_) | (with_reducible refine below_drewN' ?_ _) | (with_reducible refine below_setCell' ?_ (by first | omega | (simp; omega) | (simp; done)) _) | (refine below_then' ?_ (by assumption))))⟩
theorem do_any (op k a b : Int) (w : World) :
    Calls Try.prog 88 #[.int .i64 op, .int .i64 k, .int .i64 a, .int .i64 b] w fun e w' => e = .returned (.tuple #[.int .i64 (doV op k a b), .int .i64 (doE op k a b)]) ∧ Below w.heap.size w w' := by
  by_cases h13 : op = 13
  · subst h13; exact do_13 k a b w
  · have h13 : (op == 13) = false := by simp [h13]
    cases h1 : mayK op k
    · exact do_may op k a b w h13 h1
    · cases h2 : isK k a
      · exact do_is1 op k a b w h13 h1 h2
      · cases h3 : isK k b
        · exact do_is2 op k a b w h13 h1 h2 h3
        · by_cases a1 : op < 10
          · exact do_lo op k a b w h13 h1 h2 h3 a1
          · by_cases a2 : op ≤ 12
            · exact do_n op k a b w h13 h1 h2 h3 (by omega) a2
            · by_cases a3 : op < 19
              · exact do_mid op k a b w h13 h1 h2 h3 (by omega) a3
              · exact do_hi op k a b w h13 h1 h2 h3 (by omega)
end Go.Proofs.Ytkhnalboodkddaa
