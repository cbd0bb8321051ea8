import Derived.Test.YtkhnalboodkddaaIec7
set_option linter.unusedSimpArgs false
set_option linter.unusedVariables false
set_option maxRecDepth 100000
namespace Go.Proofs.Ytkhnalboodkddaa
open Go.RowKit
def thereB (n at_ k : Int) : Bool := decide (0 < ksize k ∧ 0 ≤ at_ ∧ at_ ≤ n ∧ ksize k ≤ n - at_)
theorem ksize_range (k : Int) : 0 ≤ ksize k ∧ ksize k ≤ 4 := by
  unfold ksize
  repeat (first | (split; omega) | omega)
theorem there_1 (n at_ k : Int) (w : World) (n0 : 0 ≤ n) (n1 : n ≤ 9223372036854775807) (h : ksize k ≤ 0) :
    Calls Try.prog 118 #[.int .i64 n, .int .i64 at_, .int .i64 k] w fun e w' => e = .returned (.bool (thereB n at_ k)) ∧ Below w.heap.size w w' := by
  obtain ⟨s0, s1⟩ := ksize_range k
  have he : thereB n at_ k = false := by simp [thereB]; omega
  have HE := hid he
  clear he
  go_enter Try.func118, Try.ntmps118
  go_wp2_with (first | (go_at_call 92; refine (size_any _ _).mono ?_; rintro e w1 ⟨rfl, hb⟩))
  go_ret
  exact ⟨ret_bool (by first | (rw [HE.out]; done) | (rw [HE.out]; simp; omega)), (by repeat (first | exact Below.refl _ _ | assumption | (with_reducible refine below_alloc' ?_ _) | (with_reducible refine below_drew' ?_) | (with_reducible refine below_drewN' ?_ _) | (with_reducible refine below_setCell' ?_ (by first | omega | (simp; omega) | (simp; done)) _) | (refine below_then' ?_ (by assumption))))⟩
theorem there_2 (n at_ k : Int) (w : World) (n0 : 0 ≤ n) (n1 : n ≤ 9223372036854775807) (h : 0 < ksize k) (h2 : at_ < 0) :
    Calls Try.prog 118 #[.int .i64 n, .int .i64 at_, .int .i64 k] w fun e w' => e = .returned (.bool (thereB n at_ k)) ∧ Below w.heap.size w w' := by
  obtain ⟨s0, s1⟩ := ksize_range k
  have he : thereB n at_ k = false := by simp [thereB]; omega
  have HE := hid he
  clear he
  go_enter Try.func118, Try.ntmps118
  go_wp2_with (first | (go_at_call 92; refine (size_any _ _).mono ?_; rintro e w1 ⟨rfl, hb⟩))
  go_ret
  exact ⟨ret_bool (by first | (rw [HE.out]; done) | (rw [HE.out]; simp; omega)), (by repeat (first | exact Below.refl _ _ | assumption | (with_reducible refine below_alloc' ?_ _) | (with_reducible refine below_drew' ?_) | (with_reducible refine below_drewN' ?_ _) | (with_reducible refine below_setCell' ?_ (by first | omega | (simp; omega) | (simp; done)) _) | (refine below_then' ?_ (by assumption))))⟩
theorem there_3 (n at_ k : Int) (w : World) (n0 : 0 ≤ n) (n1 : n ≤ 9223372036854775807) (h : 0 < ksize k) (h2 : 0 ≤ at_) (h3 : n < at_) :
    Calls Try.prog 118 #[.int .i64 n, .int .i64 at_, .int .i64 k] w fun e w' => e = .returned (.bool (thereB n at_ k)) ∧ Below w.heap.size w w' := by
  obtain ⟨s0, s1⟩ := ksize_range k
  have he : thereB n at_ k = false := by simp [thereB]; omega
  have HE := hid he
  clear he
  go_enter Try.func118, Try.ntmps118
  go_wp2_with (first | (go_at_call 92; refine (size_any _ _).mono ?_; rintro e w1 ⟨rfl, hb⟩))
  go_ret
  exact ⟨ret_bool (by first | (rw [HE.out]; done) | (rw [HE.out]; simp; omega)), (by repeat (first | exact Below.refl _ _ | assumption | (with_reducible refine below_alloc' ?_ _) | (with_reducible refine below_drew' ?_) | (with_reducible refine below_drewN' ?_ _) | (with_reducible refine below_setCell' ?_ (by first | omega | (simp; omega) | (simp; done)) _) | (refine below_then' ?_ (by assumption))))⟩
theorem there_4 (n at_ k : Int) (w : World) (n0 : 0 ≤ n) (n1 : n ≤ 9223372036854775807) (h : 0 < ksize k) (h2 : 0 ≤ at_) (h3 : at_ ≤ n) (h4 : n - at_ < ksize k) :
    Calls Try.prog 118 #[.int .i64 n, .int .i64 at_, .int .i64 k] w fun e w' => e = .returned (.bool (thereB n at_ k)) ∧ Below w.heap.size w w' := by
  obtain ⟨s0, s1⟩ := ksize_range k
  have he : thereB n at_ k = false := by simp [thereB]; omega
  have HE := hid he
  clear he
  go_enter Try.func118, Try.ntmps118
  go_wp2_with (first | (go_at_call 92; refine (size_any _ _).mono ?_; rintro e w1 ⟨rfl, hb⟩))
  go_ret
  exact ⟨ret_bool (by first | (rw [HE.out]; done) | (rw [HE.out]; simp; omega)), (by repeat (first | exact Below.refl _ _ | assumption | (with_reducible refine below_alloc' ?_ _) | (with_reducible refine below_drew' ?_) | (with_reducible refine below_drewN' ?_ _) | (with_reducible refine below_setCell' ?_ (by first | omega | (simp; omega) | (simp; done)) _) | (refine below_then' ?_ (by assumption))))⟩
theorem there_5 (n at_ k : Int) (w : World) (n0 : 0 ≤ n) (n1 : n ≤ 9223372036854775807) (h : 0 < ksize k) (h2 : 0 ≤ at_) (h3 : at_ ≤ n) (h4 : ksize k ≤ n - at_) :
    Calls Try.prog 118 #[.int .i64 n, .int .i64 at_, .int .i64 k] w fun e w' => e = .returned (.bool (thereB n at_ k)) ∧ Below w.heap.size w w' := by
  obtain ⟨s0, s1⟩ := ksize_range k
  have he : thereB n at_ k = true := by simp [thereB]; omega
  have HE := hid he
  clear he
  go_enter Try.func118, Try.ntmps118
  go_wp2_with (first | (go_at_call 92; refine (size_any _ _).mono ?_; rintro e w1 ⟨rfl, hb⟩))
  go_ret
  exact ⟨ret_bool (by first | (rw [HE.out]; done) | (rw [HE.out]; simp; omega)), (by repeat (first | exact Below.refl _ _ | assumption | (with_reducible refine below_alloc' ?_ _) | (with_reducible refine below_drew' ?_) | (with_reducible refine below_drewN' ?_ _) | (with_reducible refine below_setCell' ?_ (by first | omega | (simp; omega) | (simp; done)) _) | (refine below_then' ?_ (by assumption))))⟩
theorem there_any (n at_ k : Int) (w : World) (n0 : 0 ≤ n) (n1 : n ≤ 9223372036854775807) :
    Calls Try.prog 118 #[.int .i64 n, .int .i64 at_, .int .i64 k] w fun e w' => e = .returned (.bool (thereB n at_ k)) ∧ Below w.heap.size w w' := by
  by_cases h : ksize k ≤ 0
  · exact there_1 n at_ k w n0 n1 h
  · by_cases h2 : at_ < 0
    · exact there_2 n at_ k w n0 n1 (by omega) h2
    · by_cases h3 : n < at_
      · exact there_3 n at_ k w n0 n1 (by omega) (by omega) h3
      · by_cases h4 : n - at_ < ksize k
        · exact there_4 n at_ k w n0 n1 (by omega) (by omega) (by omega) h4
        · exact there_5 n at_ k w n0 n1 (by omega) (by omega) (by omega) (by omega)
end Go.Proofs.Ytkhnalboodkddaa
