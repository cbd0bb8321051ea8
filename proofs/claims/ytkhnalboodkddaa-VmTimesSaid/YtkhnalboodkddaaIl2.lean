import Derived.Test.YtkhnalboodkddaaIl1
set_option linter.unusedSimpArgs false
set_option linter.unusedVariables false
set_option maxRecDepth 100000
namespace Go.Proofs.Ytkhnalboodkddaa
open Go.RowKit
def rightB (i : Ins) : Bool :=
  if cls i.op = 1 then (if i.area = 0 then decide (i.at_ = 0) && isK i.kind i.n else standsB i.kind i.area i.at_ i.n 1)
  else if cls i.op = 2 then standsB i.kind i.area i.at_ i.n 2
  else if cls i.op = 3 then decide (i.area = 0 ∧ i.n = 0 ∧ i.kind = 0 ∧ 0 ≤ i.at_ ∧ i.at_ ≤ 200)
  else if cls i.op = 4 then decide (i.area = 0 ∧ i.n = 0 ∧ i.kind = 0 ∧ i.at_ = 0)
  else if cls i.op = 5 then decide (i.area = 0 ∧ i.n = 0 ∧ i.at_ = 0 ∧ 0 < ksize i.kind)
  else if cls i.op = 6 then decide (i.area = 0 ∧ i.n = 0 ∧ i.kind = 0) && withinB i.at_
  else if cls i.op = 7 then decide (i.kind = 0) && keepsB i.area && decide (0 ≤ i.at_ ∧ i.at_ ≤ 59 ∧ 1 ≤ i.n ∧ i.n ≤ 9999)
  else if cls i.op = 8 then decide (i.kind = 0) && keepsB i.area && decide (0 ≤ i.at_ ∧ i.at_ < 64 ∧ i.n = 0)
  else false
theorem right_1 (op kind area at_ n : Int) (w : World) (hc : cls op = 1) :
    Calls Try.prog 58 #[.agg #[.int .i64 op, .int .i64 kind, .int .i64 area, .int .i64 at_, .int .i64 n]] w fun e w' => e = .returned (.bool (rightB ⟨op, kind, area, at_, n⟩)) ∧ Below w.heap.size w w' := by
  have he : rightB ⟨op, kind, area, at_, n⟩ = (if area = 0 then decide (at_ = 0) && isK kind n else standsB kind area at_ n 1) := by simp [rightB, hc]
  have HE := hid he
  clear he
  obtain ⟨r, hr⟩ : ∃ r, r = rightB ⟨op, kind, area, at_, n⟩ := ⟨_, rfl⟩
  rw [← hr]
  have HR := hid hr
  clear hr
  have hf := opfield
  go_enter Try.func58, Try.ntmps58
  go_wp2_with (first | (go_at_call 90; refine (opof_any _ _).mono ?_; rintro e w1 ⟨rfl, hb⟩; have hbc := (bcell hb).1; have hbf := (bcell hb).2; try simp only [World.size_alloc, World.size_setCell] at hbc hbf; try (have hlt : w.heap.size < w1.heap.size := by (have hsz := hb.size; simp only [World.size_alloc, World.size_setCell] at hsz; omega))) | (go_at_call 86; refine (is_any _ _ _).mono ?_; rintro e w1 ⟨rfl, hb⟩; have hbc := (bcell hb).1; have hbf := (bcell hb).2; try simp only [World.size_alloc, World.size_setCell] at hbc hbf; try (have hlt : w.heap.size < w1.heap.size := by (have hsz := hb.size; simp only [World.size_alloc, World.size_setCell] at hsz; omega))) | (go_at_call 91; refine (stands_any _ _ _ _ _ _ _).mono ?_; rintro e w1 ⟨rfl, hb⟩; have hbc := (bcell hb).1; have hbf := (bcell hb).2; try simp only [World.size_alloc, World.size_setCell] at hbc hbf; try (have hlt : w.heap.size < w1.heap.size := by (have hsz := hb.size; simp only [World.size_alloc, World.size_setCell] at hsz; omega))) | (go_at_call 92; refine (size_any _ _).mono ?_; rintro e w1 ⟨rfl, hb⟩; have hbc := (bcell hb).1; have hbf := (bcell hb).2; try simp only [World.size_alloc, World.size_setCell] at hbc hbf; try (have hlt : w.heap.size < w1.heap.size := by (have hsz := hb.size; simp only [World.size_alloc, World.size_setCell] at hsz; omega))) | (go_at_call 93; refine (within_any _ _).mono ?_; rintro e w1 ⟨rfl, hb⟩; have hbc := (bcell hb).1; have hbf := (bcell hb).2; try simp only [World.size_alloc, World.size_setCell] at hbc hbf; try (have hlt : w.heap.size < w1.heap.size := by (have hsz := hb.size; simp only [World.size_alloc, World.size_setCell] at hsz; omega))) | (go_at_call 94; refine (keeps_any _ _).mono ?_; rintro e w1 ⟨rfl, hb⟩; have hbc := (bcell hb).1; have hbf := (bcell hb).2; try simp only [World.size_alloc, World.size_setCell] at hbc hbf; try (have hlt : w.heap.size < w1.heap.size := by (have hsz := hb.size; simp only [World.size_alloc, World.size_setCell] at hsz; omega))))
  all_goals go_ret
  all_goals refine ⟨ret_bool ?_, (by repeat (first | exact Below.refl _ _ | assumption | (with_reducible refine below_alloc' ?_ _) | (with_reducible refine below_drew' ?_) | (with_reducible refine below_drewN' ?_ _) | (with_reducible refine below_setCell' ?_ (by first | omega | (simp; omega) | (simp; done)) _) | (refine below_then' ?_ (by assumption))))⟩
  all_goals rw [HR.out, HE.out]
  all_goals (first | rfl | (simp; done) | (simp; omega) | (rw [Bool.eq_iff_iff]; simp; omega) | (simp [*]; done) | (rw [Bool.eq_iff_iff]; simp [*]; done) | (rw [Bool.eq_iff_iff]; simp [*]; omega) | (simp [*]; omega))
theorem right_2 (op kind area at_ n : Int) (w : World) (hc : cls op = 2) :
    Calls Try.prog 58 #[.agg #[.int .i64 op, .int .i64 kind, .int .i64 area, .int .i64 at_, .int .i64 n]] w fun e w' => e = .returned (.bool (rightB ⟨op, kind, area, at_, n⟩)) ∧ Below w.heap.size w w' := by
  have he : rightB ⟨op, kind, area, at_, n⟩ = standsB kind area at_ n 2 := by simp [rightB, hc]
  have HE := hid he
  clear he
  obtain ⟨r, hr⟩ : ∃ r, r = rightB ⟨op, kind, area, at_, n⟩ := ⟨_, rfl⟩
  rw [← hr]
  have HR := hid hr
  clear hr
  have hf := opfield
  go_enter Try.func58, Try.ntmps58
  go_wp2_with (first | (go_at_call 90; refine (opof_any _ _).mono ?_; rintro e w1 ⟨rfl, hb⟩; have hbc := (bcell hb).1; have hbf := (bcell hb).2; try simp only [World.size_alloc, World.size_setCell] at hbc hbf; try (have hlt : w.heap.size < w1.heap.size := by (have hsz := hb.size; simp only [World.size_alloc, World.size_setCell] at hsz; omega))) | (go_at_call 86; refine (is_any _ _ _).mono ?_; rintro e w1 ⟨rfl, hb⟩; have hbc := (bcell hb).1; have hbf := (bcell hb).2; try simp only [World.size_alloc, World.size_setCell] at hbc hbf; try (have hlt : w.heap.size < w1.heap.size := by (have hsz := hb.size; simp only [World.size_alloc, World.size_setCell] at hsz; omega))) | (go_at_call 91; refine (stands_any _ _ _ _ _ _ _).mono ?_; rintro e w1 ⟨rfl, hb⟩; have hbc := (bcell hb).1; have hbf := (bcell hb).2; try simp only [World.size_alloc, World.size_setCell] at hbc hbf; try (have hlt : w.heap.size < w1.heap.size := by (have hsz := hb.size; simp only [World.size_alloc, World.size_setCell] at hsz; omega))) | (go_at_call 92; refine (size_any _ _).mono ?_; rintro e w1 ⟨rfl, hb⟩; have hbc := (bcell hb).1; have hbf := (bcell hb).2; try simp only [World.size_alloc, World.size_setCell] at hbc hbf; try (have hlt : w.heap.size < w1.heap.size := by (have hsz := hb.size; simp only [World.size_alloc, World.size_setCell] at hsz; omega))) | (go_at_call 93; refine (within_any _ _).mono ?_; rintro e w1 ⟨rfl, hb⟩; have hbc := (bcell hb).1; have hbf := (bcell hb).2; try simp only [World.size_alloc, World.size_setCell] at hbc hbf; try (have hlt : w.heap.size < w1.heap.size := by (have hsz := hb.size; simp only [World.size_alloc, World.size_setCell] at hsz; omega))) | (go_at_call 94; refine (keeps_any _ _).mono ?_; rintro e w1 ⟨rfl, hb⟩; have hbc := (bcell hb).1; have hbf := (bcell hb).2; try simp only [World.size_alloc, World.size_setCell] at hbc hbf; try (have hlt : w.heap.size < w1.heap.size := by (have hsz := hb.size; simp only [World.size_alloc, World.size_setCell] at hsz; omega))))
  all_goals go_ret
  all_goals refine ⟨ret_bool ?_, (by repeat (first | exact Below.refl _ _ | assumption | (with_reducible refine below_alloc' ?_ _) | (with_reducible refine below_drew' ?_) | (with_reducible refine below_drewN' ?_ _) | (with_reducible refine below_setCell' ?_ (by first | omega | (simp; omega) | (simp; done)) _) | (refine below_then' ?_ (by assumption))))⟩
  all_goals rw [HR.out, HE.out]
  all_goals (first | rfl | (simp; done) | (simp; omega) | (rw [Bool.eq_iff_iff]; simp; omega) | (simp [*]; done) | (rw [Bool.eq_iff_iff]; simp [*]; done) | (rw [Bool.eq_iff_iff]; simp [*]; omega) | (simp [*]; omega))
theorem right_3 (op kind area at_ n : Int) (w : World) (hc : cls op = 3) :
    Calls Try.prog 58 #[.agg #[.int .i64 op, .int .i64 kind, .int .i64 area, .int .i64 at_, .int .i64 n]] w fun e w' => e = .returned (.bool (rightB ⟨op, kind, area, at_, n⟩)) ∧ Below w.heap.size w w' := by
  have he : rightB ⟨op, kind, area, at_, n⟩ = decide (area = 0 ∧ n = 0 ∧ kind = 0 ∧ 0 ≤ at_ ∧ at_ ≤ 200) := by simp [rightB, hc]
  have HE := hid he
  clear he
  obtain ⟨r, hr⟩ : ∃ r, r = rightB ⟨op, kind, area, at_, n⟩ := ⟨_, rfl⟩
  rw [← hr]
  have HR := hid hr
  clear hr
  have hf := opfield
  go_enter Try.func58, Try.ntmps58
  go_wp2_with (first | (go_at_call 90; refine (opof_any _ _).mono ?_; rintro e w1 ⟨rfl, hb⟩; have hbc := (bcell hb).1; have hbf := (bcell hb).2; try simp only [World.size_alloc, World.size_setCell] at hbc hbf; try (have hlt : w.heap.size < w1.heap.size := by (have hsz := hb.size; simp only [World.size_alloc, World.size_setCell] at hsz; omega))) | (go_at_call 86; refine (is_any _ _ _).mono ?_; rintro e w1 ⟨rfl, hb⟩; have hbc := (bcell hb).1; have hbf := (bcell hb).2; try simp only [World.size_alloc, World.size_setCell] at hbc hbf; try (have hlt : w.heap.size < w1.heap.size := by (have hsz := hb.size; simp only [World.size_alloc, World.size_setCell] at hsz; omega))) | (go_at_call 91; refine (stands_any _ _ _ _ _ _ _).mono ?_; rintro e w1 ⟨rfl, hb⟩; have hbc := (bcell hb).1; have hbf := (bcell hb).2; try simp only [World.size_alloc, World.size_setCell] at hbc hbf; try (have hlt : w.heap.size < w1.heap.size := by (have hsz := hb.size; simp only [World.size_alloc, World.size_setCell] at hsz; omega))) | (go_at_call 92; refine (size_any _ _).mono ?_; rintro e w1 ⟨rfl, hb⟩; have hbc := (bcell hb).1; have hbf := (bcell hb).2; try simp only [World.size_alloc, World.size_setCell] at hbc hbf; try (have hlt : w.heap.size < w1.heap.size := by (have hsz := hb.size; simp only [World.size_alloc, World.size_setCell] at hsz; omega))) | (go_at_call 93; refine (within_any _ _).mono ?_; rintro e w1 ⟨rfl, hb⟩; have hbc := (bcell hb).1; have hbf := (bcell hb).2; try simp only [World.size_alloc, World.size_setCell] at hbc hbf; try (have hlt : w.heap.size < w1.heap.size := by (have hsz := hb.size; simp only [World.size_alloc, World.size_setCell] at hsz; omega))) | (go_at_call 94; refine (keeps_any _ _).mono ?_; rintro e w1 ⟨rfl, hb⟩; have hbc := (bcell hb).1; have hbf := (bcell hb).2; try simp only [World.size_alloc, World.size_setCell] at hbc hbf; try (have hlt : w.heap.size < w1.heap.size := by (have hsz := hb.size; simp only [World.size_alloc, World.size_setCell] at hsz; omega))))
  all_goals go_ret
  all_goals refine ⟨ret_bool ?_, (by repeat (first | exact Below.refl _ _ | assumption | (with_reducible refine below_alloc' ?_ _) | (with_reducible refine below_drew' ?_) | (with_reducible refine below_drewN' ?_ _) | (with_reducible refine below_setCell' ?_ (by first | omega | (simp; omega) | (simp; done)) _) | (refine below_then' ?_ (by assumption))))⟩
  all_goals rw [HR.out, HE.out]
  all_goals (first | rfl | (simp; done) | (simp; omega) | (rw [Bool.eq_iff_iff]; simp; omega) | (simp [*]; done) | (rw [Bool.eq_iff_iff]; simp [*]; done) | (rw [Bool.eq_iff_iff]; simp [*]; omega) | (simp [*]; omega))
theorem right_4 (op kind area at_ n : Int) (w : World) (hc : cls op = 4) :
    Calls Try.prog 58 #[.agg #[.int .i64 op, .int .i64 kind, .int .i64 area, .int .i64 at_, .int .i64 n]] w fun e w' => e = .returned (.bool (rightB ⟨op, kind, area, at_, n⟩)) ∧ Below w.heap.size w w' := by
  have he : rightB ⟨op, kind, area, at_, n⟩ = decide (area = 0 ∧ n = 0 ∧ kind = 0 ∧ at_ = 0) := by simp [rightB, hc]
  have HE := hid he
  clear he
  obtain ⟨r, hr⟩ : ∃ r, r = rightB ⟨op, kind, area, at_, n⟩ := ⟨_, rfl⟩
  rw [← hr]
  have HR := hid hr
  clear hr
  have hf := opfield
  go_enter Try.func58, Try.ntmps58
  go_wp2_with (first | (go_at_call 90; refine (opof_any _ _).mono ?_; rintro e w1 ⟨rfl, hb⟩; have hbc := (bcell hb).1; have hbf := (bcell hb).2; try simp only [World.size_alloc, World.size_setCell] at hbc hbf; try (have hlt : w.heap.size < w1.heap.size := by (have hsz := hb.size; simp only [World.size_alloc, World.size_setCell] at hsz; omega))) | (go_at_call 86; refine (is_any _ _ _).mono ?_; rintro e w1 ⟨rfl, hb⟩; have hbc := (bcell hb).1; have hbf := (bcell hb).2; try simp only [World.size_alloc, World.size_setCell] at hbc hbf; try (have hlt : w.heap.size < w1.heap.size := by (have hsz := hb.size; simp only [World.size_alloc, World.size_setCell] at hsz; omega))) | (go_at_call 91; refine (stands_any _ _ _ _ _ _ _).mono ?_; rintro e w1 ⟨rfl, hb⟩; have hbc := (bcell hb).1; have hbf := (bcell hb).2; try simp only [World.size_alloc, World.size_setCell] at hbc hbf; try (have hlt : w.heap.size < w1.heap.size := by (have hsz := hb.size; simp only [World.size_alloc, World.size_setCell] at hsz; omega))) | (go_at_call 92; refine (size_any _ _).mono ?_; rintro e w1 ⟨rfl, hb⟩; have hbc := (bcell hb).1; have hbf := (bcell hb).2; try simp only [World.size_alloc, World.size_setCell] at hbc hbf; try (have hlt : w.heap.size < w1.heap.size := by (have hsz := hb.size; simp only [World.size_alloc, World.size_setCell] at hsz; omega))) | (go_at_call 93; refine (within_any _ _).mono ?_; rintro e w1 ⟨rfl, hb⟩; have hbc := (bcell hb).1; have hbf := (bcell hb).2; try simp only [World.size_alloc, World.size_setCell] at hbc hbf; try (have hlt : w.heap.size < w1.heap.size := by (have hsz := hb.size; simp only [World.size_alloc, World.size_setCell] at hsz; omega))) | (go_at_call 94; refine (keeps_any _ _).mono ?_; rintro e w1 ⟨rfl, hb⟩; have hbc := (bcell hb).1; have hbf := (bcell hb).2; try simp only [World.size_alloc, World.size_setCell] at hbc hbf; try (have hlt : w.heap.size < w1.heap.size := by (have hsz := hb.size; simp only [World.size_alloc, World.size_setCell] at hsz; omega))))
  all_goals go_ret
  all_goals refine ⟨ret_bool ?_, (by repeat (first | exact Below.refl _ _ | assumption | (with_reducible refine below_alloc' ?_ _) | (with_reducible refine below_drew' ?_) | (with_reducible refine below_drewN' ?_ _) | (with_reducible refine below_setCell' ?_ (by first | omega | (simp; omega) | (simp; done)) _) | (refine below_then' ?_ (by assumption))))⟩
  all_goals rw [HR.out, HE.out]
  all_goals (first | rfl | (simp; done) | (simp; omega) | (rw [Bool.eq_iff_iff]; simp; omega) | (simp [*]; done) | (rw [Bool.eq_iff_iff]; simp [*]; done) | (rw [Bool.eq_iff_iff]; simp [*]; omega) | (simp [*]; omega))
theorem right_5 (op kind area at_ n : Int) (w : World) (hc : cls op = 5) :
    Calls Try.prog 58 #[.agg #[.int .i64 op, .int .i64 kind, .int .i64 area, .int .i64 at_, .int .i64 n]] w fun e w' => e = .returned (.bool (rightB ⟨op, kind, area, at_, n⟩)) ∧ Below w.heap.size w w' := by
  have he : rightB ⟨op, kind, area, at_, n⟩ = decide (area = 0 ∧ n = 0 ∧ at_ = 0 ∧ 0 < ksize kind) := by simp [rightB, hc]
  have HE := hid he
  clear he
  obtain ⟨r, hr⟩ : ∃ r, r = rightB ⟨op, kind, area, at_, n⟩ := ⟨_, rfl⟩
  rw [← hr]
  have HR := hid hr
  clear hr
  have hf := opfield
  go_enter Try.func58, Try.ntmps58
  go_wp2_with (first | (go_at_call 90; refine (opof_any _ _).mono ?_; rintro e w1 ⟨rfl, hb⟩; have hbc := (bcell hb).1; have hbf := (bcell hb).2; try simp only [World.size_alloc, World.size_setCell] at hbc hbf; try (have hlt : w.heap.size < w1.heap.size := by (have hsz := hb.size; simp only [World.size_alloc, World.size_setCell] at hsz; omega))) | (go_at_call 86; refine (is_any _ _ _).mono ?_; rintro e w1 ⟨rfl, hb⟩; have hbc := (bcell hb).1; have hbf := (bcell hb).2; try simp only [World.size_alloc, World.size_setCell] at hbc hbf; try (have hlt : w.heap.size < w1.heap.size := by (have hsz := hb.size; simp only [World.size_alloc, World.size_setCell] at hsz; omega))) | (go_at_call 91; refine (stands_any _ _ _ _ _ _ _).mono ?_; rintro e w1 ⟨rfl, hb⟩; have hbc := (bcell hb).1; have hbf := (bcell hb).2; try simp only [World.size_alloc, World.size_setCell] at hbc hbf; try (have hlt : w.heap.size < w1.heap.size := by (have hsz := hb.size; simp only [World.size_alloc, World.size_setCell] at hsz; omega))) | (go_at_call 92; refine (size_any _ _).mono ?_; rintro e w1 ⟨rfl, hb⟩; have hbc := (bcell hb).1; have hbf := (bcell hb).2; try simp only [World.size_alloc, World.size_setCell] at hbc hbf; try (have hlt : w.heap.size < w1.heap.size := by (have hsz := hb.size; simp only [World.size_alloc, World.size_setCell] at hsz; omega))) | (go_at_call 93; refine (within_any _ _).mono ?_; rintro e w1 ⟨rfl, hb⟩; have hbc := (bcell hb).1; have hbf := (bcell hb).2; try simp only [World.size_alloc, World.size_setCell] at hbc hbf; try (have hlt : w.heap.size < w1.heap.size := by (have hsz := hb.size; simp only [World.size_alloc, World.size_setCell] at hsz; omega))) | (go_at_call 94; refine (keeps_any _ _).mono ?_; rintro e w1 ⟨rfl, hb⟩; have hbc := (bcell hb).1; have hbf := (bcell hb).2; try simp only [World.size_alloc, World.size_setCell] at hbc hbf; try (have hlt : w.heap.size < w1.heap.size := by (have hsz := hb.size; simp only [World.size_alloc, World.size_setCell] at hsz; omega))))
  all_goals go_ret
  all_goals refine ⟨ret_bool ?_, (by repeat (first | exact Below.refl _ _ | assumption | (with_reducible refine below_alloc' ?_ _) | (with_reducible refine below_drew' ?_) | (with_reducible refine below_drewN' ?_ _) | (with_reducible refine below_setCell' ?_ (by first | omega | (simp; omega) | (simp; done)) _) | (refine below_then' ?_ (by assumption))))⟩
  all_goals rw [HR.out, HE.out]
  all_goals (first | rfl | (simp; done) | (simp; omega) | (rw [Bool.eq_iff_iff]; simp; omega) | (simp [*]; done) | (rw [Bool.eq_iff_iff]; simp [*]; done) | (rw [Bool.eq_iff_iff]; simp [*]; omega) | (simp [*]; omega))
theorem right_6 (op kind area at_ n : Int) (w : World) (hc : cls op = 6) :
    Calls Try.prog 58 #[.agg #[.int .i64 op, .int .i64 kind, .int .i64 area, .int .i64 at_, .int .i64 n]] w fun e w' => e = .returned (.bool (rightB ⟨op, kind, area, at_, n⟩)) ∧ Below w.heap.size w w' := by
  have he : rightB ⟨op, kind, area, at_, n⟩ = (decide (area = 0 ∧ n = 0 ∧ kind = 0) && withinB at_) := by simp [rightB, hc]
  have HE := hid he
  clear he
  obtain ⟨r, hr⟩ : ∃ r, r = rightB ⟨op, kind, area, at_, n⟩ := ⟨_, rfl⟩
  rw [← hr]
  have HR := hid hr
  clear hr
  have hf := opfield
  go_enter Try.func58, Try.ntmps58
  go_wp2_with (first | (go_at_call 90; refine (opof_any _ _).mono ?_; rintro e w1 ⟨rfl, hb⟩; have hbc := (bcell hb).1; have hbf := (bcell hb).2; try simp only [World.size_alloc, World.size_setCell] at hbc hbf; try (have hlt : w.heap.size < w1.heap.size := by (have hsz := hb.size; simp only [World.size_alloc, World.size_setCell] at hsz; omega))) | (go_at_call 86; refine (is_any _ _ _).mono ?_; rintro e w1 ⟨rfl, hb⟩; have hbc := (bcell hb).1; have hbf := (bcell hb).2; try simp only [World.size_alloc, World.size_setCell] at hbc hbf; try (have hlt : w.heap.size < w1.heap.size := by (have hsz := hb.size; simp only [World.size_alloc, World.size_setCell] at hsz; omega))) | (go_at_call 91; refine (stands_any _ _ _ _ _ _ _).mono ?_; rintro e w1 ⟨rfl, hb⟩; have hbc := (bcell hb).1; have hbf := (bcell hb).2; try simp only [World.size_alloc, World.size_setCell] at hbc hbf; try (have hlt : w.heap.size < w1.heap.size := by (have hsz := hb.size; simp only [World.size_alloc, World.size_setCell] at hsz; omega))) | (go_at_call 92; refine (size_any _ _).mono ?_; rintro e w1 ⟨rfl, hb⟩; have hbc := (bcell hb).1; have hbf := (bcell hb).2; try simp only [World.size_alloc, World.size_setCell] at hbc hbf; try (have hlt : w.heap.size < w1.heap.size := by (have hsz := hb.size; simp only [World.size_alloc, World.size_setCell] at hsz; omega))) | (go_at_call 93; refine (within_any _ _).mono ?_; rintro e w1 ⟨rfl, hb⟩; have hbc := (bcell hb).1; have hbf := (bcell hb).2; try simp only [World.size_alloc, World.size_setCell] at hbc hbf; try (have hlt : w.heap.size < w1.heap.size := by (have hsz := hb.size; simp only [World.size_alloc, World.size_setCell] at hsz; omega))) | (go_at_call 94; refine (keeps_any _ _).mono ?_; rintro e w1 ⟨rfl, hb⟩; have hbc := (bcell hb).1; have hbf := (bcell hb).2; try simp only [World.size_alloc, World.size_setCell] at hbc hbf; try (have hlt : w.heap.size < w1.heap.size := by (have hsz := hb.size; simp only [World.size_alloc, World.size_setCell] at hsz; omega))))
  all_goals go_ret
  all_goals refine ⟨ret_bool ?_, (by repeat (first | exact Below.refl _ _ | assumption | (with_reducible refine below_alloc' ?_ _) | (with_reducible refine below_drew' ?_) | (with_reducible refine below_drewN' ?_ _) | (with_reducible refine below_setCell' ?_ (by first | omega | (simp; omega) | (simp; done)) _) | (refine below_then' ?_ (by assumption))))⟩
  all_goals rw [HR.out, HE.out]
  all_goals (first | rfl | (simp; done) | (simp; omega) | (rw [Bool.eq_iff_iff]; simp; omega) | (simp [*]; done) | (rw [Bool.eq_iff_iff]; simp [*]; done) | (rw [Bool.eq_iff_iff]; simp [*]; omega) | (simp [*]; omega))
theorem right_7 (op kind area at_ n : Int) (w : World) (hc : cls op = 7) :
    Calls Try.prog 58 #[.agg #[.int .i64 op, .int .i64 kind, .int .i64 area, .int .i64 at_, .int .i64 n]] w fun e w' => e = .returned (.bool (rightB ⟨op, kind, area, at_, n⟩)) ∧ Below w.heap.size w w' := by
  have he : rightB ⟨op, kind, area, at_, n⟩ = (decide (kind = 0) && keepsB area && decide (0 ≤ at_ ∧ at_ ≤ 59 ∧ 1 ≤ n ∧ n ≤ 9999)) := by simp [rightB, hc]
  have HE := hid he
  clear he
  obtain ⟨r, hr⟩ : ∃ r, r = rightB ⟨op, kind, area, at_, n⟩ := ⟨_, rfl⟩
  rw [← hr]
  have HR := hid hr
  clear hr
  have hf := opfield
  go_enter Try.func58, Try.ntmps58
  go_wp2_with (first | (go_at_call 90; refine (opof_any _ _).mono ?_; rintro e w1 ⟨rfl, hb⟩; have hbc := (bcell hb).1; have hbf := (bcell hb).2; try simp only [World.size_alloc, World.size_setCell] at hbc hbf; try (have hlt : w.heap.size < w1.heap.size := by (have hsz := hb.size; simp only [World.size_alloc, World.size_setCell] at hsz; omega))) | (go_at_call 86; refine (is_any _ _ _).mono ?_; rintro e w1 ⟨rfl, hb⟩; have hbc := (bcell hb).1; have hbf := (bcell hb).2; try simp only [World.size_alloc, World.size_setCell] at hbc hbf; try (have hlt : w.heap.size < w1.heap.size := by (have hsz := hb.size; simp only [World.size_alloc, World.size_setCell] at hsz; omega))) | (go_at_call 91; refine (stands_any _ _ _ _ _ _ _).mono ?_; rintro e w1 ⟨rfl, hb⟩; have hbc := (bcell hb).1; have hbf := (bcell hb).2; try simp only [World.size_alloc, World.size_setCell] at hbc hbf; try (have hlt : w.heap.size < w1.heap.size := by (have hsz := hb.size; simp only [World.size_alloc, World.size_setCell] at hsz; omega))) | (go_at_call 92; refine (size_any _ _).mono ?_; rintro e w1 ⟨rfl, hb⟩; have hbc := (bcell hb).1; have hbf := (bcell hb).2; try simp only [World.size_alloc, World.size_setCell] at hbc hbf; try (have hlt : w.heap.size < w1.heap.size := by (have hsz := hb.size; simp only [World.size_alloc, World.size_setCell] at hsz; omega))) | (go_at_call 93; refine (within_any _ _).mono ?_; rintro e w1 ⟨rfl, hb⟩; have hbc := (bcell hb).1; have hbf := (bcell hb).2; try simp only [World.size_alloc, World.size_setCell] at hbc hbf; try (have hlt : w.heap.size < w1.heap.size := by (have hsz := hb.size; simp only [World.size_alloc, World.size_setCell] at hsz; omega))) | (go_at_call 94; refine (keeps_any _ _).mono ?_; rintro e w1 ⟨rfl, hb⟩; have hbc := (bcell hb).1; have hbf := (bcell hb).2; try simp only [World.size_alloc, World.size_setCell] at hbc hbf; try (have hlt : w.heap.size < w1.heap.size := by (have hsz := hb.size; simp only [World.size_alloc, World.size_setCell] at hsz; omega))))
  all_goals go_ret
  all_goals refine ⟨ret_bool ?_, (by repeat (first | exact Below.refl _ _ | assumption | (with_reducible refine below_alloc' ?_ _) | (with_reducible refine below_drew' ?_) | (with_reducible refine below_drewN' ?_ _) | (with_reducible refine below_setCell' ?_ (by first | omega | (simp; omega) | (simp; done)) _) | (refine below_then' ?_ (by assumption))))⟩
  all_goals rw [HR.out, HE.out]
  all_goals (first | rfl | (simp; done) | (simp; omega) | (rw [Bool.eq_iff_iff]; simp; omega) | (simp [*]; done) | (rw [Bool.eq_iff_iff]; simp [*]; done) | (rw [Bool.eq_iff_iff]; simp [*]; omega) | (simp [*]; omega))
theorem right_8 (op kind area at_ n : Int) (w : World) (hc : cls op = 8) :
    Calls Try.prog 58 #[.agg #[.int .i64 op, .int .i64 kind, .int .i64 area, .int .i64 at_, .int .i64 n]] w fun e w' => e = .returned (.bool (rightB ⟨op, kind, area, at_, n⟩)) ∧ Below w.heap.size w w' := by
  have he : rightB ⟨op, kind, area, at_, n⟩ = (decide (kind = 0) && keepsB area && decide (0 ≤ at_ ∧ at_ < 64 ∧ n = 0)) := by simp [rightB, hc]
  have HE := hid he
  clear he
  obtain ⟨r, hr⟩ : ∃ r, r = rightB ⟨op, kind, area, at_, n⟩ := ⟨_, rfl⟩
  rw [← hr]
  have HR := hid hr
  clear hr
  have hf := opfield
  go_enter Try.func58, Try.ntmps58
  go_wp2_with (first | (go_at_call 90; refine (opof_any _ _).mono ?_; rintro e w1 ⟨rfl, hb⟩; have hbc := (bcell hb).1; have hbf := (bcell hb).2; try simp only [World.size_alloc, World.size_setCell] at hbc hbf; try (have hlt : w.heap.size < w1.heap.size := by (have hsz := hb.size; simp only [World.size_alloc, World.size_setCell] at hsz; omega))) | (go_at_call 86; refine (is_any _ _ _).mono ?_; rintro e w1 ⟨rfl, hb⟩; have hbc := (bcell hb).1; have hbf := (bcell hb).2; try simp only [World.size_alloc, World.size_setCell] at hbc hbf; try (have hlt : w.heap.size < w1.heap.size := by (have hsz := hb.size; simp only [World.size_alloc, World.size_setCell] at hsz; omega))) | (go_at_call 91; refine (stands_any _ _ _ _ _ _ _).mono ?_; rintro e w1 ⟨rfl, hb⟩; have hbc := (bcell hb).1; have hbf := (bcell hb).2; try simp only [World.size_alloc, World.size_setCell] at hbc hbf; try (have hlt : w.heap.size < w1.heap.size := by (have hsz := hb.size; simp only [World.size_alloc, World.size_setCell] at hsz; omega))) | (go_at_call 92; refine (size_any _ _).mono ?_; rintro e w1 ⟨rfl, hb⟩; have hbc := (bcell hb).1; have hbf := (bcell hb).2; try simp only [World.size_alloc, World.size_setCell] at hbc hbf; try (have hlt : w.heap.size < w1.heap.size := by (have hsz := hb.size; simp only [World.size_alloc, World.size_setCell] at hsz; omega))) | (go_at_call 93; refine (within_any _ _).mono ?_; rintro e w1 ⟨rfl, hb⟩; have hbc := (bcell hb).1; have hbf := (bcell hb).2; try simp only [World.size_alloc, World.size_setCell] at hbc hbf; try (have hlt : w.heap.size < w1.heap.size := by (have hsz := hb.size; simp only [World.size_alloc, World.size_setCell] at hsz; omega))) | (go_at_call 94; refine (keeps_any _ _).mono ?_; rintro e w1 ⟨rfl, hb⟩; have hbc := (bcell hb).1; have hbf := (bcell hb).2; try simp only [World.size_alloc, World.size_setCell] at hbc hbf; try (have hlt : w.heap.size < w1.heap.size := by (have hsz := hb.size; simp only [World.size_alloc, World.size_setCell] at hsz; omega))))
  all_goals go_ret
  all_goals refine ⟨ret_bool ?_, (by repeat (first | exact Below.refl _ _ | assumption | (with_reducible refine below_alloc' ?_ _) | (with_reducible refine below_drew' ?_) | (with_reducible refine below_drewN' ?_ _) | (with_reducible refine below_setCell' ?_ (by first | omega | (simp; omega) | (simp; done)) _) | (refine below_then' ?_ (by assumption))))⟩
  all_goals rw [HR.out, HE.out]
  all_goals (first | rfl | (simp; done) | (simp; omega) | (rw [Bool.eq_iff_iff]; simp; omega) | (simp [*]; done) | (rw [Bool.eq_iff_iff]; simp [*]; done) | (rw [Bool.eq_iff_iff]; simp [*]; omega) | (simp [*]; omega))
theorem right_9 (op kind area at_ n : Int) (w : World) (hc : cls op < 1 ∨ 8 < cls op) :
    Calls Try.prog 58 #[.agg #[.int .i64 op, .int .i64 kind, .int .i64 area, .int .i64 at_, .int .i64 n]] w fun e w' => e = .returned (.bool (rightB ⟨op, kind, area, at_, n⟩)) ∧ Below w.heap.size w w' := by
  have he : rightB ⟨op, kind, area, at_, n⟩ = false := by
    unfold rightB
    repeat rw [if_neg (by simp only; omega)]
  have HE := hid he
  have b1 : (cls op == 1) = false := by rw [beq_eq_false_iff_ne]; omega
  have b2 : (cls op == 2) = false := by rw [beq_eq_false_iff_ne]; omega
  have b3 : (cls op == 3) = false := by rw [beq_eq_false_iff_ne]; omega
  have b4 : (cls op == 4) = false := by rw [beq_eq_false_iff_ne]; omega
  have b5 : (cls op == 5) = false := by rw [beq_eq_false_iff_ne]; omega
  have b6 : (cls op == 6) = false := by rw [beq_eq_false_iff_ne]; omega
  have b7 : (cls op == 7) = false := by rw [beq_eq_false_iff_ne]; omega
  have b8 : (cls op == 8) = false := by rw [beq_eq_false_iff_ne]; omega
  have HC := hid hc
  clear he hc
  obtain ⟨r, hr⟩ : ∃ r, r = rightB ⟨op, kind, area, at_, n⟩ := ⟨_, rfl⟩
  rw [← hr]
  have HR := hid hr
  clear hr
  have hf := opfield
  go_enter Try.func58, Try.ntmps58
  go_wp2_with (first | (go_at_call 90; refine (opof_any _ _).mono ?_; rintro e w1 ⟨rfl, hb⟩; have hbc := (bcell hb).1; have hbf := (bcell hb).2; try simp only [World.size_alloc, World.size_setCell] at hbc hbf; try (have hlt : w.heap.size < w1.heap.size := by (have hsz := hb.size; simp only [World.size_alloc, World.size_setCell] at hsz; omega))) | (go_at_call 86; refine (is_any _ _ _).mono ?_; rintro e w1 ⟨rfl, hb⟩; have hbc := (bcell hb).1; have hbf := (bcell hb).2; try simp only [World.size_alloc, World.size_setCell] at hbc hbf; try (have hlt : w.heap.size < w1.heap.size := by (have hsz := hb.size; simp only [World.size_alloc, World.size_setCell] at hsz; omega))) | (go_at_call 91; refine (stands_any _ _ _ _ _ _ _).mono ?_; rintro e w1 ⟨rfl, hb⟩; have hbc := (bcell hb).1; have hbf := (bcell hb).2; try simp only [World.size_alloc, World.size_setCell] at hbc hbf; try (have hlt : w.heap.size < w1.heap.size := by (have hsz := hb.size; simp only [World.size_alloc, World.size_setCell] at hsz; omega))) | (go_at_call 92; refine (size_any _ _).mono ?_; rintro e w1 ⟨rfl, hb⟩; have hbc := (bcell hb).1; have hbf := (bcell hb).2; try simp only [World.size_alloc, World.size_setCell] at hbc hbf; try (have hlt : w.heap.size < w1.heap.size := by (have hsz := hb.size; simp only [World.size_alloc, World.size_setCell] at hsz; omega))) | (go_at_call 93; refine (within_any _ _).mono ?_; rintro e w1 ⟨rfl, hb⟩; have hbc := (bcell hb).1; have hbf := (bcell hb).2; try simp only [World.size_alloc, World.size_setCell] at hbc hbf; try (have hlt : w.heap.size < w1.heap.size := by (have hsz := hb.size; simp only [World.size_alloc, World.size_setCell] at hsz; omega))) | (go_at_call 94; refine (keeps_any _ _).mono ?_; rintro e w1 ⟨rfl, hb⟩; have hbc := (bcell hb).1; have hbf := (bcell hb).2; try simp only [World.size_alloc, World.size_setCell] at hbc hbf; try (have hlt : w.heap.size < w1.heap.size := by (have hsz := hb.size; simp only [World.size_alloc, World.size_setCell] at hsz; omega))))
  all_goals go_ret
  all_goals refine ⟨ret_bool ?_, (by repeat (first | exact Below.refl _ _ | assumption | (with_reducible refine below_alloc' ?_ _) | (with_reducible refine below_drew' ?_) | (with_reducible refine below_drewN' ?_ _) | (with_reducible refine below_setCell' ?_ (by first | omega | (simp; omega) | (simp; done)) _) | (refine below_then' ?_ (by assumption))))⟩
  all_goals rw [HR.out, HE.out]
  all_goals (first | rfl | (simp; done) | (simp; omega) | (rw [Bool.eq_iff_iff]; simp; omega) | (simp [*]; done) | (rw [Bool.eq_iff_iff]; simp [*]; done) | (rw [Bool.eq_iff_iff]; simp [*]; omega) | (simp [*]; omega))
theorem right_any (op kind area at_ n : Int) (w : World) :
    Calls Try.prog 58 #[.agg #[.int .i64 op, .int .i64 kind, .int .i64 area, .int .i64 at_, .int .i64 n]] w fun e w' => e = .returned (.bool (rightB ⟨op, kind, area, at_, n⟩)) ∧ Below w.heap.size w w' := by
  by_cases h1 : cls op = 1
  · exact right_1 op kind area at_ n w h1
  by_cases h2 : cls op = 2
  · exact right_2 op kind area at_ n w h2
  by_cases h3 : cls op = 3
  · exact right_3 op kind area at_ n w h3
  by_cases h4 : cls op = 4
  · exact right_4 op kind area at_ n w h4
  by_cases h5 : cls op = 5
  · exact right_5 op kind area at_ n w h5
  by_cases h6 : cls op = 6
  · exact right_6 op kind area at_ n w h6
  by_cases h7 : cls op = 7
  · exact right_7 op kind area at_ n w h7
  by_cases h8 : cls op = 8
  · exact right_8 op kind area at_ n w h8
  exact right_9 op kind area at_ n w (by omega)
end Go.Proofs.Ytkhnalboodkddaa
