import Derived.Test.YtkhnalboodkddaaIl0
set_option linter.unusedSimpArgs false
set_option linter.unusedVariables false
set_option maxRecDepth 100000
namespace Go.Proofs.Ytkhnalboodkddaa
open Go.RowKit
theorem opof_any (op : Int) (w : World) :
    Calls Try.prog 90 #[.int .i64 op] w fun e w' => e = .returned (.agg #[.string (oname op), .int .i64 (cls op)]) ∧ Below w.heap.size w w' := by
  by_cases h : 0 ≤ op ∧ op ≤ 36
  · obtain ⟨h1, h2⟩ := h
    go_enter Try.func90, Try.ntmps90
    go_wp2_with fail
    refine (ops_b _).mono ?_
    rintro e w1 ⟨rfl, hb, hs, hc⟩
    obtain ⟨c0, c1⟩ := hc op h1 h2
    obtain ⟨hbc, hbf⟩ := bcell hb
    simp only [World.size_alloc] at hs c0 c1 hbc hbf
    have hsz : w.heap.size < w1.heap.size := by omega
    have HB := hid hb
    clear hc hb hs
    go_wp2
    exact bodyPost_ret (v := .agg #[.string (oname op), .int .i64 (cls op)]) (by simp [results, Try.results90, go_sem, hbc, hbf, hsz]) rfl ⟨rfl, ((((Below.refl _ _).alloc (Nat.le_refl _) _).trans (HB.out.mono (by simp))).setCell (by simp) _).setCell (by simp) _⟩
  · have e1 : oname op = ⟨#[]⟩ := by rw [oname, if_neg h]
    have e2 : cls op = 0 := by rw [cls, if_neg h]
    have E1 := hid e1
    have E2 := hid e2
    have H := hid h
    clear e1 e2 h
    by_cases h1 : op < 0
    · go_enter Try.func90, Try.ntmps90
      go_wp2_with fail
      refine (ops_b _).mono ?_
      rintro e w1 ⟨rfl, hb, hs, hc⟩
      obtain ⟨hbc, hbf⟩ := bcell hb
      simp only [World.size_alloc] at hs hbc hbf
      have hsz : w.heap.size < w1.heap.size := by omega
      have HB := hid hb
      clear hc hb hs
      go_wp2
      exact bodyPost_ret (v := .agg #[.string (oname op), .int .i64 (cls op)]) (by rw [E1.out, E2.out]; simp [results, Try.results90, go_sem, hbc, hbf, hsz]) rfl ⟨rfl, ((((Below.refl _ _).alloc (Nat.le_refl _) _).trans (HB.out.mono (by simp))).setCell (by simp) _).setCell (by simp) _⟩
    · have h2 : 37 ≤ op := by have := H.out; omega
      go_enter Try.func90, Try.ntmps90
      go_wp2_with fail
      refine (ops_b _).mono ?_
      rintro e w1 ⟨rfl, hb, hs, hc⟩
      obtain ⟨hbc, hbf⟩ := bcell hb
      simp only [World.size_alloc] at hs hbc hbf
      have hsz : w.heap.size < w1.heap.size := by omega
      have HB := hid hb
      clear hc hb hs
      go_wp2
      exact bodyPost_ret (v := .agg #[.string (oname op), .int .i64 (cls op)]) (by rw [E1.out, E2.out]; simp [results, Try.results90, go_sem, hbc, hbf, hsz]) rfl ⟨rfl, ((((Below.refl _ _).alloc (Nat.le_refl _) _).trans (HB.out.mono (by simp))).setCell (by simp) _).setCell (by simp) _⟩
theorem opfield (s : ByteArray) (c : Int) (w : World) : (Instr.field 147 (.agg #[.string s, .int .i64 c]) 1).run Try.prog w = .ok (.int .i64 c) w := by kernel_rfl
def withinB (op : Int) : Bool := decide (cls op = 1 ∧ 7 ≤ op)
theorem within_any (op : Int) (w : World) :
    Calls Try.prog 93 #[.int .i64 op] w fun e w' => e = .returned (.bool (withinB op)) ∧ Below w.heap.size w w' := by
  have hf := opfield
  go_enter Try.func93, Try.ntmps93
  go_wp2_with (first | (go_at_call 90; refine (opof_any _ _).mono ?_; rintro e w1 ⟨rfl, hb⟩; have hbc := (bcell hb).1; have hbf := (bcell hb).2; try simp only [World.size_alloc, World.size_setCell] at hbc hbf; try (have hlt : w.heap.size < w1.heap.size := by (have hsz := hb.size; simp only [World.size_alloc, World.size_setCell] at hsz; omega))))
  all_goals go_ret
  all_goals exact ⟨ret_bool (by unfold withinB; first | (simp; omega) | (rw [Bool.eq_iff_iff]; simp; omega)), (by repeat (first | exact Below.refl _ _ | assumption | (with_reducible refine below_alloc' ?_ _) | (with_reducible refine below_drew' ?_) | (with_reducible refine below_drewN' ?_ _) | (with_reducible refine below_setCell' ?_ (by first | omega | (simp; omega) | (simp; done)) _) | (refine below_then' ?_ (by assumption))))⟩
def keepsB (a : Int) : Bool := decide (a = 3 ∨ a = 4)
theorem keeps_any (a : Int) (w : World) :
    Calls Try.prog 94 #[.int .i64 a] w fun e w' => e = .returned (.bool (keepsB a)) ∧ Below w.heap.size w w' := by
  go_enter Try.func94, Try.ntmps94
  go_wp2
  all_goals go_ret
  all_goals exact ⟨ret_bool (by unfold keepsB; first | (simp; omega) | (rw [Bool.eq_iff_iff]; simp; omega)), (by repeat (first | exact Below.refl _ _ | assumption | (with_reducible refine below_alloc' ?_ _) | (with_reducible refine below_drew' ?_) | (with_reducible refine below_drewN' ?_ _) | (with_reducible refine below_setCell' ?_ (by first | omega | (simp; omega) | (simp; done)) _) | (refine below_then' ?_ (by assumption))))⟩
def standsB (kind area at_ n least : Int) : Bool := decide (0 < ksize kind ∧ least ≤ area ∧ area ≤ 4 ∧ 0 ≤ at_ ∧ at_ ≤ 64 - ksize kind ∧ n = 0)
theorem stands_any (op kind area at_ n least : Int) (w : World) :
    Calls Try.prog 91 #[.agg #[.int .i64 op, .int .i64 kind, .int .i64 area, .int .i64 at_, .int .i64 n], .int .i64 least] w fun e w' => e = .returned (.bool (standsB kind area at_ n least)) ∧ Below w.heap.size w w' := by
  obtain ⟨s0, s1⟩ := ksize_range kind
  go_enter Try.func91, Try.ntmps91
  go_wp2_with (first | (go_at_call 92; refine (size_any _ _).mono ?_; rintro e w1 ⟨rfl, hb⟩; have hbc := (bcell hb).1; have hbf := (bcell hb).2; try simp only [World.size_alloc, World.size_setCell] at hbc hbf; try (have hlt : w.heap.size < w1.heap.size := by (have hsz := hb.size; simp only [World.size_alloc, World.size_setCell] at hsz; omega))))
  all_goals go_ret
  all_goals exact ⟨ret_bool (by unfold standsB; first | (simp; omega) | (rw [Bool.eq_iff_iff]; simp; omega)), (by repeat (first | exact Below.refl _ _ | assumption | (with_reducible refine below_alloc' ?_ _) | (with_reducible refine below_drew' ?_) | (with_reducible refine below_drewN' ?_ _) | (with_reducible refine below_setCell' ?_ (by first | omega | (simp; omega) | (simp; done)) _) | (refine below_then' ?_ (by assumption))))⟩
end Go.Proofs.Ytkhnalboodkddaa
