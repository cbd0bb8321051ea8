import Derived.Test.YtkhnalboodkddaaVer3
set_option linter.unusedSimpArgs false
set_option linter.unusedVariables false
set_option maxRecDepth 100000
namespace Go.Proofs.Ytkhnalboodkddaa
open Go.RowKit
/-- What is ahead of an instruction: the kind of the result, the open brackets. -/
structure Ah where
  kind : Int
  op : List Br
  deriving DecidableEq
/-- A call has answered what is ahead, and an error. -/
def AhRet (w : World) (r : Ah) (err : Int) (e : Ending) (w' : World) : Prop :=
  ∃ A' c', e = .returned (.tuple #[.agg #[.int .i64 r.kind, .slice A' r.op.length c'], .int .i64 err]) ∧ Below w.heap.size w w' ∧ BrAt w' A' r.op ∧ r.op.length ≤ c' ∧ c' ≤ 9223372036854775807
def pushE (op : Int) (a : Ah) : Int := if mayK op a.kind = false then 6 else if a.op.length = 8 then 8 else 0
def pushA (op : Int) (a : Ah) : Ah := if mayK op a.kind = false then a else if a.op.length = 8 then a else ⟨0, a.op ++ [(op, a.kind)]⟩
def lastBr (l : List Br) : Br := l.getD (l.length - 1) (0, 0)
def popE (a : Ah) : Int := if a.op = [] then 3 else if (lastBr a.op).2 ≠ a.kind then 6 else 0
def popA (a : Ah) : Ah := if a.op = [] then a else if (lastBr a.op).2 ≠ a.kind then a else ⟨madeI (lastBr a.op).1 (lastBr a.op).2, a.op.take (a.op.length - 1)⟩
theorem push_0 (kind op : Int) (A : Option Addr) (n c : Nat) (w : World) (hm : mayK op kind = false) :
    Calls Try.prog 99 #[.agg #[.int .i64 kind, .slice A n c], .int .i64 op] w fun e w' => e = .returned (.tuple #[.agg #[.int .i64 kind, .slice A n c], .int .i64 6]) ∧ Below w.heap.size w w' := by
  go_enter Try.func99, Try.ntmps99
  go_wp2_with (first | (go_at_call 85; refine (may_any _ _ _).mono ?_; rintro e w1 ⟨rfl, hb⟩; have hbc := (bcell hb).1; have hbf := (bcell hb).2; try simp only [World.size_alloc, World.size_setCell] at hbc hbf; try (have hlt : w.heap.size < w1.heap.size := by (have hsz := hb.size; simp only [World.size_alloc, World.size_setCell] at hsz; omega))))
  exact bodyPost_ret (v := .tuple #[.agg #[.int .i64 kind, .slice A n c], .int .i64 6]) (by simp [results, Try.results99, go_sem, hbc]) rfl ⟨rfl, (by repeat (first | exact Below.refl _ _ | assumption | (with_reducible refine below_alloc' ?_ _) | (with_reducible refine below_drew' ?_) | (with_reducible refine below_drewN' ?_ _) | (with_reducible refine below_setCell' ?_ (by first | omega | (simp; omega) | (simp; done)) _) | (refine below_then' ?_ (by assumption))))⟩
theorem push_1 (kind op : Int) (A : Option Addr) (c : Nat) (w : World) (hm : mayK op kind = true) :
    Calls Try.prog 99 #[.agg #[.int .i64 kind, .slice A 8 c], .int .i64 op] w fun e w' => e = .returned (.tuple #[.agg #[.int .i64 kind, .slice A 8 c], .int .i64 8]) ∧ Below w.heap.size w w' := by
  go_enter Try.func99, Try.ntmps99
  go_wp2_with (first | (go_at_call 85; refine (may_any _ _ _).mono ?_; rintro e w1 ⟨rfl, hb⟩; have hbc := (bcell hb).1; have hbf := (bcell hb).2; try simp only [World.size_alloc, World.size_setCell] at hbc hbf; try (have hlt : w.heap.size < w1.heap.size := by (have hsz := hb.size; simp only [World.size_alloc, World.size_setCell] at hsz; omega))))
  exact bodyPost_ret (v := .tuple #[.agg #[.int .i64 kind, .slice A 8 c], .int .i64 8]) (by simp [results, Try.results99, go_sem, hbc]) rfl ⟨rfl, (by repeat (first | exact Below.refl _ _ | assumption | (with_reducible refine below_alloc' ?_ _) | (with_reducible refine below_drew' ?_) | (with_reducible refine below_drewN' ?_ _) | (with_reducible refine below_setCell' ?_ (by first | omega | (simp; omega) | (simp; done)) _) | (refine below_then' ?_ (by assumption))))⟩
theorem push_any (kind op : Int) (A : Option Addr) (n c : Nat) (w : World) (l : List Br) (hn : n = l.length) (hc1 : l.length ≤ c) (hc2 : c ≤ 9223372036854775807) (hb : BrAt w A l) (hl : l.length ≤ 8) :
    Calls Try.prog 99 #[.agg #[.int .i64 kind, .slice A n c], .int .i64 op] w (AhRet w (pushA op ⟨kind, l⟩) (pushE op ⟨kind, l⟩)) := by
  subst hn
  cases hm : mayK op kind
  · refine (push_0 kind op A l.length c w hm).mono ?_
    rintro e w' ⟨rfl, hw⟩
    exact ⟨A, c, by simp [pushA, pushE, hm], hw, by simpa [pushA, hm] using hb.below hw, by simpa [pushA, hm] using hc1, hc2⟩
  · by_cases h8 : l.length = 8
    · rw [h8]
      refine (push_1 kind op A c w hm).mono ?_
      rintro e w' ⟨rfl, hw⟩
      exact ⟨A, c, by simp [pushA, pushE, hm, h8], hw, by simpa [pushA, hm, h8] using hb.below hw, by simpa [pushA, hm, h8] using hc1, hc2⟩
    · refine (push_2 kind op A c w l hc1 hc2 hb (by omega) hm).mono ?_
      rintro e w' ⟨A', c', rfl, hw, hbr, h1, h2⟩
      exact ⟨A', c', by simp [pushA, pushE, hm, h8], hw, by simpa [pushA, hm, h8] using hbr, by simpa [pushA, hm, h8] using h1, h2⟩
theorem pop_any (kind : Int) (A : Option Addr) (n c : Nat) (w : World) (l : List Br) (hn : n = l.length) (hc1 : l.length ≤ c) (hc2 : c ≤ 9223372036854775807) (hb : BrAt w A l) :
    Calls Try.prog 100 #[.agg #[.int .i64 kind, .slice A n c]] w (AhRet w (popA ⟨kind, l⟩) (popE ⟨kind, l⟩)) := by
  subst hn
  by_cases h0 : l = []
  · subst h0
    refine (pop_0 kind A c w).mono ?_
    rintro e w' ⟨rfl, hw⟩
    exact ⟨A, c, by simp [popA, popE], hw, by simpa [popA] using hb.below hw, by simp [popA], hc2⟩
  · obtain ⟨m, hm⟩ : ∃ m, l.length = m + 1 := ⟨l.length - 1, by have := List.length_pos_iff.2 h0; omega⟩
    have hlast : lastBr l = l.getD m (0, 0) := by rw [lastBr, hm]; rfl
    rw [hm]
    by_cases hk : (l.getD m (0, 0)).2 = kind
    · refine (pop_2 kind A c w l m hm (by omega) hc2 hb hk).mono ?_
      rintro e w' ⟨rfl, hw⟩
      have e1 : popA ⟨kind, l⟩ = ⟨madeI (lastBr l).1 (lastBr l).2, l.take m⟩ := by simp only [popA, if_neg h0]; rw [if_neg (fun h => h (by rw [hlast]; exact hk)), hm]; rfl
      have e2 : popE ⟨kind, l⟩ = 0 := by simp only [popE, if_neg h0]; rw [if_neg (fun h => h (by rw [hlast]; exact hk))]
      refine ⟨A, c, ?_, hw, ?_, ?_, hc2⟩
      · rw [e1, e2, hlast]; simp [hm]
      · rw [e1]; exact (hb.below hw).take m
      · rw [e1]; simp; omega
    · refine (pop_1 kind A c w l m hm (by omega) hc2 hb hk).mono ?_
      rintro e w' ⟨rfl, hw⟩
      have e1 : popA ⟨kind, l⟩ = ⟨kind, l⟩ := by simp only [popA, if_neg h0]; rw [if_pos (by simp only [ne_eq, hlast]; exact hk)]
      have e2 : popE ⟨kind, l⟩ = 6 := by simp only [popE, if_neg h0]; rw [if_pos (by simp only [ne_eq, hlast]; exact hk)]
      exact ⟨A, c, by rw [e1, e2, hm], hw, by rw [e1]; exact hb.below hw, by rw [e1]; exact hc1, hc2⟩
end Go.Proofs.Ytkhnalboodkddaa
