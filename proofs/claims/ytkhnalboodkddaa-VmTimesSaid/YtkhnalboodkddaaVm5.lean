import Derived.Test.YtkhnalboodkddaaVm4
set_option linter.unusedSimpArgs false
set_option linter.unusedVariables false
set_option maxRecDepth 100000
namespace Go.Proofs.Ytkhnalboodkddaa
open Go.RowKit
def Ins.val (i : Ins) : Value := .agg #[.int .i64 i.op, .int .i64 i.kind, .int .i64 i.area, .int .i64 i.at_, .int .i64 i.n]
def operandS (s : Rs) (i : Ins) : Int := if i.area = 0 then i.n else getS s i.area i.at_ i.kind
theorem operand_any (B r : Nat) (b c : Nat → Nat) (s : Rs) (V : Value) (i : Ins) (w : World) (h : RAt w B r b c s V) (h1 : 0 ≤ i.area) (h4 : i.area ≤ 4) :
    Calls Try.prog 70 #[.pointer (some ⟨r, 0, none⟩), i.val] w fun e w' => e = .returned (.int .i64 (operandS s i)) ∧ Below w.heap.size w w' := by
  obtain ⟨op, kd, ar, at_, nn⟩ := i
  simp only at h1 h4
  simp only [Ins.val, operandS]
  have K := hid fun W (hb : Below w.heap.size w W) (p : 1 ≤ ar) => rget_any B r b c s V ar at_ kd W (h.below hb) p h4
  by_cases h0 : ar = 0
  · subst h0
    rw [if_pos rfl]
    clear h
    go_enter Try.func70, Try.ntmps70
    go_wp2
    go_ret
    exact ⟨rfl, (by repeat (first | exact Below.refl _ _ | assumption | (with_reducible refine below_alloc' ?_ _) | (with_reducible refine below_drew' ?_) | (with_reducible refine below_drewN' ?_ _) | (with_reducible refine below_setCell' ?_ (by first | omega | (simp; omega) | (simp; done)) _) | (refine below_then' ?_ (by assumption))))⟩
  · rw [if_neg h0]
    have h0' : (ar == 0) = false := by simp [h0]
    generalize getS s ar at_ kd = v at *
    clear h
    go_enter Try.func70, Try.ntmps70
    go_wp2_with (first | (go_at_call 108; refine (K.out _ (by repeat (first | exact Below.refl _ _ | assumption | (with_reducible refine below_alloc' ?_ _) | (with_reducible refine below_drew' ?_) | (with_reducible refine below_drewN' ?_ _) | (with_reducible refine below_setCell' ?_ (by first | omega | (simp; omega) | (simp; done)) _) | (refine below_then' ?_ (by assumption)))) (by omega)).mono ?_; rintro e w1 ⟨rfl, hb⟩))
    go_ret
    exact ⟨rfl, (by repeat (first | exact Below.refl _ _ | assumption | (with_reducible refine below_alloc' ?_ _) | (with_reducible refine below_drew' ?_) | (with_reducible refine below_drewN' ?_ _) | (with_reducible refine below_setCell' ?_ (by first | omega | (simp; omega) | (simp; done)) _) | (refine below_then' ?_ (by assumption))))⟩
def isB (s : Rs) : Bool := decide (s.n = 1)
def leavesB (s : Rs) (op : Int) : Bool := if op = 25 ∨ op = 28 then true else if op = 26 ∨ op = 29 then isB s else !isB s
theorem leaves_any (B r : Nat) (b c : Nat → Nat) (s : Rs) (V : Value) (op : Int) (w : World) (h : RAt w B r b c s V) :
    Calls Try.prog 40 #[.pointer (some ⟨r, 0, none⟩), .int .i64 op] w fun e w' => e = .returned (.bool (leavesB s op)) ∧ Below w.heap.size w w' := by
  have c5 : w.cell? ⟨r, 5, none⟩ = some (.int .i64 s.kind) := h.cell 5
  have c6 : w.cell? ⟨r, 6, none⟩ = some (.int .i64 s.n) := h.cell 6
  unfold leavesB isB
  have K := hid fun W => value_is s.kind s.n W
  generalize s.kind = k at *
  generalize s.n = n at *
  clear h
  go_enter Try.func40, Try.ntmps40
  go_wp2_with (first | (go_at_call 69; refine (K.out _).mono ?_; rintro e w1 ⟨rfl, hb⟩))
  all_goals (go_ret; refine ⟨ret_bool ?_, (by repeat (first | exact Below.refl _ _ | assumption | (with_reducible refine below_alloc' ?_ _) | (with_reducible refine below_drew' ?_) | (with_reducible refine below_drewN' ?_ _) | (with_reducible refine below_setCell' ?_ (by first | omega | (simp; omega) | (simp; done)) _) | (refine below_then' ?_ (by assumption))))⟩)
  all_goals (simp_all)
def doS (s : Rs) (op k a b : Int) : Rs := { s with zero := if b = 0 ∧ (op = 17 ∨ op = 18) then s.zero + 1 else s.zero, kind := if 19 ≤ op then 1 else k, n := doV op k a b }
theorem RAt.set {w w' : World} {B r : Nat} {b c : Nat → Nat} {s s' : Rs} {V : Value} (h : RAt w B r b c s V) (ho : Only [r] w w') (hb : w'.heap[r]? = some (.cells (runCells b c s' V) 75 (0, 0))) (h1 : s'.ar = s.ar) (h2 : s'.op = s.op) : RAt w' B r b c s' V where
  blk := hb
  own := by
    refine ⟨by rw [h2]; exact h.own.1, ?_⟩
    rw [h2]
    rcases h.own.2 with h' | ⟨g, cap, cur, e, e2, e3, e4⟩
    · exact Or.inl h'
    · refine Or.inr ⟨g, cap, cur, e, e2, ?_, e4⟩
      rw [ho.block g (heap_lt e3) (by simp; exact (h.sep g (by rw [e]; rfl)).1)]
      exact e3
  sep := h.sep
  area := fun i i1 i4 => by rw [h1]; exact (h.area i i1 i4).only ho (by simp; exact h.ne i i1 i4)
  len := fun i i1 i4 => by rw [h1]; exact h.len i i1 i4
  ne := h.ne
  inj := h.inj
  base := h.base
theorem rdo_1a (B r : Nat) (b c : Nat → Nat) (s : Rs) (V : Value) (op k a x : Int) (w : World) (h : RAt w B r b c s V) (h0 : 0 ≤ s.zero) (hz : s.zero ≤ 1048576) (hx : x ≠ 0) (hg : op < 19) :
    Calls Try.prog 73 #[.pointer (some ⟨r, 0, none⟩), .int .i64 op, .agg #[.int .i64 k, .int .i64 a], .int .i64 x] w fun e w' => e = .returned (.tuple #[]) ∧ Only [r] w w' ∧ RAt w' B r b c (doS s op k a x) V := by
  have hrl := h.lt
  have hrl2 : r < w.heap.size + 1 := by omega
  have H := hid h
  have c9 : w.cell? ⟨r, 9, none⟩ = some (.int .i64 s.zero) := h.cell 9
  have c5 : w.cell? ⟨r, 5, none⟩ = some (.int .i64 s.kind) := h.cell 5
  have c6 : w.cell? ⟨r, 6, none⟩ = some (.int .i64 s.n) := h.cell 6
  have f9 := h.free 9
  have f5 := h.free 5
  have f6 := h.free 6
  have D := hid fun W => do_any op k a x W
  have hb0 := h.blk
  have HB0 := hid hb0
  clear h hb0
  have hx0 : (x == 0) = false := by simp [hx]
  obtain ⟨v, hv⟩ : ∃ v, v = doV op k a x := ⟨_, rfl⟩
  rw [← hv] at D
  have HW := hid hv
  clear hv
  go_enter Try.func73, Try.ntmps73
  go_wp2_with (first | (go_at_call 88; refine (D.out _).mono ?_; rintro e w1 ⟨rfl, hb⟩; have d5 : w1.cell? ⟨r, 5, none⟩ = some (.int .i64 s.kind) := (hb.cell (by simp; omega)).trans (by simp [go_sem, *]); have d6 : w1.cell? ⟨r, 6, none⟩ = some (.int .i64 s.n) := (hb.cell (by simp; omega)).trans (by simp [go_sem, *]); have g5 : w1.frozen? ⟨r, 5, none⟩ = false := (hb.frozen (by simp; omega)).trans (by simp [go_sem, *]); have g6 : w1.frozen? ⟨r, 6, none⟩ = false := (hb.frozen (by simp; omega)).trans (by simp [go_sem, *]); have e0 : w1.cell? ⟨w.heap.size, 0, none⟩ = some (.int .i64 k) := (hb.cell (by simp)).trans (by simp [go_sem]); have e1 : w1.cell? ⟨w.heap.size, 1, none⟩ = some (.int .i64 a) := (hb.cell (by simp)).trans (by simp [go_sem]); have hlt : w.heap.size < w1.heap.size := (by (have hsz := hb.size; simp only [World.size_alloc, World.size_setCell] at hsz; omega)); have hlt2 : r < w1.heap.size := (by omega); have hb := hid hb; clear c9 c5 c6 f9 f5 f6))
  have hb := hb.out
  have hX : Only [r] w w1 := (Only.of_below (bs := [r]) ((by repeat (first | exact Below.refl _ _ | assumption | (with_reducible refine below_alloc' ?_ _) | (with_reducible refine below_drew' ?_) | (with_reducible refine below_drewN' ?_ _) | (with_reducible refine below_setCell' ?_ (by first | omega | (simp; omega) | (simp; done)) _) | (refine below_then' ?_ (by assumption)))) : Below w.heap.size w w1))
  have hY : w1.heap[r]? = some (.cells (runCells b c { s with zero := s.zero } V) 75 (0, 0)) := by
    rw [hb.block r (by simp; omega)]
    exact (heap_alloc_old w _ hrl).trans HB0.out
  refine bodyPost_end (v := .tuple #[]) (by simp [results, Try.results73, go_sem]) rfl ⟨rfl, ?_, H.out.set (s' := doS s op k a x) ?_ ?_ rfl rfl⟩
  · exact (hX.setCell (by simp) _).setCell (by simp) _
  · exact (hX.setCell (by simp) _).setCell (by simp) _
  · have e : doS s op k a x = { s with zero := s.zero, kind := k, n := v } := by
      unfold doS
      rw [← HW.out, if_neg (show ¬ ((x : Int) = 0 ∧ (op = 17 ∨ op = 18)) by omega), if_neg (show ¬ (19 : Int) ≤ op by omega)]
    rw [e]
    exact heap_setCell_same (heap_setCell_same hY 5 _) 6 _
theorem rdo_1b (B r : Nat) (b c : Nat → Nat) (s : Rs) (V : Value) (op k a x : Int) (w : World) (h : RAt w B r b c s V) (h0 : 0 ≤ s.zero) (hz : s.zero ≤ 1048576) (hx : x ≠ 0) (hg : 19 ≤ op) :
    Calls Try.prog 73 #[.pointer (some ⟨r, 0, none⟩), .int .i64 op, .agg #[.int .i64 k, .int .i64 a], .int .i64 x] w fun e w' => e = .returned (.tuple #[]) ∧ Only [r] w w' ∧ RAt w' B r b c (doS s op k a x) V := by
  have hrl := h.lt
  have hrl2 : r < w.heap.size + 1 := by omega
  have H := hid h
  have c9 : w.cell? ⟨r, 9, none⟩ = some (.int .i64 s.zero) := h.cell 9
  have c5 : w.cell? ⟨r, 5, none⟩ = some (.int .i64 s.kind) := h.cell 5
  have c6 : w.cell? ⟨r, 6, none⟩ = some (.int .i64 s.n) := h.cell 6
  have f9 := h.free 9
  have f5 := h.free 5
  have f6 := h.free 6
  have D := hid fun W => do_any op k a x W
  have hb0 := h.blk
  have HB0 := hid hb0
  clear h hb0
  have hx0 : (x == 0) = false := by simp [hx]
  obtain ⟨v, hv⟩ : ∃ v, v = doV op k a x := ⟨_, rfl⟩
  rw [← hv] at D
  have HW := hid hv
  clear hv
  go_enter Try.func73, Try.ntmps73
  go_wp2_with (first | (go_at_call 88; refine (D.out _).mono ?_; rintro e w1 ⟨rfl, hb⟩; have d5 : w1.cell? ⟨r, 5, none⟩ = some (.int .i64 s.kind) := (hb.cell (by simp; omega)).trans (by simp [go_sem, *]); have d6 : w1.cell? ⟨r, 6, none⟩ = some (.int .i64 s.n) := (hb.cell (by simp; omega)).trans (by simp [go_sem, *]); have g5 : w1.frozen? ⟨r, 5, none⟩ = false := (hb.frozen (by simp; omega)).trans (by simp [go_sem, *]); have g6 : w1.frozen? ⟨r, 6, none⟩ = false := (hb.frozen (by simp; omega)).trans (by simp [go_sem, *]); have e0 : w1.cell? ⟨w.heap.size, 0, none⟩ = some (.int .i64 k) := (hb.cell (by simp)).trans (by simp [go_sem]); have e1 : w1.cell? ⟨w.heap.size, 1, none⟩ = some (.int .i64 a) := (hb.cell (by simp)).trans (by simp [go_sem]); have hlt : w.heap.size < w1.heap.size := (by (have hsz := hb.size; simp only [World.size_alloc, World.size_setCell] at hsz; omega)); have hlt2 : r < w1.heap.size := (by omega); have hb := hid hb; clear c9 c5 c6 f9 f5 f6))
  have hb := hb.out
  have hX : Only [r] w w1 := (Only.of_below (bs := [r]) ((by repeat (first | exact Below.refl _ _ | assumption | (with_reducible refine below_alloc' ?_ _) | (with_reducible refine below_drew' ?_) | (with_reducible refine below_drewN' ?_ _) | (with_reducible refine below_setCell' ?_ (by first | omega | (simp; omega) | (simp; done)) _) | (refine below_then' ?_ (by assumption)))) : Below w.heap.size w w1))
  have hY : w1.heap[r]? = some (.cells (runCells b c { s with zero := s.zero } V) 75 (0, 0)) := by
    rw [hb.block r (by simp; omega)]
    exact (heap_alloc_old w _ hrl).trans HB0.out
  refine bodyPost_end (v := .tuple #[]) (by simp [results, Try.results73, go_sem]) rfl ⟨rfl, ?_, H.out.set (s' := doS s op k a x) ?_ ?_ rfl rfl⟩
  · exact ((hX.setCell (by simp) _).setCell (by simp) _).setCell (by simp) _
  · exact ((hX.setCell (by simp) _).setCell (by simp) _).setCell (by simp) _
  · have e : doS s op k a x = { s with zero := s.zero, kind := 1, n := v } := by
      unfold doS
      rw [← HW.out, if_neg (show ¬ ((x : Int) = 0 ∧ (op = 17 ∨ op = 18)) by omega), if_pos (show (19 : Int) ≤ op by omega)]
    rw [e]
    exact heap_setCell_same (heap_setCell_same (heap_setCell_same hY 5 _) 6 _) 5 _
theorem rdo_2a (B r : Nat) (b c : Nat → Nat) (s : Rs) (V : Value) (op k a x : Int) (w : World) (h : RAt w B r b c s V) (h0 : 0 ≤ s.zero) (hz : s.zero ≤ 1048576) (hx : x = 0) (h7 : op ≠ 17) (h8 : op ≠ 18) (hg : op < 19) :
    Calls Try.prog 73 #[.pointer (some ⟨r, 0, none⟩), .int .i64 op, .agg #[.int .i64 k, .int .i64 a], .int .i64 x] w fun e w' => e = .returned (.tuple #[]) ∧ Only [r] w w' ∧ RAt w' B r b c (doS s op k a x) V := by
  subst hx
  have hrl := h.lt
  have hrl2 : r < w.heap.size + 1 := by omega
  have H := hid h
  have c9 : w.cell? ⟨r, 9, none⟩ = some (.int .i64 s.zero) := h.cell 9
  have c5 : w.cell? ⟨r, 5, none⟩ = some (.int .i64 s.kind) := h.cell 5
  have c6 : w.cell? ⟨r, 6, none⟩ = some (.int .i64 s.n) := h.cell 6
  have f9 := h.free 9
  have f5 := h.free 5
  have f6 := h.free 6
  have D := hid fun W => do_any op k a 0 W
  have hb0 := h.blk
  have HB0 := hid hb0
  clear h hb0
  have h17 : (op == 17) = false := by simp; omega
  have h18 : (op == 18) = false := by simp; omega
  obtain ⟨v, hv⟩ : ∃ v, v = doV op k a 0 := ⟨_, rfl⟩
  rw [← hv] at D
  have HW := hid hv
  clear hv
  go_enter Try.func73, Try.ntmps73
  go_wp2_with (first | (go_at_call 88; refine (D.out _).mono ?_; rintro e w1 ⟨rfl, hb⟩; have d5 : w1.cell? ⟨r, 5, none⟩ = some (.int .i64 s.kind) := (hb.cell (by simp; omega)).trans (by simp [go_sem, *]); have d6 : w1.cell? ⟨r, 6, none⟩ = some (.int .i64 s.n) := (hb.cell (by simp; omega)).trans (by simp [go_sem, *]); have g5 : w1.frozen? ⟨r, 5, none⟩ = false := (hb.frozen (by simp; omega)).trans (by simp [go_sem, *]); have g6 : w1.frozen? ⟨r, 6, none⟩ = false := (hb.frozen (by simp; omega)).trans (by simp [go_sem, *]); have e0 : w1.cell? ⟨w.heap.size, 0, none⟩ = some (.int .i64 k) := (hb.cell (by simp)).trans (by simp [go_sem]); have e1 : w1.cell? ⟨w.heap.size, 1, none⟩ = some (.int .i64 a) := (hb.cell (by simp)).trans (by simp [go_sem]); have hlt : w.heap.size < w1.heap.size := (by (have hsz := hb.size; simp only [World.size_alloc, World.size_setCell] at hsz; omega)); have hlt2 : r < w1.heap.size := (by omega); have hb := hid hb; clear c9 c5 c6 f9 f5 f6))
  have hb := hb.out
  have hX : Only [r] w w1 := (Only.of_below (bs := [r]) ((by repeat (first | exact Below.refl _ _ | assumption | (with_reducible refine below_alloc' ?_ _) | (with_reducible refine below_drew' ?_) | (with_reducible refine below_drewN' ?_ _) | (with_reducible refine below_setCell' ?_ (by first | omega | (simp; omega) | (simp; done)) _) | (refine below_then' ?_ (by assumption)))) : Below w.heap.size w w1))
  have hY : w1.heap[r]? = some (.cells (runCells b c { s with zero := s.zero } V) 75 (0, 0)) := by
    rw [hb.block r (by simp; omega)]
    exact (heap_alloc_old w _ hrl).trans HB0.out
  refine bodyPost_end (v := .tuple #[]) (by simp [results, Try.results73, go_sem]) rfl ⟨rfl, ?_, H.out.set (s' := doS s op k a 0) ?_ ?_ rfl rfl⟩
  · exact (hX.setCell (by simp) _).setCell (by simp) _
  · exact (hX.setCell (by simp) _).setCell (by simp) _
  · have e : doS s op k a 0 = { s with zero := s.zero, kind := k, n := v } := by
      unfold doS
      rw [← HW.out, if_neg (show ¬ ((0 : Int) = 0 ∧ (op = 17 ∨ op = 18)) by omega), if_neg (show ¬ (19 : Int) ≤ op by omega)]
    rw [e]
    exact heap_setCell_same (heap_setCell_same hY 5 _) 6 _
theorem rdo_2b (B r : Nat) (b c : Nat → Nat) (s : Rs) (V : Value) (op k a x : Int) (w : World) (h : RAt w B r b c s V) (h0 : 0 ≤ s.zero) (hz : s.zero ≤ 1048576) (hx : x = 0) (hg : 19 ≤ op) :
    Calls Try.prog 73 #[.pointer (some ⟨r, 0, none⟩), .int .i64 op, .agg #[.int .i64 k, .int .i64 a], .int .i64 x] w fun e w' => e = .returned (.tuple #[]) ∧ Only [r] w w' ∧ RAt w' B r b c (doS s op k a x) V := by
  subst hx
  have hrl := h.lt
  have hrl2 : r < w.heap.size + 1 := by omega
  have H := hid h
  have c9 : w.cell? ⟨r, 9, none⟩ = some (.int .i64 s.zero) := h.cell 9
  have c5 : w.cell? ⟨r, 5, none⟩ = some (.int .i64 s.kind) := h.cell 5
  have c6 : w.cell? ⟨r, 6, none⟩ = some (.int .i64 s.n) := h.cell 6
  have f9 := h.free 9
  have f5 := h.free 5
  have f6 := h.free 6
  have D := hid fun W => do_any op k a 0 W
  have hb0 := h.blk
  have HB0 := hid hb0
  clear h hb0
  have h17 : (op == 17) = false := by simp; omega
  have h18 : (op == 18) = false := by simp; omega
  obtain ⟨v, hv⟩ : ∃ v, v = doV op k a 0 := ⟨_, rfl⟩
  rw [← hv] at D
  have HW := hid hv
  clear hv
  go_enter Try.func73, Try.ntmps73
  go_wp2_with (first | (go_at_call 88; refine (D.out _).mono ?_; rintro e w1 ⟨rfl, hb⟩; have d5 : w1.cell? ⟨r, 5, none⟩ = some (.int .i64 s.kind) := (hb.cell (by simp; omega)).trans (by simp [go_sem, *]); have d6 : w1.cell? ⟨r, 6, none⟩ = some (.int .i64 s.n) := (hb.cell (by simp; omega)).trans (by simp [go_sem, *]); have g5 : w1.frozen? ⟨r, 5, none⟩ = false := (hb.frozen (by simp; omega)).trans (by simp [go_sem, *]); have g6 : w1.frozen? ⟨r, 6, none⟩ = false := (hb.frozen (by simp; omega)).trans (by simp [go_sem, *]); have e0 : w1.cell? ⟨w.heap.size, 0, none⟩ = some (.int .i64 k) := (hb.cell (by simp)).trans (by simp [go_sem]); have e1 : w1.cell? ⟨w.heap.size, 1, none⟩ = some (.int .i64 a) := (hb.cell (by simp)).trans (by simp [go_sem]); have hlt : w.heap.size < w1.heap.size := (by (have hsz := hb.size; simp only [World.size_alloc, World.size_setCell] at hsz; omega)); have hlt2 : r < w1.heap.size := (by omega); have hb := hid hb; clear c9 c5 c6 f9 f5 f6))
  have hb := hb.out
  have hX : Only [r] w w1 := (Only.of_below (bs := [r]) ((by repeat (first | exact Below.refl _ _ | assumption | (with_reducible refine below_alloc' ?_ _) | (with_reducible refine below_drew' ?_) | (with_reducible refine below_drewN' ?_ _) | (with_reducible refine below_setCell' ?_ (by first | omega | (simp; omega) | (simp; done)) _) | (refine below_then' ?_ (by assumption)))) : Below w.heap.size w w1))
  have hY : w1.heap[r]? = some (.cells (runCells b c { s with zero := s.zero } V) 75 (0, 0)) := by
    rw [hb.block r (by simp; omega)]
    exact (heap_alloc_old w _ hrl).trans HB0.out
  refine bodyPost_end (v := .tuple #[]) (by simp [results, Try.results73, go_sem]) rfl ⟨rfl, ?_, H.out.set (s' := doS s op k a 0) ?_ ?_ rfl rfl⟩
  · exact ((hX.setCell (by simp) _).setCell (by simp) _).setCell (by simp) _
  · exact ((hX.setCell (by simp) _).setCell (by simp) _).setCell (by simp) _
  · have e : doS s op k a 0 = { s with zero := s.zero, kind := 1, n := v } := by
      unfold doS
      rw [← HW.out, if_neg (show ¬ ((0 : Int) = 0 ∧ (op = 17 ∨ op = 18)) by omega), if_pos (show (19 : Int) ≤ op by omega)]
    rw [e]
    exact heap_setCell_same (heap_setCell_same (heap_setCell_same hY 5 _) 6 _) 5 _
theorem rdo_3a (B r : Nat) (b c : Nat → Nat) (s : Rs) (V : Value) (op k a x : Int) (w : World) (h : RAt w B r b c s V) (h0 : 0 ≤ s.zero) (hz : s.zero ≤ 1048576) (hx : x = 0) (h7 : op = 17) :
    Calls Try.prog 73 #[.pointer (some ⟨r, 0, none⟩), .int .i64 op, .agg #[.int .i64 k, .int .i64 a], .int .i64 x] w fun e w' => e = .returned (.tuple #[]) ∧ Only [r] w w' ∧ RAt w' B r b c (doS s op k a x) V := by
  subst hx
  subst h7
  have hrl := h.lt
  have hrl2 : r < w.heap.size + 1 := by omega
  have H := hid h
  have c9 : w.cell? ⟨r, 9, none⟩ = some (.int .i64 s.zero) := h.cell 9
  have c5 : w.cell? ⟨r, 5, none⟩ = some (.int .i64 s.kind) := h.cell 5
  have c6 : w.cell? ⟨r, 6, none⟩ = some (.int .i64 s.n) := h.cell 6
  have f9 := h.free 9
  have f5 := h.free 5
  have f6 := h.free 6
  have D := hid fun W => do_any 17 k a 0 W
  have hb0 := h.blk
  have HB0 := hid hb0
  clear h hb0
  obtain ⟨v, hv⟩ : ∃ v, v = doV 17 k a 0 := ⟨_, rfl⟩
  rw [← hv] at D
  have HW := hid hv
  clear hv
  go_enter Try.func73, Try.ntmps73
  go_wp2_with (first | (go_at_call 88; refine (D.out _).mono ?_; rintro e w1 ⟨rfl, hb⟩; have d5 : w1.cell? ⟨r, 5, none⟩ = some (.int .i64 s.kind) := (hb.cell (by simp; omega)).trans (by simp [go_sem, *]); have d6 : w1.cell? ⟨r, 6, none⟩ = some (.int .i64 s.n) := (hb.cell (by simp; omega)).trans (by simp [go_sem, *]); have g5 : w1.frozen? ⟨r, 5, none⟩ = false := (hb.frozen (by simp; omega)).trans (by simp [go_sem, *]); have g6 : w1.frozen? ⟨r, 6, none⟩ = false := (hb.frozen (by simp; omega)).trans (by simp [go_sem, *]); have e0 : w1.cell? ⟨w.heap.size, 0, none⟩ = some (.int .i64 k) := (hb.cell (by simp)).trans (by simp [go_sem]); have e1 : w1.cell? ⟨w.heap.size, 1, none⟩ = some (.int .i64 a) := (hb.cell (by simp)).trans (by simp [go_sem]); have hlt : w.heap.size < w1.heap.size := (by (have hsz := hb.size; simp only [World.size_alloc, World.size_setCell] at hsz; omega)); have hlt2 : r < w1.heap.size := (by omega); have hb := hid hb; clear c9 c5 c6 f9 f5 f6))
  have hb := hb.out
  have hX : Only [r] w w1 := ((((Only.refl [r] w).setCell (by simp) _).alloc _).thenB hb)
  have hY : w1.heap[r]? = some (.cells (runCells b c { s with zero := s.zero + 1 } V) 75 (0, 0)) := by
    rw [hb.block r (by simp; omega)]
    exact (heap_alloc_old _ _ (by simpa using hrl)).trans (heap_setCell_same HB0.out 9 _)
  refine bodyPost_end (v := .tuple #[]) (by simp [results, Try.results73, go_sem]) rfl ⟨rfl, ?_, H.out.set (s' := doS s 17 k a 0) ?_ ?_ rfl rfl⟩
  · exact (hX.setCell (by simp) _).setCell (by simp) _
  · exact (hX.setCell (by simp) _).setCell (by simp) _
  · have e : doS s 17 k a 0 = { s with zero := s.zero + 1, kind := k, n := v } := by
      unfold doS
      rw [← HW.out, if_pos (show (0 : Int) = 0 ∧ ((17 : Int) = 17 ∨ (17 : Int) = 18) by decide), if_neg (show ¬ (19 : Int) ≤ 17 by omega)]
    rw [e]
    exact heap_setCell_same (heap_setCell_same hY 5 _) 6 _
theorem rdo_4a (B r : Nat) (b c : Nat → Nat) (s : Rs) (V : Value) (op k a x : Int) (w : World) (h : RAt w B r b c s V) (h0 : 0 ≤ s.zero) (hz : s.zero ≤ 1048576) (hx : x = 0) (h7 : op = 18) :
    Calls Try.prog 73 #[.pointer (some ⟨r, 0, none⟩), .int .i64 op, .agg #[.int .i64 k, .int .i64 a], .int .i64 x] w fun e w' => e = .returned (.tuple #[]) ∧ Only [r] w w' ∧ RAt w' B r b c (doS s op k a x) V := by
  subst hx
  subst h7
  have hrl := h.lt
  have hrl2 : r < w.heap.size + 1 := by omega
  have H := hid h
  have c9 : w.cell? ⟨r, 9, none⟩ = some (.int .i64 s.zero) := h.cell 9
  have c5 : w.cell? ⟨r, 5, none⟩ = some (.int .i64 s.kind) := h.cell 5
  have c6 : w.cell? ⟨r, 6, none⟩ = some (.int .i64 s.n) := h.cell 6
  have f9 := h.free 9
  have f5 := h.free 5
  have f6 := h.free 6
  have D := hid fun W => do_any 18 k a 0 W
  have hb0 := h.blk
  have HB0 := hid hb0
  clear h hb0
  obtain ⟨v, hv⟩ : ∃ v, v = doV 18 k a 0 := ⟨_, rfl⟩
  rw [← hv] at D
  have HW := hid hv
  clear hv
  go_enter Try.func73, Try.ntmps73
  go_wp2_with (first | (go_at_call 88; refine (D.out _).mono ?_; rintro e w1 ⟨rfl, hb⟩; have d5 : w1.cell? ⟨r, 5, none⟩ = some (.int .i64 s.kind) := (hb.cell (by simp; omega)).trans (by simp [go_sem, *]); have d6 : w1.cell? ⟨r, 6, none⟩ = some (.int .i64 s.n) := (hb.cell (by simp; omega)).trans (by simp [go_sem, *]); have g5 : w1.frozen? ⟨r, 5, none⟩ = false := (hb.frozen (by simp; omega)).trans (by simp [go_sem, *]); have g6 : w1.frozen? ⟨r, 6, none⟩ = false := (hb.frozen (by simp; omega)).trans (by simp [go_sem, *]); have e0 : w1.cell? ⟨w.heap.size, 0, none⟩ = some (.int .i64 k) := (hb.cell (by simp)).trans (by simp [go_sem]); have e1 : w1.cell? ⟨w.heap.size, 1, none⟩ = some (.int .i64 a) := (hb.cell (by simp)).trans (by simp [go_sem]); have hlt : w.heap.size < w1.heap.size := (by (have hsz := hb.size; simp only [World.size_alloc, World.size_setCell] at hsz; omega)); have hlt2 : r < w1.heap.size := (by omega); have hb := hid hb; clear c9 c5 c6 f9 f5 f6))
  have hb := hb.out
  have hX : Only [r] w w1 := ((((Only.refl [r] w).setCell (by simp) _).alloc _).thenB hb)
  have hY : w1.heap[r]? = some (.cells (runCells b c { s with zero := s.zero + 1 } V) 75 (0, 0)) := by
    rw [hb.block r (by simp; omega)]
    exact (heap_alloc_old _ _ (by simpa using hrl)).trans (heap_setCell_same HB0.out 9 _)
  refine bodyPost_end (v := .tuple #[]) (by simp [results, Try.results73, go_sem]) rfl ⟨rfl, ?_, H.out.set (s' := doS s 18 k a 0) ?_ ?_ rfl rfl⟩
  · exact (hX.setCell (by simp) _).setCell (by simp) _
  · exact (hX.setCell (by simp) _).setCell (by simp) _
  · have e : doS s 18 k a 0 = { s with zero := s.zero + 1, kind := k, n := v } := by
      unfold doS
      rw [← HW.out, if_pos (show (0 : Int) = 0 ∧ ((18 : Int) = 17 ∨ (18 : Int) = 18) by decide), if_neg (show ¬ (19 : Int) ≤ 18 by omega)]
    rw [e]
    exact heap_setCell_same (heap_setCell_same hY 5 _) 6 _
theorem rdo_any (B r : Nat) (b c : Nat → Nat) (s : Rs) (V : Value) (op k a x : Int) (w : World) (h : RAt w B r b c s V) (h0 : 0 ≤ s.zero) (hz : s.zero ≤ 1048576) :
    Calls Try.prog 73 #[.pointer (some ⟨r, 0, none⟩), .int .i64 op, .agg #[.int .i64 k, .int .i64 a], .int .i64 x] w fun e w' => e = .returned (.tuple #[]) ∧ Only [r] w w' ∧ RAt w' B r b c (doS s op k a x) V := by
  by_cases hx : x = 0
  · by_cases h7 : op = 17
    · exact rdo_3a B r b c s V op k a x w h h0 hz hx h7
    · by_cases h8 : op = 18
      · exact rdo_4a B r b c s V op k a x w h h0 hz hx h8
      · by_cases hg : op < 19
        · exact rdo_2a B r b c s V op k a x w h h0 hz hx h7 h8 hg
        · exact rdo_2b B r b c s V op k a x w h h0 hz hx (by omega)
  · by_cases hg : op < 19
    · exact rdo_1a B r b c s V op k a x w h h0 hz hx hg
    · exact rdo_1b B r b c s V op k a x w h h0 hz hx (by omega)
end Go.Proofs.Ytkhnalboodkddaa
