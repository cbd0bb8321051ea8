import Derived.Test.YtkhnalboodkddaaVm7
set_option linter.unusedSimpArgs false
set_option linter.unusedVariables false
set_option maxRecDepth 100000
namespace Go.Proofs.Ytkhnalboodkddaa
open Go.RowKit
/-- The copy of the result that a step makes. -/
def ResAt (X : World) (p : Nat) (k n : Int) : Prop := X.cell? ⟨p, 0, none⟩ = some (.int .i64 k) ∧ X.cell? ⟨p, 1, none⟩ = some (.int .i64 n) ∧ p < X.heap.size
theorem ResAt.below {X Y : World} {p : Nat} {k n : Int} (h : ResAt X p k n) (hb : Below X.heap.size X Y) : ResAt Y p k n :=
  ⟨(hb.cell h.2.2).trans h.1, (hb.cell h.2.2).trans h.2.1, Nat.lt_of_lt_of_le h.2.2 hb.size⟩
theorem ResAt.new (w : World) (k n : Int) : ResAt (w.alloc (.cells #[.int .i64 k, .int .i64 n] 72)) w.heap.size k n :=
  ⟨by simp [go_sem], by simp [go_sem], by simp⟩
theorem RAt.bs {w : World} {B r : Nat} {b c : Nat → Nat} {s : Rs} {V : Value} (h : RAt w B r b c s V) : B ≤ w.heap.size := Nat.le_of_lt (Nat.lt_of_le_of_lt h.base.1 h.lt)
theorem below_only {w X Y : World} {B : Nat} {bs : List Nat} (h : Below B w X) (ho : Only bs X Y) (hB : B ≤ X.heap.size) (hb : ∀ x, x ∈ bs → B ≤ x) : Below B w Y := h.trans (ho.below hB hb)
/-- What a step needs: the instruction may be, and a bracket that it closes is open. -/
structure StepOk (s : Rs) (i : Ins) : Prop where
  area0 : 0 ≤ i.area
  area4 : i.area ≤ 4
  writes : 3 ≤ i.op ∧ i.op ≤ 6 ∨ 34 ≤ i.op ∧ i.op ≤ 36 → 1 ≤ i.area
  at0 : 34 ≤ i.op ∧ i.op ≤ 36 → 0 ≤ i.at_ ∧ i.at_ ≤ 1000
  n0 : -9223372036854775808 ≤ i.n
  n1 : i.n ≤ 9223372036854775807
  close : i.op = 33 → s.op ≠ []
  short : s.op.length ≤ 1000
  zero0 : 0 ≤ s.zero
  zero1 : s.zero ≤ 1048576
  p0 : 0 ≤ s.passed
  p1 : s.passed ≤ 10000
def lastBk (l : List (Int × Int × Int)) : Int × Int × Int := l.getD (l.length - 1) (0, 0, 0)
def stepS (s : Rs) (i : Ins) : Rs :=
  if i.op = 1 then { s with kind := i.kind, n := operandS s i }
  else if i.op = 2 then { s with kind := i.kind, n := notK i.kind (operandS s i) }
  else if i.op = 3 then putS s i.area i.at_ i.kind s.n
  else if i.op = 4 then putS s i.area i.at_ i.kind (notK i.kind s.n)
  else if i.op = 5 ∨ i.op = 6 then (if isB s = true then putS s i.area i.at_ 1 (6 - i.op) else s)
  else if i.op = 13 then { s with n := notK s.kind s.n }
  else if i.op = 31 then { s with kind := i.kind, n := wrapK i.kind s.n }
  else if i.op = 32 then { s with op := s.op ++ [(i.at_, s.kind, s.n)], kind := 0, n := 0 }
  else if i.op = 33 then doS { s with op := s.op.take (s.op.length - 1) } (lastBk s.op).1 (lastBk s.op).2.1 (lastBk s.op).2.2 s.n
  else if i.op = 34 then timerS s i
  else if i.op = 35 then counterS s i
  else if i.op = 36 then { putS s i.area i.at_ 1 s.n with kind := 1, n := truthN (risesB s i.area i.at_) }
  else doS s i.op s.kind s.n (operandS s i)
set_option maxHeartbeats 400000 in
theorem step_1 (B r : Nat) (b c : Nat → Nat) (s : Rs) (V : Value) (kd ar at_ nn : Int) (w : World) (h : RAt w B r b c s V) (hk : StepOk s ⟨1, kd, ar, at_, nn⟩) :
    Calls Try.prog 41 #[.pointer (some ⟨r, 0, none⟩), .agg #[.int .i64 1, .int .i64 kd, .int .i64 ar, .int .i64 at_, .int .i64 nn]] w fun e w' => e = .returned (.tuple #[]) ∧ Below B w w' ∧ ∃ V', RAt w' B r b c (stepS s ⟨1, kd, ar, at_, nn⟩) V' := by
  obtain ⟨k0, k1, k2, k3, k4, k5, k6, k7, k8, k9, k10, k11⟩ := hk
  simp only at k0 k1 k2 k3 k4 k5 k6
  have hbase := h.base
  have hrw := h.lt
  have hBw := h.bs
  have hA : Below w.heap.size w ((w.alloc (.cells #[.int .i64 1, .int .i64 kd, .int .i64 ar, .int .i64 at_, .int .i64 nn] 46)).alloc (.cells #[.int .i64 s.kind, .int .i64 s.n] 72)) := (by repeat (first | exact Below.refl _ _ | assumption | (with_reducible refine below_alloc' ?_ _) | (with_reducible refine below_drew' ?_) | (with_reducible refine below_drewN' ?_ _) | (with_reducible refine below_setCell' ?_ (by first | omega | (simp; omega) | (simp; done)) _) | (refine below_then' ?_ (by assumption))))
  have HB := hid (hA.mono hBw)
  have HR := hid (h.below hA)
  have HY := hid ((BoxAt.new w 1 kd ar at_ nn).below (Below.alloc1 _ (.cells #[.int .i64 s.kind, .int .i64 s.n] 72)))
  have HZ : Hid (ResAt ((w.alloc (.cells #[.int .i64 1, .int .i64 kd, .int .i64 ar, .int .i64 at_, .int .i64 nn] 46)).alloc (.cells #[.int .i64 s.kind, .int .i64 s.n] 72)) (w.heap.size + 1) s.kind s.n) := hid (by have := ResAt.new (w.alloc (.cells #[.int .i64 1, .int .i64 kd, .int .i64 ar, .int .i64 at_, .int .i64 nn] 46)) s.kind s.n; rw [World.size_alloc] at this; exact this)
  obtain ⟨c5, c6, c12, f5, f6, hr⟩ := (h.facts : RFacts _ r s.kind s.n s.passed)
  have O := hid fun W (hR : RAt W B r b c s V) => operand_any B r b c s V ⟨1, kd, ar, at_, nn⟩ W hR k0 k1
  simp only [Ins.val] at O
  obtain ⟨v, hv⟩ : ∃ v, v = operandS s ⟨1, kd, ar, at_, nn⟩ := ⟨_, rfl⟩
  rw [← hv] at O
  have eS : stepS s ⟨1, kd, ar, at_, nn⟩ = { s with kind := kd, n := v } := by rw [hv]; simp [stepS]
  rw [eS]
  clear h hA k2 k3 k6 eS
  replace hbase := hid hbase
  try clear hv
  try clear hu
  try clear ht
  try clear hi
  go_enter Try.func41, Try.ntmps41
  go_wp2_with (first
    | (go_at_call 70; fail))
  obtain ⟨W, hW⟩ : ∃ W, W = ((w.alloc (.cells #[.int .i64 1, .int .i64 kd, .int .i64 ar, .int .i64 at_, .int .i64 nn] 46)).alloc (.cells #[.int .i64 s.kind, .int .i64 s.n] 72)) := ⟨_, rfl⟩
  try rw [← hW] at hid2
  rw [← hW] at HB HR HY HZ ⊢
  clear hW
  obtain ⟨c5, c6, c12, f5, f6, hr⟩ := (HR.out.facts : RFacts _ r s.kind s.n s.passed)
  obtain ⟨y0, y1, y2, y3, y4, ysz⟩ := HY.out
  obtain ⟨z0, z1, zsz⟩ := HZ.out
  (refine quiet_tail (fun X => Below (W).heap.size (W) X) 9 (by kernel_rfl) (by kernel_rfl) (Below.refl _ _).drew ?_; simp only [List.take_succ_cons, List.take_zero, List.drop_succ_cons, List.drop_zero]; (repeat (first | go_big_quiet_skip | (go_big_quiet_want; first | (go_big_quiet_op; go_big_quiet_on) | (apply Exists.intro; refine ⟨fun X hX => ?_, ?_⟩; · (have hbq := (bcell hX).1; (try simp only [World.size_alloc, World.size_setCell, World.size_drew] at hbq); unfold Oper.quietAt; go_simp; first | done | rfl | exact ⟨rfl, rfl⟩ | (go_at_call 70; refine (O.out _ (HR.out.below hX)).mono ?_; rintro e w' ⟨rfl, hb'⟩; exact ⟨rfl, hX.trans (hb'.mono hX.size)⟩))); go_big_quiet_on; simp only [Act.put, List.setIfInBounds_toArray, List.set_cons_zero, List.set_cons_succ]))); refine wpQuiet_nil ?_; intro X hX)
  have hb : Below W.heap.size W X := hX
  clear hX
  (replace HB := hid (HB.out.trans (hb.mono HR.out.bs)); replace HY := hid (HY.out.below hb); replace HZ := hid (HZ.out.below hb); replace HR := hid (HR.out.below hb); obtain ⟨c5, c6, c12, f5, f6, hr⟩ := (HR.out.facts : RFacts _ r s.kind s.n s.passed); obtain ⟨y0, y1, y2, y3, y4, ysz⟩ := HY.out; obtain ⟨z0, z1, zsz⟩ := HZ.out; clear hb)
  go_wp2
  exact bodyPost_end (v := .tuple #[]) (by simp [results, Try.results41, go_sem]) rfl ⟨rfl, (HB.out.setCell (by simp; exact hbase.out.1) _).setCell (by simp; exact hbase.out.1) _, _, HR.out.setRes kd v⟩
set_option maxHeartbeats 400000 in
theorem step_2 (B r : Nat) (b c : Nat → Nat) (s : Rs) (V : Value) (kd ar at_ nn : Int) (w : World) (h : RAt w B r b c s V) (hk : StepOk s ⟨2, kd, ar, at_, nn⟩) :
    Calls Try.prog 41 #[.pointer (some ⟨r, 0, none⟩), .agg #[.int .i64 2, .int .i64 kd, .int .i64 ar, .int .i64 at_, .int .i64 nn]] w fun e w' => e = .returned (.tuple #[]) ∧ Below B w w' ∧ ∃ V', RAt w' B r b c (stepS s ⟨2, kd, ar, at_, nn⟩) V' := by
  obtain ⟨k0, k1, k2, k3, k4, k5, k6, k7, k8, k9, k10, k11⟩ := hk
  simp only at k0 k1 k2 k3 k4 k5 k6
  have hbase := h.base
  have hrw := h.lt
  have hBw := h.bs
  have hA : Below w.heap.size w ((w.alloc (.cells #[.int .i64 2, .int .i64 kd, .int .i64 ar, .int .i64 at_, .int .i64 nn] 46)).alloc (.cells #[.int .i64 s.kind, .int .i64 s.n] 72)) := (by repeat (first | exact Below.refl _ _ | assumption | (with_reducible refine below_alloc' ?_ _) | (with_reducible refine below_drew' ?_) | (with_reducible refine below_drewN' ?_ _) | (with_reducible refine below_setCell' ?_ (by first | omega | (simp; omega) | (simp; done)) _) | (refine below_then' ?_ (by assumption))))
  have HB := hid (hA.mono hBw)
  have HR := hid (h.below hA)
  have HY := hid ((BoxAt.new w 2 kd ar at_ nn).below (Below.alloc1 _ (.cells #[.int .i64 s.kind, .int .i64 s.n] 72)))
  have HZ : Hid (ResAt ((w.alloc (.cells #[.int .i64 2, .int .i64 kd, .int .i64 ar, .int .i64 at_, .int .i64 nn] 46)).alloc (.cells #[.int .i64 s.kind, .int .i64 s.n] 72)) (w.heap.size + 1) s.kind s.n) := hid (by have := ResAt.new (w.alloc (.cells #[.int .i64 2, .int .i64 kd, .int .i64 ar, .int .i64 at_, .int .i64 nn] 46)) s.kind s.n; rw [World.size_alloc] at this; exact this)
  obtain ⟨c5, c6, c12, f5, f6, hr⟩ := (h.facts : RFacts _ r s.kind s.n s.passed)
  have O := hid fun W (hR : RAt W B r b c s V) => operand_any B r b c s V ⟨2, kd, ar, at_, nn⟩ W hR k0 k1
  simp only [Ins.val] at O
  obtain ⟨v, hv⟩ : ∃ v, v = operandS s ⟨2, kd, ar, at_, nn⟩ := ⟨_, rfl⟩
  rw [← hv] at O
  have N := hid fun W => not_any kd v W
  obtain ⟨u, hu⟩ : ∃ u, u = notK kd v := ⟨_, rfl⟩
  rw [← hu] at N
  have eS : stepS s ⟨2, kd, ar, at_, nn⟩ = { s with kind := kd, n := u } := by rw [hu, hv]; simp [stepS]
  rw [eS]
  clear h hA k2 k3 k6 eS
  replace hbase := hid hbase
  try clear hv
  try clear hu
  try clear ht
  try clear hi
  go_enter Try.func41, Try.ntmps41
  go_wp2_with (first
    | (go_at_call 70; fail))
  obtain ⟨W, hW⟩ : ∃ W, W = ((w.alloc (.cells #[.int .i64 2, .int .i64 kd, .int .i64 ar, .int .i64 at_, .int .i64 nn] 46)).alloc (.cells #[.int .i64 s.kind, .int .i64 s.n] 72)) := ⟨_, rfl⟩
  try rw [← hW] at hid2
  rw [← hW] at HB HR HY HZ ⊢
  clear hW
  obtain ⟨c5, c6, c12, f5, f6, hr⟩ := (HR.out.facts : RFacts _ r s.kind s.n s.passed)
  obtain ⟨y0, y1, y2, y3, y4, ysz⟩ := HY.out
  obtain ⟨z0, z1, zsz⟩ := HZ.out
  (refine quiet_tail (fun X => Below (W).heap.size (W) X) 12 (by kernel_rfl) (by kernel_rfl) (Below.refl _ _).drew ?_; simp only [List.take_succ_cons, List.take_zero, List.drop_succ_cons, List.drop_zero]; (repeat (first | go_big_quiet_skip | (go_big_quiet_want; first | (go_big_quiet_op; go_big_quiet_on) | (apply Exists.intro; refine ⟨fun X hX => ?_, ?_⟩; · (have hbq := (bcell hX).1; (try simp only [World.size_alloc, World.size_setCell, World.size_drew] at hbq); unfold Oper.quietAt; go_simp; first | done | rfl | exact ⟨rfl, rfl⟩ | (go_at_call 70; refine (O.out _ (HR.out.below hX)).mono ?_; rintro e w' ⟨rfl, hb'⟩; exact ⟨rfl, hX.trans (hb'.mono hX.size)⟩) | (go_at_call 55; refine (N.out _).mono ?_; rintro e w' ⟨rfl, hb'⟩; exact ⟨rfl, hX.trans (hb'.mono hX.size)⟩))); go_big_quiet_on; simp only [Act.put, List.setIfInBounds_toArray, List.set_cons_zero, List.set_cons_succ]))); refine wpQuiet_nil ?_; intro X hX)
  have hb : Below W.heap.size W X := hX
  clear hX
  (replace HB := hid (HB.out.trans (hb.mono HR.out.bs)); replace HY := hid (HY.out.below hb); replace HZ := hid (HZ.out.below hb); replace HR := hid (HR.out.below hb); obtain ⟨c5, c6, c12, f5, f6, hr⟩ := (HR.out.facts : RFacts _ r s.kind s.n s.passed); obtain ⟨y0, y1, y2, y3, y4, ysz⟩ := HY.out; obtain ⟨z0, z1, zsz⟩ := HZ.out; clear hb)
  go_wp2
  exact bodyPost_end (v := .tuple #[]) (by simp [results, Try.results41, go_sem]) rfl ⟨rfl, (HB.out.setCell (by simp; exact hbase.out.1) _).setCell (by simp; exact hbase.out.1) _, _, HR.out.setRes kd u⟩
set_option maxHeartbeats 400000 in
theorem step_3 (B r : Nat) (b c : Nat → Nat) (s : Rs) (V : Value) (kd ar at_ nn : Int) (w : World) (h : RAt w B r b c s V) (hk : StepOk s ⟨3, kd, ar, at_, nn⟩) :
    Calls Try.prog 41 #[.pointer (some ⟨r, 0, none⟩), .agg #[.int .i64 3, .int .i64 kd, .int .i64 ar, .int .i64 at_, .int .i64 nn]] w fun e w' => e = .returned (.tuple #[]) ∧ Below B w w' ∧ ∃ V', RAt w' B r b c (stepS s ⟨3, kd, ar, at_, nn⟩) V' := by
  obtain ⟨k0, k1, k2, k3, k4, k5, k6, k7, k8, k9, k10, k11⟩ := hk
  simp only at k0 k1 k2 k3 k4 k5 k6
  have hbase := h.base
  have hrw := h.lt
  have hBw := h.bs
  have hA : Below w.heap.size w ((w.alloc (.cells #[.int .i64 3, .int .i64 kd, .int .i64 ar, .int .i64 at_, .int .i64 nn] 46)).alloc (.cells #[.int .i64 s.kind, .int .i64 s.n] 72)) := (by repeat (first | exact Below.refl _ _ | assumption | (with_reducible refine below_alloc' ?_ _) | (with_reducible refine below_drew' ?_) | (with_reducible refine below_drewN' ?_ _) | (with_reducible refine below_setCell' ?_ (by first | omega | (simp; omega) | (simp; done)) _) | (refine below_then' ?_ (by assumption))))
  have HB := hid (hA.mono hBw)
  have HR := hid (h.below hA)
  have HY := hid ((BoxAt.new w 3 kd ar at_ nn).below (Below.alloc1 _ (.cells #[.int .i64 s.kind, .int .i64 s.n] 72)))
  have HZ : Hid (ResAt ((w.alloc (.cells #[.int .i64 3, .int .i64 kd, .int .i64 ar, .int .i64 at_, .int .i64 nn] 46)).alloc (.cells #[.int .i64 s.kind, .int .i64 s.n] 72)) (w.heap.size + 1) s.kind s.n) := hid (by have := ResAt.new (w.alloc (.cells #[.int .i64 3, .int .i64 kd, .int .i64 ar, .int .i64 at_, .int .i64 nn] 46)) s.kind s.n; rw [World.size_alloc] at this; exact this)
  obtain ⟨c5, c6, c12, f5, f6, hr⟩ := (h.facts : RFacts _ r s.kind s.n s.passed)
  have hk2 := k2 (by omega)
  have P := hid fun W (hR : RAt W B r b c s V) => rput_any B r b c s V ar at_ kd s.n W hR hk2 k1
  have eS : stepS s ⟨3, kd, ar, at_, nn⟩ = putS s ar at_ kd s.n := by simp [stepS]
  rw [eS]
  clear h hA k2 k3 k6 eS
  replace hbase := hid hbase
  try clear hv
  try clear hu
  try clear ht
  try clear hi
  go_enter Try.func41, Try.ntmps41
  go_wp2_with (first
    | (go_at_call 71; refine (P.out _ HR.out).mono ?_; rintro e w2 ⟨rfl, ho, hR⟩; replace HB := hid (below_only HB.out ho HR.out.bs (by simp; exact hbase.out.2 _ (by omega) (by omega))); replace HR := hid hR; clear ho hR))
  exact bodyPost_end (v := .tuple #[]) (by simp [results, Try.results41, go_sem]) rfl ⟨rfl, HB.out, V, HR.out⟩
set_option maxHeartbeats 400000 in
theorem step_4 (B r : Nat) (b c : Nat → Nat) (s : Rs) (V : Value) (kd ar at_ nn : Int) (w : World) (h : RAt w B r b c s V) (hk : StepOk s ⟨4, kd, ar, at_, nn⟩) :
    Calls Try.prog 41 #[.pointer (some ⟨r, 0, none⟩), .agg #[.int .i64 4, .int .i64 kd, .int .i64 ar, .int .i64 at_, .int .i64 nn]] w fun e w' => e = .returned (.tuple #[]) ∧ Below B w w' ∧ ∃ V', RAt w' B r b c (stepS s ⟨4, kd, ar, at_, nn⟩) V' := by
  obtain ⟨k0, k1, k2, k3, k4, k5, k6, k7, k8, k9, k10, k11⟩ := hk
  simp only at k0 k1 k2 k3 k4 k5 k6
  have hbase := h.base
  have hrw := h.lt
  have hBw := h.bs
  have hA : Below w.heap.size w ((w.alloc (.cells #[.int .i64 4, .int .i64 kd, .int .i64 ar, .int .i64 at_, .int .i64 nn] 46)).alloc (.cells #[.int .i64 s.kind, .int .i64 s.n] 72)) := (by repeat (first | exact Below.refl _ _ | assumption | (with_reducible refine below_alloc' ?_ _) | (with_reducible refine below_drew' ?_) | (with_reducible refine below_drewN' ?_ _) | (with_reducible refine below_setCell' ?_ (by first | omega | (simp; omega) | (simp; done)) _) | (refine below_then' ?_ (by assumption))))
  have HB := hid (hA.mono hBw)
  have HR := hid (h.below hA)
  have HY := hid ((BoxAt.new w 4 kd ar at_ nn).below (Below.alloc1 _ (.cells #[.int .i64 s.kind, .int .i64 s.n] 72)))
  have HZ : Hid (ResAt ((w.alloc (.cells #[.int .i64 4, .int .i64 kd, .int .i64 ar, .int .i64 at_, .int .i64 nn] 46)).alloc (.cells #[.int .i64 s.kind, .int .i64 s.n] 72)) (w.heap.size + 1) s.kind s.n) := hid (by have := ResAt.new (w.alloc (.cells #[.int .i64 4, .int .i64 kd, .int .i64 ar, .int .i64 at_, .int .i64 nn] 46)) s.kind s.n; rw [World.size_alloc] at this; exact this)
  obtain ⟨c5, c6, c12, f5, f6, hr⟩ := (h.facts : RFacts _ r s.kind s.n s.passed)
  have hk2 := k2 (by omega)
  have N := hid fun W => not_any kd s.n W
  obtain ⟨u, hu⟩ : ∃ u, u = notK kd s.n := ⟨_, rfl⟩
  rw [← hu] at N
  have P := hid fun W (hR : RAt W B r b c s V) => rput_any B r b c s V ar at_ kd u W hR hk2 k1
  have eS : stepS s ⟨4, kd, ar, at_, nn⟩ = putS s ar at_ kd u := by rw [hu]; simp [stepS]
  rw [eS]
  clear h hA k2 k3 k6 eS
  replace hbase := hid hbase
  try clear hv
  try clear hu
  try clear ht
  try clear hi
  go_enter Try.func41, Try.ntmps41
  go_wp2_with (first
    | (go_at_call 70; fail))
  obtain ⟨W, hW⟩ : ∃ W, W = ((w.alloc (.cells #[.int .i64 4, .int .i64 kd, .int .i64 ar, .int .i64 at_, .int .i64 nn] 46)).alloc (.cells #[.int .i64 s.kind, .int .i64 s.n] 72)) := ⟨_, rfl⟩
  try rw [← hW] at hid2
  rw [← hW] at HB HR HY HZ ⊢
  clear hW
  obtain ⟨c5, c6, c12, f5, f6, hr⟩ := (HR.out.facts : RFacts _ r s.kind s.n s.passed)
  obtain ⟨y0, y1, y2, y3, y4, ysz⟩ := HY.out
  obtain ⟨z0, z1, zsz⟩ := HZ.out
  (refine quiet_tail (fun X => Below (W).heap.size (W) X) 12 (by kernel_rfl) (by kernel_rfl) (Below.refl _ _).drew ?_; simp only [List.take_succ_cons, List.take_zero, List.drop_succ_cons, List.drop_zero]; (repeat (first | go_big_quiet_skip | (go_big_quiet_want; first | (go_big_quiet_op; go_big_quiet_on) | (apply Exists.intro; refine ⟨fun X hX => ?_, ?_⟩; · (have hbq := (bcell hX).1; (try simp only [World.size_alloc, World.size_setCell, World.size_drew] at hbq); unfold Oper.quietAt; go_simp; first | done | rfl | exact ⟨rfl, rfl⟩ | (go_at_call 55; refine (N.out _).mono ?_; rintro e w' ⟨rfl, hb'⟩; exact ⟨rfl, hX.trans (hb'.mono hX.size)⟩))); go_big_quiet_on; simp only [Act.put, List.setIfInBounds_toArray, List.set_cons_zero, List.set_cons_succ]))); refine wpQuiet_nil ?_; intro X hX)
  have hb : Below W.heap.size W X := hX
  clear hX
  (replace HB := hid (HB.out.trans (hb.mono HR.out.bs)); replace HY := hid (HY.out.below hb); replace HZ := hid (HZ.out.below hb); replace HR := hid (HR.out.below hb); obtain ⟨c5, c6, c12, f5, f6, hr⟩ := (HR.out.facts : RFacts _ r s.kind s.n s.passed); obtain ⟨y0, y1, y2, y3, y4, ysz⟩ := HY.out; obtain ⟨z0, z1, zsz⟩ := HZ.out; clear hb)
  go_wp2_with (first
    | (go_at_call 71; refine (P.out _ HR.out).mono ?_; rintro e w2 ⟨rfl, ho, hR⟩; replace HB := hid (below_only HB.out ho HR.out.bs (by simp; exact hbase.out.2 _ (by omega) (by omega))); replace HR := hid hR; clear ho hR))
  exact bodyPost_end (v := .tuple #[]) (by simp [results, Try.results41, go_sem]) rfl ⟨rfl, HB.out, V, HR.out⟩
set_option maxHeartbeats 400000 in
theorem step_5y (B r : Nat) (b c : Nat → Nat) (s : Rs) (V : Value) (kd ar at_ nn : Int) (w : World) (h : RAt w B r b c s V) (hk : StepOk s ⟨5, kd, ar, at_, nn⟩) (hi : isB s = true) :
    Calls Try.prog 41 #[.pointer (some ⟨r, 0, none⟩), .agg #[.int .i64 5, .int .i64 kd, .int .i64 ar, .int .i64 at_, .int .i64 nn]] w fun e w' => e = .returned (.tuple #[]) ∧ Below B w w' ∧ ∃ V', RAt w' B r b c (stepS s ⟨5, kd, ar, at_, nn⟩) V' := by
  obtain ⟨k0, k1, k2, k3, k4, k5, k6, k7, k8, k9, k10, k11⟩ := hk
  simp only at k0 k1 k2 k3 k4 k5 k6
  have hbase := h.base
  have hrw := h.lt
  have hBw := h.bs
  have hA : Below w.heap.size w ((w.alloc (.cells #[.int .i64 5, .int .i64 kd, .int .i64 ar, .int .i64 at_, .int .i64 nn] 46)).alloc (.cells #[.int .i64 s.kind, .int .i64 s.n] 72)) := (by repeat (first | exact Below.refl _ _ | assumption | (with_reducible refine below_alloc' ?_ _) | (with_reducible refine below_drew' ?_) | (with_reducible refine below_drewN' ?_ _) | (with_reducible refine below_setCell' ?_ (by first | omega | (simp; omega) | (simp; done)) _) | (refine below_then' ?_ (by assumption))))
  have HB := hid (hA.mono hBw)
  have HR := hid (h.below hA)
  have HY := hid ((BoxAt.new w 5 kd ar at_ nn).below (Below.alloc1 _ (.cells #[.int .i64 s.kind, .int .i64 s.n] 72)))
  have HZ : Hid (ResAt ((w.alloc (.cells #[.int .i64 5, .int .i64 kd, .int .i64 ar, .int .i64 at_, .int .i64 nn] 46)).alloc (.cells #[.int .i64 s.kind, .int .i64 s.n] 72)) (w.heap.size + 1) s.kind s.n) := hid (by have := ResAt.new (w.alloc (.cells #[.int .i64 5, .int .i64 kd, .int .i64 ar, .int .i64 at_, .int .i64 nn] 46)) s.kind s.n; rw [World.size_alloc] at this; exact this)
  obtain ⟨c5, c6, c12, f5, f6, hr⟩ := (h.facts : RFacts _ r s.kind s.n s.passed)
  have hk2 := k2 (by omega)
  have P := hid fun W (hR : RAt W B r b c s V) => rput_any B r b c s V ar at_ 1 1 W hR hk2 k1
  have I := hid fun W => value_is s.kind s.n W
  rw [show decide (s.n = 1) = true from hi] at I
  have eS : stepS s ⟨5, kd, ar, at_, nn⟩ = putS s ar at_ 1 1 := by simp [stepS, hi]
  rw [eS]
  clear h hA k2 k3 k6 eS
  replace hbase := hid hbase
  try clear hv
  try clear hu
  try clear ht
  try clear hi
  go_enter Try.func41, Try.ntmps41
  go_wp2_with (first
    | (go_at_call 69; refine (I.out _).mono ?_; rintro e w1 ⟨rfl, hb⟩; (replace HB := hid (HB.out.trans (hb.mono HR.out.bs)); replace HY := hid (HY.out.below hb); replace HZ := hid (HZ.out.below hb); replace HR := hid (HR.out.below hb); obtain ⟨c5, c6, c12, f5, f6, hr⟩ := (HR.out.facts : RFacts _ r s.kind s.n s.passed); obtain ⟨y0, y1, y2, y3, y4, ysz⟩ := HY.out; obtain ⟨z0, z1, zsz⟩ := HZ.out; clear hb))
    | (go_at_call 71; refine (P.out _ HR.out).mono ?_; rintro e w2 ⟨rfl, ho, hR⟩; replace HB := hid (below_only HB.out ho HR.out.bs (by simp; exact hbase.out.2 _ (by omega) (by omega))); replace HR := hid hR; clear ho hR))
  exact bodyPost_end (v := .tuple #[]) (by simp [results, Try.results41, go_sem]) rfl ⟨rfl, HB.out, V, HR.out⟩
set_option maxHeartbeats 400000 in
theorem step_5n (B r : Nat) (b c : Nat → Nat) (s : Rs) (V : Value) (kd ar at_ nn : Int) (w : World) (h : RAt w B r b c s V) (hk : StepOk s ⟨5, kd, ar, at_, nn⟩) (hi : isB s = false) :
    Calls Try.prog 41 #[.pointer (some ⟨r, 0, none⟩), .agg #[.int .i64 5, .int .i64 kd, .int .i64 ar, .int .i64 at_, .int .i64 nn]] w fun e w' => e = .returned (.tuple #[]) ∧ Below B w w' ∧ ∃ V', RAt w' B r b c (stepS s ⟨5, kd, ar, at_, nn⟩) V' := by
  obtain ⟨k0, k1, k2, k3, k4, k5, k6, k7, k8, k9, k10, k11⟩ := hk
  simp only at k0 k1 k2 k3 k4 k5 k6
  have hbase := h.base
  have hrw := h.lt
  have hBw := h.bs
  have hA : Below w.heap.size w ((w.alloc (.cells #[.int .i64 5, .int .i64 kd, .int .i64 ar, .int .i64 at_, .int .i64 nn] 46)).alloc (.cells #[.int .i64 s.kind, .int .i64 s.n] 72)) := (by repeat (first | exact Below.refl _ _ | assumption | (with_reducible refine below_alloc' ?_ _) | (with_reducible refine below_drew' ?_) | (with_reducible refine below_drewN' ?_ _) | (with_reducible refine below_setCell' ?_ (by first | omega | (simp; omega) | (simp; done)) _) | (refine below_then' ?_ (by assumption))))
  have HB := hid (hA.mono hBw)
  have HR := hid (h.below hA)
  have HY := hid ((BoxAt.new w 5 kd ar at_ nn).below (Below.alloc1 _ (.cells #[.int .i64 s.kind, .int .i64 s.n] 72)))
  have HZ : Hid (ResAt ((w.alloc (.cells #[.int .i64 5, .int .i64 kd, .int .i64 ar, .int .i64 at_, .int .i64 nn] 46)).alloc (.cells #[.int .i64 s.kind, .int .i64 s.n] 72)) (w.heap.size + 1) s.kind s.n) := hid (by have := ResAt.new (w.alloc (.cells #[.int .i64 5, .int .i64 kd, .int .i64 ar, .int .i64 at_, .int .i64 nn] 46)) s.kind s.n; rw [World.size_alloc] at this; exact this)
  obtain ⟨c5, c6, c12, f5, f6, hr⟩ := (h.facts : RFacts _ r s.kind s.n s.passed)
  have hk2 := k2 (by omega)
  have P := hid fun W (hR : RAt W B r b c s V) => rput_any B r b c s V ar at_ 1 1 W hR hk2 k1
  have I := hid fun W => value_is s.kind s.n W
  rw [show decide (s.n = 1) = false from hi] at I
  have eS : stepS s ⟨5, kd, ar, at_, nn⟩ = s := by simp [stepS, hi]
  rw [eS]
  clear h hA k2 k3 k6 eS
  replace hbase := hid hbase
  try clear hv
  try clear hu
  try clear ht
  try clear hi
  go_enter Try.func41, Try.ntmps41
  go_wp2_with (first
    | (go_at_call 69; refine (I.out _).mono ?_; rintro e w1 ⟨rfl, hb⟩; (replace HB := hid (HB.out.trans (hb.mono HR.out.bs)); replace HY := hid (HY.out.below hb); replace HZ := hid (HZ.out.below hb); replace HR := hid (HR.out.below hb); obtain ⟨c5, c6, c12, f5, f6, hr⟩ := (HR.out.facts : RFacts _ r s.kind s.n s.passed); obtain ⟨y0, y1, y2, y3, y4, ysz⟩ := HY.out; obtain ⟨z0, z1, zsz⟩ := HZ.out; clear hb))
    | (go_at_call 71; refine (P.out _ HR.out).mono ?_; rintro e w2 ⟨rfl, ho, hR⟩; replace HB := hid (below_only HB.out ho HR.out.bs (by simp; exact hbase.out.2 _ (by omega) (by omega))); replace HR := hid hR; clear ho hR))
  exact bodyPost_end (v := .tuple #[]) (by simp [results, Try.results41, go_sem]) rfl ⟨rfl, HB.out, V, HR.out⟩
set_option maxHeartbeats 400000 in
theorem step_6y (B r : Nat) (b c : Nat → Nat) (s : Rs) (V : Value) (kd ar at_ nn : Int) (w : World) (h : RAt w B r b c s V) (hk : StepOk s ⟨6, kd, ar, at_, nn⟩) (hi : isB s = true) :
    Calls Try.prog 41 #[.pointer (some ⟨r, 0, none⟩), .agg #[.int .i64 6, .int .i64 kd, .int .i64 ar, .int .i64 at_, .int .i64 nn]] w fun e w' => e = .returned (.tuple #[]) ∧ Below B w w' ∧ ∃ V', RAt w' B r b c (stepS s ⟨6, kd, ar, at_, nn⟩) V' := by
  obtain ⟨k0, k1, k2, k3, k4, k5, k6, k7, k8, k9, k10, k11⟩ := hk
  simp only at k0 k1 k2 k3 k4 k5 k6
  have hbase := h.base
  have hrw := h.lt
  have hBw := h.bs
  have hA : Below w.heap.size w ((w.alloc (.cells #[.int .i64 6, .int .i64 kd, .int .i64 ar, .int .i64 at_, .int .i64 nn] 46)).alloc (.cells #[.int .i64 s.kind, .int .i64 s.n] 72)) := (by repeat (first | exact Below.refl _ _ | assumption | (with_reducible refine below_alloc' ?_ _) | (with_reducible refine below_drew' ?_) | (with_reducible refine below_drewN' ?_ _) | (with_reducible refine below_setCell' ?_ (by first | omega | (simp; omega) | (simp; done)) _) | (refine below_then' ?_ (by assumption))))
  have HB := hid (hA.mono hBw)
  have HR := hid (h.below hA)
  have HY := hid ((BoxAt.new w 6 kd ar at_ nn).below (Below.alloc1 _ (.cells #[.int .i64 s.kind, .int .i64 s.n] 72)))
  have HZ : Hid (ResAt ((w.alloc (.cells #[.int .i64 6, .int .i64 kd, .int .i64 ar, .int .i64 at_, .int .i64 nn] 46)).alloc (.cells #[.int .i64 s.kind, .int .i64 s.n] 72)) (w.heap.size + 1) s.kind s.n) := hid (by have := ResAt.new (w.alloc (.cells #[.int .i64 6, .int .i64 kd, .int .i64 ar, .int .i64 at_, .int .i64 nn] 46)) s.kind s.n; rw [World.size_alloc] at this; exact this)
  obtain ⟨c5, c6, c12, f5, f6, hr⟩ := (h.facts : RFacts _ r s.kind s.n s.passed)
  have hk2 := k2 (by omega)
  have P := hid fun W (hR : RAt W B r b c s V) => rput_any B r b c s V ar at_ 1 0 W hR hk2 k1
  have I := hid fun W => value_is s.kind s.n W
  rw [show decide (s.n = 1) = true from hi] at I
  have eS : stepS s ⟨6, kd, ar, at_, nn⟩ = putS s ar at_ 1 0 := by simp [stepS, hi]
  rw [eS]
  clear h hA k2 k3 k6 eS
  replace hbase := hid hbase
  try clear hv
  try clear hu
  try clear ht
  try clear hi
  go_enter Try.func41, Try.ntmps41
  go_wp2_with (first
    | (go_at_call 69; refine (I.out _).mono ?_; rintro e w1 ⟨rfl, hb⟩; (replace HB := hid (HB.out.trans (hb.mono HR.out.bs)); replace HY := hid (HY.out.below hb); replace HZ := hid (HZ.out.below hb); replace HR := hid (HR.out.below hb); obtain ⟨c5, c6, c12, f5, f6, hr⟩ := (HR.out.facts : RFacts _ r s.kind s.n s.passed); obtain ⟨y0, y1, y2, y3, y4, ysz⟩ := HY.out; obtain ⟨z0, z1, zsz⟩ := HZ.out; clear hb))
    | (go_at_call 71; refine (P.out _ HR.out).mono ?_; rintro e w2 ⟨rfl, ho, hR⟩; replace HB := hid (below_only HB.out ho HR.out.bs (by simp; exact hbase.out.2 _ (by omega) (by omega))); replace HR := hid hR; clear ho hR))
  exact bodyPost_end (v := .tuple #[]) (by simp [results, Try.results41, go_sem]) rfl ⟨rfl, HB.out, V, HR.out⟩
set_option maxHeartbeats 400000 in
theorem step_6n (B r : Nat) (b c : Nat → Nat) (s : Rs) (V : Value) (kd ar at_ nn : Int) (w : World) (h : RAt w B r b c s V) (hk : StepOk s ⟨6, kd, ar, at_, nn⟩) (hi : isB s = false) :
    Calls Try.prog 41 #[.pointer (some ⟨r, 0, none⟩), .agg #[.int .i64 6, .int .i64 kd, .int .i64 ar, .int .i64 at_, .int .i64 nn]] w fun e w' => e = .returned (.tuple #[]) ∧ Below B w w' ∧ ∃ V', RAt w' B r b c (stepS s ⟨6, kd, ar, at_, nn⟩) V' := by
  obtain ⟨k0, k1, k2, k3, k4, k5, k6, k7, k8, k9, k10, k11⟩ := hk
  simp only at k0 k1 k2 k3 k4 k5 k6
  have hbase := h.base
  have hrw := h.lt
  have hBw := h.bs
  have hA : Below w.heap.size w ((w.alloc (.cells #[.int .i64 6, .int .i64 kd, .int .i64 ar, .int .i64 at_, .int .i64 nn] 46)).alloc (.cells #[.int .i64 s.kind, .int .i64 s.n] 72)) := (by repeat (first | exact Below.refl _ _ | assumption | (with_reducible refine below_alloc' ?_ _) | (with_reducible refine below_drew' ?_) | (with_reducible refine below_drewN' ?_ _) | (with_reducible refine below_setCell' ?_ (by first | omega | (simp; omega) | (simp; done)) _) | (refine below_then' ?_ (by assumption))))
  have HB := hid (hA.mono hBw)
  have HR := hid (h.below hA)
  have HY := hid ((BoxAt.new w 6 kd ar at_ nn).below (Below.alloc1 _ (.cells #[.int .i64 s.kind, .int .i64 s.n] 72)))
  have HZ : Hid (ResAt ((w.alloc (.cells #[.int .i64 6, .int .i64 kd, .int .i64 ar, .int .i64 at_, .int .i64 nn] 46)).alloc (.cells #[.int .i64 s.kind, .int .i64 s.n] 72)) (w.heap.size + 1) s.kind s.n) := hid (by have := ResAt.new (w.alloc (.cells #[.int .i64 6, .int .i64 kd, .int .i64 ar, .int .i64 at_, .int .i64 nn] 46)) s.kind s.n; rw [World.size_alloc] at this; exact this)
  obtain ⟨c5, c6, c12, f5, f6, hr⟩ := (h.facts : RFacts _ r s.kind s.n s.passed)
  have hk2 := k2 (by omega)
  have P := hid fun W (hR : RAt W B r b c s V) => rput_any B r b c s V ar at_ 1 0 W hR hk2 k1
  have I := hid fun W => value_is s.kind s.n W
  rw [show decide (s.n = 1) = false from hi] at I
  have eS : stepS s ⟨6, kd, ar, at_, nn⟩ = s := by simp [stepS, hi]
  rw [eS]
  clear h hA k2 k3 k6 eS
  replace hbase := hid hbase
  try clear hv
  try clear hu
  try clear ht
  try clear hi
  go_enter Try.func41, Try.ntmps41
  go_wp2_with (first
    | (go_at_call 69; refine (I.out _).mono ?_; rintro e w1 ⟨rfl, hb⟩; (replace HB := hid (HB.out.trans (hb.mono HR.out.bs)); replace HY := hid (HY.out.below hb); replace HZ := hid (HZ.out.below hb); replace HR := hid (HR.out.below hb); obtain ⟨c5, c6, c12, f5, f6, hr⟩ := (HR.out.facts : RFacts _ r s.kind s.n s.passed); obtain ⟨y0, y1, y2, y3, y4, ysz⟩ := HY.out; obtain ⟨z0, z1, zsz⟩ := HZ.out; clear hb))
    | (go_at_call 71; refine (P.out _ HR.out).mono ?_; rintro e w2 ⟨rfl, ho, hR⟩; replace HB := hid (below_only HB.out ho HR.out.bs (by simp; exact hbase.out.2 _ (by omega) (by omega))); replace HR := hid hR; clear ho hR))
  exact bodyPost_end (v := .tuple #[]) (by simp [results, Try.results41, go_sem]) rfl ⟨rfl, HB.out, V, HR.out⟩
set_option maxHeartbeats 400000 in
theorem step_13 (B r : Nat) (b c : Nat → Nat) (s : Rs) (V : Value) (kd ar at_ nn : Int) (w : World) (h : RAt w B r b c s V) (hk : StepOk s ⟨13, kd, ar, at_, nn⟩) :
    Calls Try.prog 41 #[.pointer (some ⟨r, 0, none⟩), .agg #[.int .i64 13, .int .i64 kd, .int .i64 ar, .int .i64 at_, .int .i64 nn]] w fun e w' => e = .returned (.tuple #[]) ∧ Below B w w' ∧ ∃ V', RAt w' B r b c (stepS s ⟨13, kd, ar, at_, nn⟩) V' := by
  obtain ⟨k0, k1, k2, k3, k4, k5, k6, k7, k8, k9, k10, k11⟩ := hk
  simp only at k0 k1 k2 k3 k4 k5 k6
  have hbase := h.base
  have hrw := h.lt
  have hBw := h.bs
  have hA : Below w.heap.size w ((w.alloc (.cells #[.int .i64 13, .int .i64 kd, .int .i64 ar, .int .i64 at_, .int .i64 nn] 46)).alloc (.cells #[.int .i64 s.kind, .int .i64 s.n] 72)) := (by repeat (first | exact Below.refl _ _ | assumption | (with_reducible refine below_alloc' ?_ _) | (with_reducible refine below_drew' ?_) | (with_reducible refine below_drewN' ?_ _) | (with_reducible refine below_setCell' ?_ (by first | omega | (simp; omega) | (simp; done)) _) | (refine below_then' ?_ (by assumption))))
  have HB := hid (hA.mono hBw)
  have HR := hid (h.below hA)
  have HY := hid ((BoxAt.new w 13 kd ar at_ nn).below (Below.alloc1 _ (.cells #[.int .i64 s.kind, .int .i64 s.n] 72)))
  have HZ : Hid (ResAt ((w.alloc (.cells #[.int .i64 13, .int .i64 kd, .int .i64 ar, .int .i64 at_, .int .i64 nn] 46)).alloc (.cells #[.int .i64 s.kind, .int .i64 s.n] 72)) (w.heap.size + 1) s.kind s.n) := hid (by have := ResAt.new (w.alloc (.cells #[.int .i64 13, .int .i64 kd, .int .i64 ar, .int .i64 at_, .int .i64 nn] 46)) s.kind s.n; rw [World.size_alloc] at this; exact this)
  obtain ⟨c5, c6, c12, f5, f6, hr⟩ := (h.facts : RFacts _ r s.kind s.n s.passed)
  have N := hid fun W => not_any s.kind s.n W
  obtain ⟨u, hu⟩ : ∃ u, u = notK s.kind s.n := ⟨_, rfl⟩
  rw [← hu] at N
  have eS : stepS s ⟨13, kd, ar, at_, nn⟩ = { s with n := u } := by rw [hu]; simp [stepS]
  rw [eS]
  clear h hA k2 k3 k6 eS
  replace hbase := hid hbase
  try clear hv
  try clear hu
  try clear ht
  try clear hi
  go_enter Try.func41, Try.ntmps41
  go_wp2_with (first
    | (go_at_call 55; refine (N.out _).mono ?_; rintro e w1 ⟨rfl, hb⟩; (replace HB := hid (HB.out.trans (hb.mono HR.out.bs)); replace HY := hid (HY.out.below hb); replace HZ := hid (HZ.out.below hb); replace HR := hid (HR.out.below hb); obtain ⟨c5, c6, c12, f5, f6, hr⟩ := (HR.out.facts : RFacts _ r s.kind s.n s.passed); obtain ⟨y0, y1, y2, y3, y4, ysz⟩ := HY.out; obtain ⟨z0, z1, zsz⟩ := HZ.out; clear hb)))
  exact bodyPost_end (v := .tuple #[]) (by simp [results, Try.results41, go_sem]) rfl ⟨rfl, HB.out.setCell (by simp; exact hbase.out.1) _, V, HR.out.set (s' := { s with n := u }) ((Only.refl [r] _).setCell (by simp) _) (heap_setCell_same HR.out.blk 6 _) rfl rfl⟩
set_option maxHeartbeats 400000 in
theorem step_31 (B r : Nat) (b c : Nat → Nat) (s : Rs) (V : Value) (kd ar at_ nn : Int) (w : World) (h : RAt w B r b c s V) (hk : StepOk s ⟨31, kd, ar, at_, nn⟩) :
    Calls Try.prog 41 #[.pointer (some ⟨r, 0, none⟩), .agg #[.int .i64 31, .int .i64 kd, .int .i64 ar, .int .i64 at_, .int .i64 nn]] w fun e w' => e = .returned (.tuple #[]) ∧ Below B w w' ∧ ∃ V', RAt w' B r b c (stepS s ⟨31, kd, ar, at_, nn⟩) V' := by
  obtain ⟨k0, k1, k2, k3, k4, k5, k6, k7, k8, k9, k10, k11⟩ := hk
  simp only at k0 k1 k2 k3 k4 k5 k6
  have hbase := h.base
  have hrw := h.lt
  have hBw := h.bs
  have hA : Below w.heap.size w ((w.alloc (.cells #[.int .i64 31, .int .i64 kd, .int .i64 ar, .int .i64 at_, .int .i64 nn] 46)).alloc (.cells #[.int .i64 s.kind, .int .i64 s.n] 72)) := (by repeat (first | exact Below.refl _ _ | assumption | (with_reducible refine below_alloc' ?_ _) | (with_reducible refine below_drew' ?_) | (with_reducible refine below_drewN' ?_ _) | (with_reducible refine below_setCell' ?_ (by first | omega | (simp; omega) | (simp; done)) _) | (refine below_then' ?_ (by assumption))))
  have HB := hid (hA.mono hBw)
  have HR := hid (h.below hA)
  have HY := hid ((BoxAt.new w 31 kd ar at_ nn).below (Below.alloc1 _ (.cells #[.int .i64 s.kind, .int .i64 s.n] 72)))
  have HZ : Hid (ResAt ((w.alloc (.cells #[.int .i64 31, .int .i64 kd, .int .i64 ar, .int .i64 at_, .int .i64 nn] 46)).alloc (.cells #[.int .i64 s.kind, .int .i64 s.n] 72)) (w.heap.size + 1) s.kind s.n) := hid (by have := ResAt.new (w.alloc (.cells #[.int .i64 31, .int .i64 kd, .int .i64 ar, .int .i64 at_, .int .i64 nn] 46)) s.kind s.n; rw [World.size_alloc] at this; exact this)
  obtain ⟨c5, c6, c12, f5, f6, hr⟩ := (h.facts : RFacts _ r s.kind s.n s.passed)
  have N := hid fun W => wrap_any kd s.n W
  obtain ⟨u, hu⟩ : ∃ u, u = wrapK kd s.n := ⟨_, rfl⟩
  rw [← hu] at N
  have eS : stepS s ⟨31, kd, ar, at_, nn⟩ = { s with kind := kd, n := u } := by rw [hu]; simp [stepS]
  rw [eS]
  clear h hA k2 k3 k6 eS
  replace hbase := hid hbase
  try clear hv
  try clear hu
  try clear ht
  try clear hi
  go_enter Try.func41, Try.ntmps41
  go_wp2_with (first
    | (go_at_call 70; fail))
  obtain ⟨W, hW⟩ : ∃ W, W = ((w.alloc (.cells #[.int .i64 31, .int .i64 kd, .int .i64 ar, .int .i64 at_, .int .i64 nn] 46)).alloc (.cells #[.int .i64 s.kind, .int .i64 s.n] 72)) := ⟨_, rfl⟩
  try rw [← hW] at hid2
  rw [← hW] at HB HR HY HZ ⊢
  clear hW
  obtain ⟨c5, c6, c12, f5, f6, hr⟩ := (HR.out.facts : RFacts _ r s.kind s.n s.passed)
  obtain ⟨y0, y1, y2, y3, y4, ysz⟩ := HY.out
  obtain ⟨z0, z1, zsz⟩ := HZ.out
  (refine quiet_tail (fun X => Below (W).heap.size (W) X) 11 (by kernel_rfl) (by kernel_rfl) (Below.refl _ _).drew ?_; simp only [List.take_succ_cons, List.take_zero, List.drop_succ_cons, List.drop_zero]; (repeat (first | go_big_quiet_skip | (go_big_quiet_want; first | (go_big_quiet_op; go_big_quiet_on) | (apply Exists.intro; refine ⟨fun X hX => ?_, ?_⟩; · (have hbq := (bcell hX).1; (try simp only [World.size_alloc, World.size_setCell, World.size_drew] at hbq); unfold Oper.quietAt; go_simp; first | done | rfl | exact ⟨rfl, rfl⟩ | (go_at_call 72; refine (N.out _).mono ?_; rintro e w' ⟨rfl, hb'⟩; exact ⟨rfl, hX.trans (hb'.mono hX.size)⟩))); go_big_quiet_on; simp only [Act.put, List.setIfInBounds_toArray, List.set_cons_zero, List.set_cons_succ]))); refine wpQuiet_nil ?_; intro X hX)
  have hb : Below W.heap.size W X := hX
  clear hX
  (replace HB := hid (HB.out.trans (hb.mono HR.out.bs)); replace HY := hid (HY.out.below hb); replace HZ := hid (HZ.out.below hb); replace HR := hid (HR.out.below hb); obtain ⟨c5, c6, c12, f5, f6, hr⟩ := (HR.out.facts : RFacts _ r s.kind s.n s.passed); obtain ⟨y0, y1, y2, y3, y4, ysz⟩ := HY.out; obtain ⟨z0, z1, zsz⟩ := HZ.out; clear hb)
  go_wp2
  exact bodyPost_end (v := .tuple #[]) (by simp [results, Try.results41, go_sem]) rfl ⟨rfl, (HB.out.setCell (by simp; exact hbase.out.1) _).setCell (by simp; exact hbase.out.1) _, _, HR.out.setRes kd u⟩
set_option maxHeartbeats 400000 in
theorem step_34 (B r : Nat) (b c : Nat → Nat) (s : Rs) (V : Value) (kd ar at_ nn : Int) (w : World) (h : RAt w B r b c s V) (hk : StepOk s ⟨34, kd, ar, at_, nn⟩) :
    Calls Try.prog 41 #[.pointer (some ⟨r, 0, none⟩), .agg #[.int .i64 34, .int .i64 kd, .int .i64 ar, .int .i64 at_, .int .i64 nn]] w fun e w' => e = .returned (.tuple #[]) ∧ Below B w w' ∧ ∃ V', RAt w' B r b c (stepS s ⟨34, kd, ar, at_, nn⟩) V' := by
  obtain ⟨k0, k1, k2, k3, k4, k5, k6, k7, k8, k9, k10, k11⟩ := hk
  simp only at k0 k1 k2 k3 k4 k5 k6
  have hbase := h.base
  have hrw := h.lt
  have hBw := h.bs
  have hA : Below w.heap.size w ((w.alloc (.cells #[.int .i64 34, .int .i64 kd, .int .i64 ar, .int .i64 at_, .int .i64 nn] 46)).alloc (.cells #[.int .i64 s.kind, .int .i64 s.n] 72)) := (by repeat (first | exact Below.refl _ _ | assumption | (with_reducible refine below_alloc' ?_ _) | (with_reducible refine below_drew' ?_) | (with_reducible refine below_drewN' ?_ _) | (with_reducible refine below_setCell' ?_ (by first | omega | (simp; omega) | (simp; done)) _) | (refine below_then' ?_ (by assumption))))
  have HB := hid (hA.mono hBw)
  have HR := hid (h.below hA)
  have HY := hid ((BoxAt.new w 34 kd ar at_ nn).below (Below.alloc1 _ (.cells #[.int .i64 s.kind, .int .i64 s.n] 72)))
  have HZ : Hid (ResAt ((w.alloc (.cells #[.int .i64 34, .int .i64 kd, .int .i64 ar, .int .i64 at_, .int .i64 nn] 46)).alloc (.cells #[.int .i64 s.kind, .int .i64 s.n] 72)) (w.heap.size + 1) s.kind s.n) := hid (by have := ResAt.new (w.alloc (.cells #[.int .i64 34, .int .i64 kd, .int .i64 ar, .int .i64 at_, .int .i64 nn] 46)) s.kind s.n; rw [World.size_alloc] at this; exact this)
  obtain ⟨c5, c6, c12, f5, f6, hr⟩ := (h.facts : RFacts _ r s.kind s.n s.passed)
  have hk2 := k2 (by omega)
  have hk3 := k3 (by omega)
  have P := hid fun W (hR : RAt W B r b c s V) => timer_any B r b c s V ⟨34, kd, ar, at_, nn⟩ W hR hk2 k1 k10 k11 k4 k5
  simp only [Ins.val] at P
  have eS : stepS s ⟨34, kd, ar, at_, nn⟩ = timerS s ⟨34, kd, ar, at_, nn⟩ := by simp [stepS]
  rw [eS]
  clear h hA k2 k3 k6 eS
  replace hbase := hid hbase
  try clear hv
  try clear hu
  try clear ht
  try clear hi
  go_enter Try.func41, Try.ntmps41
  go_wp2_with (first
    | (go_at_call 74; refine (P.out _ HR.out).mono ?_; rintro e w2 ⟨rfl, ho, hR⟩; replace HB := hid (below_only HB.out ho HR.out.bs (by simp; exact ⟨hbase.out.1, hbase.out.2 _ (by omega) (by omega)⟩)); replace HR := hid hR; clear ho hR))
  exact bodyPost_end (v := .tuple #[]) (by simp [results, Try.results41, go_sem]) rfl ⟨rfl, HB.out, V, HR.out⟩
set_option maxHeartbeats 400000 in
theorem step_35 (B r : Nat) (b c : Nat → Nat) (s : Rs) (V : Value) (kd ar at_ nn : Int) (w : World) (h : RAt w B r b c s V) (hk : StepOk s ⟨35, kd, ar, at_, nn⟩) :
    Calls Try.prog 41 #[.pointer (some ⟨r, 0, none⟩), .agg #[.int .i64 35, .int .i64 kd, .int .i64 ar, .int .i64 at_, .int .i64 nn]] w fun e w' => e = .returned (.tuple #[]) ∧ Below B w w' ∧ ∃ V', RAt w' B r b c (stepS s ⟨35, kd, ar, at_, nn⟩) V' := by
  obtain ⟨k0, k1, k2, k3, k4, k5, k6, k7, k8, k9, k10, k11⟩ := hk
  simp only at k0 k1 k2 k3 k4 k5 k6
  have hbase := h.base
  have hrw := h.lt
  have hBw := h.bs
  have hA : Below w.heap.size w ((w.alloc (.cells #[.int .i64 35, .int .i64 kd, .int .i64 ar, .int .i64 at_, .int .i64 nn] 46)).alloc (.cells #[.int .i64 s.kind, .int .i64 s.n] 72)) := (by repeat (first | exact Below.refl _ _ | assumption | (with_reducible refine below_alloc' ?_ _) | (with_reducible refine below_drew' ?_) | (with_reducible refine below_drewN' ?_ _) | (with_reducible refine below_setCell' ?_ (by first | omega | (simp; omega) | (simp; done)) _) | (refine below_then' ?_ (by assumption))))
  have HB := hid (hA.mono hBw)
  have HR := hid (h.below hA)
  have HY := hid ((BoxAt.new w 35 kd ar at_ nn).below (Below.alloc1 _ (.cells #[.int .i64 s.kind, .int .i64 s.n] 72)))
  have HZ : Hid (ResAt ((w.alloc (.cells #[.int .i64 35, .int .i64 kd, .int .i64 ar, .int .i64 at_, .int .i64 nn] 46)).alloc (.cells #[.int .i64 s.kind, .int .i64 s.n] 72)) (w.heap.size + 1) s.kind s.n) := hid (by have := ResAt.new (w.alloc (.cells #[.int .i64 35, .int .i64 kd, .int .i64 ar, .int .i64 at_, .int .i64 nn] 46)) s.kind s.n; rw [World.size_alloc] at this; exact this)
  obtain ⟨c5, c6, c12, f5, f6, hr⟩ := (h.facts : RFacts _ r s.kind s.n s.passed)
  have hk2 := k2 (by omega)
  have hk3 := k3 (by omega)
  have P := hid fun W (hR : RAt W B r b c s V) => counter_any B r b c s V ⟨35, kd, ar, at_, nn⟩ W hR hk2 k1 hk3.1 hk3.2 k4 k5
  simp only [Ins.val] at P
  have eS : stepS s ⟨35, kd, ar, at_, nn⟩ = counterS s ⟨35, kd, ar, at_, nn⟩ := by simp [stepS]
  rw [eS]
  clear h hA k2 k3 k6 eS
  replace hbase := hid hbase
  try clear hv
  try clear hu
  try clear ht
  try clear hi
  go_enter Try.func41, Try.ntmps41
  go_wp2_with (first
    | (go_at_call 75; refine (P.out _ HR.out).mono ?_; rintro e w2 ⟨rfl, ho, hR⟩; replace HB := hid (below_only HB.out ho HR.out.bs (by simp; exact ⟨hbase.out.1, hbase.out.2 _ (by omega) (by omega)⟩)); replace HR := hid hR; clear ho hR))
  exact bodyPost_end (v := .tuple #[]) (by simp [results, Try.results41, go_sem]) rfl ⟨rfl, HB.out, V, HR.out⟩
set_option maxHeartbeats 400000 in
theorem step_36 (B r : Nat) (b c : Nat → Nat) (s : Rs) (V : Value) (kd ar at_ nn : Int) (w : World) (h : RAt w B r b c s V) (hk : StepOk s ⟨36, kd, ar, at_, nn⟩) :
    Calls Try.prog 41 #[.pointer (some ⟨r, 0, none⟩), .agg #[.int .i64 36, .int .i64 kd, .int .i64 ar, .int .i64 at_, .int .i64 nn]] w fun e w' => e = .returned (.tuple #[]) ∧ Below B w w' ∧ ∃ V', RAt w' B r b c (stepS s ⟨36, kd, ar, at_, nn⟩) V' := by
  obtain ⟨k0, k1, k2, k3, k4, k5, k6, k7, k8, k9, k10, k11⟩ := hk
  simp only at k0 k1 k2 k3 k4 k5 k6
  have hbase := h.base
  have hrw := h.lt
  have hBw := h.bs
  have hA : Below w.heap.size w ((w.alloc (.cells #[.int .i64 36, .int .i64 kd, .int .i64 ar, .int .i64 at_, .int .i64 nn] 46)).alloc (.cells #[.int .i64 s.kind, .int .i64 s.n] 72)) := (by repeat (first | exact Below.refl _ _ | assumption | (with_reducible refine below_alloc' ?_ _) | (with_reducible refine below_drew' ?_) | (with_reducible refine below_drewN' ?_ _) | (with_reducible refine below_setCell' ?_ (by first | omega | (simp; omega) | (simp; done)) _) | (refine below_then' ?_ (by assumption))))
  have HB := hid (hA.mono hBw)
  have HR := hid (h.below hA)
  have HY := hid ((BoxAt.new w 36 kd ar at_ nn).below (Below.alloc1 _ (.cells #[.int .i64 s.kind, .int .i64 s.n] 72)))
  have HZ : Hid (ResAt ((w.alloc (.cells #[.int .i64 36, .int .i64 kd, .int .i64 ar, .int .i64 at_, .int .i64 nn] 46)).alloc (.cells #[.int .i64 s.kind, .int .i64 s.n] 72)) (w.heap.size + 1) s.kind s.n) := hid (by have := ResAt.new (w.alloc (.cells #[.int .i64 36, .int .i64 kd, .int .i64 ar, .int .i64 at_, .int .i64 nn] 46)) s.kind s.n; rw [World.size_alloc] at this; exact this)
  obtain ⟨c5, c6, c12, f5, f6, hr⟩ := (h.facts : RFacts _ r s.kind s.n s.passed)
  have hk2 := k2 (by omega)
  obtain ⟨t, ht⟩ : ∃ t, t = risesB s ar at_ := ⟨_, rfl⟩
  have P := hid fun W (hR : RAt W B r b c s V) => rises_any B r b c s V ar at_ W hR hk2 k1
  rw [← ht] at P
  have T := hid fun W => truth_any t W
  have eS : stepS s ⟨36, kd, ar, at_, nn⟩ = { putS s ar at_ 1 s.n with kind := 1, n := truthN t } := by rw [ht]; simp [stepS]
  rw [eS]
  clear h hA k2 k3 k6 eS
  replace hbase := hid hbase
  try clear hv
  try clear hu
  try clear ht
  try clear hi
  go_enter Try.func41, Try.ntmps41
  go_wp2_with (first
    | (go_at_call 77; refine (P.out _ HR.out).mono ?_; rintro e w2 ⟨rfl, ho, hR⟩; replace HB := hid (below_only HB.out ho HR.out.bs (by simp; exact hbase.out.2 _ (by omega) (by omega))); replace HR := hid hR; clear ho hR)
    | (go_at_call 76; refine (T.out _).mono ?_; rintro e w3 ⟨rfl, hb⟩; replace HB := hid (HB.out.trans (hb.mono HR.out.bs)); replace HR := hid (HR.out.below hb); obtain ⟨c5, c6, c12, f5, f6, hr⟩ := (HR.out.facts : RFacts _ r s.kind s.n s.passed); clear hb))
  exact bodyPost_end (v := .tuple #[]) (by simp [results, Try.results41, go_sem]) rfl ⟨rfl, (HB.out.setCell (by simp; exact hbase.out.1) _).setCell (by simp; exact hbase.out.1) _, _, HR.out.setRes 1 (truthN t)⟩
set_option maxHeartbeats 400000 in
theorem step_do (B r : Nat) (b c : Nat → Nat) (s : Rs) (V : Value) (op kd ar at_ nn : Int) (w : World) (h : RAt w B r b c s V) (hk : StepOk s ⟨op, kd, ar, at_, nn⟩) (q1 : op ≠ 1) (q2 : op ≠ 2) (q3 : op ≠ 3) (q4 : op ≠ 4) (q5 : op ≠ 5) (q6 : op ≠ 6) (q13 : op ≠ 13) (q31 : op ≠ 31) (q32 : op ≠ 32) (q33 : op ≠ 33) (q34 : op ≠ 34) (q35 : op ≠ 35) (q36 : op ≠ 36) :
    Calls Try.prog 41 #[.pointer (some ⟨r, 0, none⟩), .agg #[.int .i64 op, .int .i64 kd, .int .i64 ar, .int .i64 at_, .int .i64 nn]] w fun e w' => e = .returned (.tuple #[]) ∧ Below B w w' ∧ ∃ V', RAt w' B r b c (stepS s ⟨op, kd, ar, at_, nn⟩) V' := by
  obtain ⟨k0, k1, k2, k3, k4, k5, k6, k7, k8, k9, k10, k11⟩ := hk
  simp only at k0 k1 k2 k3 k4 k5 k6
  have hbase := h.base
  have hrw := h.lt
  have hBw := h.bs
  have hA : Below w.heap.size w ((w.alloc (.cells #[.int .i64 op, .int .i64 kd, .int .i64 ar, .int .i64 at_, .int .i64 nn] 46)).alloc (.cells #[.int .i64 s.kind, .int .i64 s.n] 72)) := (by repeat (first | exact Below.refl _ _ | assumption | (with_reducible refine below_alloc' ?_ _) | (with_reducible refine below_drew' ?_) | (with_reducible refine below_drewN' ?_ _) | (with_reducible refine below_setCell' ?_ (by first | omega | (simp; omega) | (simp; done)) _) | (refine below_then' ?_ (by assumption))))
  have HB := hid (hA.mono hBw)
  have HR := hid (h.below hA)
  have HY := hid ((BoxAt.new w op kd ar at_ nn).below (Below.alloc1 _ (.cells #[.int .i64 s.kind, .int .i64 s.n] 72)))
  have HZ : Hid (ResAt ((w.alloc (.cells #[.int .i64 op, .int .i64 kd, .int .i64 ar, .int .i64 at_, .int .i64 nn] 46)).alloc (.cells #[.int .i64 s.kind, .int .i64 s.n] 72)) (w.heap.size + 1) s.kind s.n) := hid (by have := ResAt.new (w.alloc (.cells #[.int .i64 op, .int .i64 kd, .int .i64 ar, .int .i64 at_, .int .i64 nn] 46)) s.kind s.n; rw [World.size_alloc] at this; exact this)
  obtain ⟨c5, c6, c12, f5, f6, hr⟩ := (h.facts : RFacts _ r s.kind s.n s.passed)
  have e1 : (op == 1) = false := by simp [q1]
  have e2 : (op == 2) = false := by simp [q2]
  have e3 : (op == 3) = false := by simp [q3]
  have e4 : (op == 4) = false := by simp [q4]
  have e5 : (op == 5) = false := by simp [q5]
  have e6 : (op == 6) = false := by simp [q6]
  have e13 : (op == 13) = false := by simp [q13]
  have e31 : (op == 31) = false := by simp [q31]
  have e32 : (op == 32) = false := by simp [q32]
  have e33 : (op == 33) = false := by simp [q33]
  have e34 : (op == 34) = false := by simp [q34]
  have e35 : (op == 35) = false := by simp [q35]
  have e36 : (op == 36) = false := by simp [q36]
  have O := hid fun W (hR : RAt W B r b c s V) => operand_any B r b c s V ⟨op, kd, ar, at_, nn⟩ W hR k0 k1
  simp only [Ins.val] at O
  obtain ⟨v, hv⟩ : ∃ v, v = operandS s ⟨op, kd, ar, at_, nn⟩ := ⟨_, rfl⟩
  rw [← hv] at O
  have D := hid fun W (hR : RAt W B r b c s V) => rdo_any B r b c s V op s.kind s.n v W hR k8 k9
  have eS : stepS s ⟨op, kd, ar, at_, nn⟩ = doS s op s.kind s.n v := by rw [hv]; simp [stepS, q1, q2, q3, q4, q5, q6, q13, q31, q32, q33, q34, q35, q36]
  rw [eS]
  clear h hA k2 k3 k6 eS
  replace hbase := hid hbase
  try clear hv
  try clear hu
  try clear ht
  try clear hi
  go_enter Try.func41, Try.ntmps41
  go_wp2_with (first
    | (go_at_call 70; fail))
  obtain ⟨W, hW⟩ : ∃ W, W = ((w.alloc (.cells #[.int .i64 op, .int .i64 kd, .int .i64 ar, .int .i64 at_, .int .i64 nn] 46)).alloc (.cells #[.int .i64 s.kind, .int .i64 s.n] 72)) := ⟨_, rfl⟩
  try rw [← hW] at hid2
  rw [← hW] at HB HR HY HZ ⊢
  clear hW
  obtain ⟨c5, c6, c12, f5, f6, hr⟩ := (HR.out.facts : RFacts _ r s.kind s.n s.passed)
  obtain ⟨y0, y1, y2, y3, y4, ysz⟩ := HY.out
  obtain ⟨z0, z1, zsz⟩ := HZ.out
  (refine quiet_tail (fun X => Below (W).heap.size (W) X) 7 (by kernel_rfl) (by kernel_rfl) (Below.refl _ _).drew ?_; simp only [List.take_succ_cons, List.take_zero, List.drop_succ_cons, List.drop_zero]; (repeat (first | go_big_quiet_skip | (go_big_quiet_want; first | (go_big_quiet_op; go_big_quiet_on) | (apply Exists.intro; refine ⟨fun X hX => ?_, ?_⟩; · (have hbq := (bcell hX).1; (try simp only [World.size_alloc, World.size_setCell, World.size_drew] at hbq); unfold Oper.quietAt; go_simp; first | done | rfl | exact ⟨rfl, rfl⟩ | (go_at_call 70; refine (O.out _ (HR.out.below hX)).mono ?_; rintro e w' ⟨rfl, hb'⟩; exact ⟨rfl, hX.trans (hb'.mono hX.size)⟩))); go_big_quiet_on; simp only [Act.put, List.setIfInBounds_toArray, List.set_cons_zero, List.set_cons_succ]))); refine wpQuiet_nil ?_; intro X hX)
  have hb : Below W.heap.size W X := hX
  clear hX
  (replace HB := hid (HB.out.trans (hb.mono HR.out.bs)); replace HY := hid (HY.out.below hb); replace HZ := hid (HZ.out.below hb); replace HR := hid (HR.out.below hb); obtain ⟨c5, c6, c12, f5, f6, hr⟩ := (HR.out.facts : RFacts _ r s.kind s.n s.passed); obtain ⟨y0, y1, y2, y3, y4, ysz⟩ := HY.out; obtain ⟨z0, z1, zsz⟩ := HZ.out; clear hb)
  go_wp2_with (first
    | (go_at_call 73; refine (D.out _ HR.out).mono ?_; rintro e w2 ⟨rfl, ho, hR⟩; replace HB := hid (below_only HB.out ho HR.out.bs (by simp; exact hbase.out.1)); replace HR := hid hR; clear ho hR))
  exact bodyPost_end (v := .tuple #[]) (by simp [results, Try.results41, go_sem]) rfl ⟨rfl, HB.out, V, HR.out⟩
end Go.Proofs.Ytkhnalboodkddaa
