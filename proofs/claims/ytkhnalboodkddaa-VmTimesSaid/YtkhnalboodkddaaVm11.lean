import Derived.Test.YtkhnalboodkddaaVm10
set_option linter.unusedSimpArgs false
set_option linter.unusedVariables false
set_option maxRecDepth 100000
namespace Go.Proofs.Ytkhnalboodkddaa
open Go.RowKit
set_option maxHeartbeats 400000 in
theorem step_33 (B r : Nat) (b c : Nat → Nat) (s : Rs) (V : Value) (kd ar at_ nn : Int) (w : World) (h : RAt w B r b c s V) (hk : StepOk s ⟨33, kd, ar, at_, nn⟩) :
    Calls Try.prog 41 #[.pointer (some ⟨r, 0, none⟩), .agg #[.int .i64 33, .int .i64 kd, .int .i64 ar, .int .i64 at_, .int .i64 nn]] w fun e w' => e = .returned (.tuple #[]) ∧ Below B w w' ∧ ∃ V', RAt w' B r b c (stepS s ⟨33, kd, ar, at_, nn⟩) V' := by
  obtain ⟨k0, k1, k2, k3, k4, k5, k6, k7, k8, k9, k10, k11⟩ := hk
  simp only at k0 k1 k2 k3 k4 k5 k6
  have hbase := h.base
  have hrw := h.lt
  have hBw := h.bs
  have hA : Below w.heap.size w ((w.alloc (.cells #[.int .i64 33, .int .i64 kd, .int .i64 ar, .int .i64 at_, .int .i64 nn] 46)).alloc (.cells #[.int .i64 s.kind, .int .i64 s.n] 72)) := (by repeat (first | exact Below.refl _ _ | assumption | (with_reducible refine below_alloc' ?_ _) | (with_reducible refine below_drew' ?_) | (with_reducible refine below_drewN' ?_ _) | (with_reducible refine below_setCell' ?_ (by first | omega | (simp; omega) | (simp; done)) _) | (refine below_then' ?_ (by assumption))))
  have HB := hid (hA.mono hBw)
  have HR := hid (h.below hA)
  have HY := hid ((BoxAt.new w 33 kd ar at_ nn).below (Below.alloc1 _ (.cells #[.int .i64 s.kind, .int .i64 s.n] 72)))
  have HZ : Hid (ResAt ((w.alloc (.cells #[.int .i64 33, .int .i64 kd, .int .i64 ar, .int .i64 at_, .int .i64 nn] 46)).alloc (.cells #[.int .i64 s.kind, .int .i64 s.n] 72)) (w.heap.size + 1) s.kind s.n) := hid (by have := ResAt.new (w.alloc (.cells #[.int .i64 33, .int .i64 kd, .int .i64 ar, .int .i64 at_, .int .i64 nn] 46)) s.kind s.n; rw [World.size_alloc] at this; exact this)
  obtain ⟨c5, c6, c12, f5, f6, hr⟩ := (h.facts : RFacts _ r s.kind s.n s.passed)
  obtain ⟨m, hm⟩ : ∃ m, s.op.length = m + 1 := ⟨s.op.length - 1, by have := List.length_pos_iff.2 (k6 (by trivial)); omega⟩
  obtain ⟨g, cap1, x0, x1, x2, hV1, hx, d0, d1, d2, hgr, hcap⟩ := h.last m hm
  subst hV1
  have hgw := (h.own.lt g rfl).2
  have HX := hid hx
  have HM := hid hm
  rw [hm] at k7
  have hw1 : IntKind.i64.wrap ((m : Int) + 1 - 1) = m := by simp only [IntKind.wrap, IntKind.bits, IntKind.signed]; simp; omega
  have hw2 : IntKind.i64.wrap (m : Int) = m := by simp only [IntKind.wrap, IntKind.bits, IntKind.signed]; simp; omega
  have hi0 : (0 : Int) ≤ (m : Int) := by omega
  have hi1 : (m : Int) < (m : Int) + 1 := by omega
  have hi2 : (m : Int) ≤ (cap1 : Int) := by omega
  have hi3 : m ≤ cap1 := by omega
  have hid2 := hid hA
  clear hx hm
  have eS : stepS s ⟨33, kd, ar, at_, nn⟩ = doS { s with op := s.op.take (s.op.length - 1) } (lastBk s.op).1 (lastBk s.op).2.1 (lastBk s.op).2.2 s.n := by simp [stepS]
  rw [eS]
  clear h hA k2 k3 k6 eS
  replace hbase := hid hbase
  try clear hv
  try clear hu
  try clear ht
  try clear hi
  go_enter Try.func41, Try.ntmps41
  go_wp2_with (first
    | (go_at_call 70; fail))
  obtain ⟨W, hW⟩ : ∃ W, W = ((w.alloc (.cells #[.int .i64 33, .int .i64 kd, .int .i64 ar, .int .i64 at_, .int .i64 nn] 46)).alloc (.cells #[.int .i64 s.kind, .int .i64 s.n] 72)) := ⟨_, rfl⟩
  try rw [← hW] at hid2
  rw [← hW] at HB HR HY HZ ⊢
  clear hW
  obtain ⟨c5, c6, c12, f5, f6, hr⟩ := (HR.out.facts : RFacts _ r s.kind s.n s.passed)
  obtain ⟨y0, y1, y2, y3, y4, ysz⟩ := HY.out
  obtain ⟨z0, z1, zsz⟩ := HZ.out
  have c7 := HR.out.c7
  have hA2 : Below w.heap.size w W := hid2.out
  have dd0 := (hA2.cell (p := ⟨g, m * 3, none⟩) hgw).trans d0
  have dd1 := (hA2.cell (p := ⟨g, m * 3 + 1, none⟩) hgw).trans d1
  have dd2 := (hA2.cell (p := ⟨g, m * 3 + 2, none⟩) hgw).trans d2
  clear d0 d1 d2
  go_region_held3 (fun w' => w'.cell? ⟨r, 7, none⟩ = some (.slice (some ⟨g, 0, none⟩) (m + 1) cap1) ∧ w'.cell? ⟨g, m * 3, none⟩ = some (.int .i64 x0) ∧ w'.cell? ⟨g, m * 3 + 1, none⟩ = some (.int .i64 x1) ∧ w'.cell? ⟨g, m * 3 + 2, none⟩ = some (.int .i64 x2))(first | go_keep | exact ⟨by assumption, by assumption, by assumption, by assumption⟩) (fail)
  obtain ⟨Y, hY⟩ : ∃ Y, Y = (W.alloc (.cells #[.int .i64 x0, .int .i64 x1, .int .i64 x2] 135)).drew := ⟨_, rfl⟩
  have hWY : Below W.heap.size W Y := by subst hY; exact (by repeat (first | exact Below.refl _ _ | assumption | (with_reducible refine below_alloc' ?_ _) | (with_reducible refine below_drew' ?_) | (with_reducible refine below_drewN' ?_ _) | (with_reducible refine below_setCell' ?_ (by first | omega | (simp; omega) | (simp; done)) _) | (refine below_then' ?_ (by assumption))))
  have t0 : Y.cell? ⟨W.heap.size, 0, none⟩ = some (.int .i64 x0) := by subst hY; simp [go_sem]
  have t1 : Y.cell? ⟨W.heap.size, 1, none⟩ = some (.int .i64 x1) := by subst hY; simp [go_sem]
  have t2 : Y.cell? ⟨W.heap.size, 2, none⟩ = some (.int .i64 x2) := by subst hY; simp [go_sem]
  have tsz : W.heap.size < Y.heap.size := by subst hY; simp
  rw [← hY]
  clear hY
  have hb := hWY
  (replace HB := hid (HB.out.trans (hb.mono HR.out.bs)); replace HY := hid (HY.out.below hb); replace HZ := hid (HZ.out.below hb); replace HR := hid (HR.out.below hb); obtain ⟨c5, c6, c12, f5, f6, hr⟩ := (HR.out.facts : RFacts _ r s.kind s.n s.passed); obtain ⟨y0, y1, y2, y3, y4, ysz⟩ := HY.out; obtain ⟨z0, z1, zsz⟩ := HZ.out; clear hb)
  have c7 := HR.out.c7
  have f7 := HR.out.free 7
  go_wp2
  (refine quiet_tail (fun X => Below (Y).heap.size (Y) X) 14 (by kernel_rfl) (by kernel_rfl) (Below.refl _ _).drew ?_; simp only [List.take_succ_cons, List.take_zero, List.drop_succ_cons, List.drop_zero]; (repeat (first | go_big_quiet_skip | (go_big_quiet_want; first | (go_big_quiet_op; go_big_quiet_on) | (apply Exists.intro; refine ⟨fun X hX => ?_, ?_⟩; · (have hbq := (bcell hX).1; (try simp only [World.size_alloc, World.size_setCell, World.size_drew] at hbq); unfold Oper.quietAt; go_simp; first | done | rfl | exact ⟨rfl, rfl⟩ | fail)); go_big_quiet_on; simp only [Act.put, List.setIfInBounds_toArray, List.set_cons_zero, List.set_cons_succ]))); refine wpQuiet_nil ?_; intro X hX)
  have hb : Below Y.heap.size Y X := hX
  have t0 := (hb.cell (p := ⟨W.heap.size, 0, none⟩) tsz).trans t0
  have t1 := (hb.cell (p := ⟨W.heap.size, 1, none⟩) tsz).trans t1
  have t2 := (hb.cell (p := ⟨W.heap.size, 2, none⟩) tsz).trans t2
  clear hX
  (replace HB := hid (HB.out.trans (hb.mono HR.out.bs)); replace HY := hid (HY.out.below hb); replace HZ := hid (HZ.out.below hb); replace HR := hid (HR.out.below hb); obtain ⟨c5, c6, c12, f5, f6, hr⟩ := (HR.out.facts : RFacts _ r s.kind s.n s.passed); obtain ⟨y0, y1, y2, y3, y4, ysz⟩ := HY.out; obtain ⟨z0, z1, zsz⟩ := HZ.out; clear hb)
  have c7 := HR.out.c7
  have f7 := HR.out.free 7
  have hp := hid (HR.out.pop HM.out)
  have D := hid (rdo_any B r b c { s with op := s.op.take m } (.slice (some ⟨g, 0, none⟩) m cap1) x0 x1 x2 s.n _ hp.out k8 k9)
  go_wp2_with (first
    | (go_at_call 73; refine D.out.mono ?_; rintro e w2 ⟨rfl, ho, hR⟩; replace HB := hid (below_only (HB.out.setCell (by simp; exact hbase.out.1) _) ho (by simp; exact HR.out.bs) (by simp; exact hbase.out.1)); replace HR := hid hR; clear ho hR))
  have hfin := HR.out
  refine bodyPost_end (v := .tuple #[]) (by simp [results, Try.results41, go_sem]) rfl ⟨rfl, HB.out, (.slice (some ⟨g, 0, none⟩) m cap1), (by rw [HX.out, HM.out]; exact hfin)⟩
end Go.Proofs.Ytkhnalboodkddaa
