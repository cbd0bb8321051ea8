import Derived.Test.YtkhnalboodkddaaVm9
import Derived.Deep.RegionLaw
import Derived.BigRegion
set_option linter.unusedSimpArgs false
set_option linter.unusedVariables false
set_option maxRecDepth 100000
namespace Go.Proofs.Ytkhnalboodkddaa
open Go.RowKit
set_option maxHeartbeats 3000000 in
theorem step_32 (B r : Nat) (b c : Nat → Nat) (s : Rs) (V : Value) (kd ar at_ nn : Int) (w : World) (h : RAt w B r b c s V) (hk : StepOk s ⟨32, kd, ar, at_, nn⟩) :
    Calls Try.prog 41 #[.pointer (some ⟨r, 0, none⟩), .agg #[.int .i64 32, .int .i64 kd, .int .i64 ar, .int .i64 at_, .int .i64 nn]] w fun e w' => e = .returned (.tuple #[]) ∧ Below B w w' ∧ ∃ V', RAt w' B r b c (stepS s ⟨32, kd, ar, at_, nn⟩) V' := by
  obtain ⟨k0, k1, k2, k3, k4, k5, k6, k7, k8, k9, k10, k11⟩ := hk
  simp only at k0 k1 k2 k3 k4 k5 k6
  have hbase := h.base
  have hrw := h.lt
  have hBw := h.bs
  have hA : Below w.heap.size w ((w.alloc (.cells #[.int .i64 32, .int .i64 kd, .int .i64 ar, .int .i64 at_, .int .i64 nn] 46)).alloc (.cells #[.int .i64 s.kind, .int .i64 s.n] 72)) := (by repeat (first | exact Below.refl _ _ | assumption | (with_reducible refine below_alloc' ?_ _) | (with_reducible refine below_drew' ?_) | (with_reducible refine below_drewN' ?_ _) | (with_reducible refine below_setCell' ?_ (by first | omega | (simp; omega) | (simp; done)) _) | (refine below_then' ?_ (by assumption))))
  have HB := hid (hA.mono hBw)
  have HR := hid (h.below hA)
  have HY := hid ((BoxAt.new w 32 kd ar at_ nn).below (Below.alloc1 _ (.cells #[.int .i64 s.kind, .int .i64 s.n] 72)))
  have HZ : Hid (ResAt ((w.alloc (.cells #[.int .i64 32, .int .i64 kd, .int .i64 ar, .int .i64 at_, .int .i64 nn] 46)).alloc (.cells #[.int .i64 s.kind, .int .i64 s.n] 72)) (w.heap.size + 1) s.kind s.n) := hid (by have := ResAt.new (w.alloc (.cells #[.int .i64 32, .int .i64 kd, .int .i64 ar, .int .i64 at_, .int .i64 nn] 46)) s.kind s.n; rw [World.size_alloc] at this; exact this)
  obtain ⟨c5, c6, c12, f5, f6, hr⟩ := (h.facts : RFacts _ r s.kind s.n s.passed)
  obtain ⟨A1, cap1, hV1⟩ := own_form h.own
  subst hV1
  obtain ⟨i0, hi, hz0, hz1, hz2⟩ := info_parts info_bk
  have HI := hid hi
  have HZI := hid (And.intro hz0 (And.intro hz1 hz2))
  have hV := hid (fun g (hg : (Value.slice A1 s.op.length cap1).ownBlock = some g) => (h.own.lt g hg).2)
  clear hi hz0 hz1 hz2
  have eS : stepS s ⟨32, kd, ar, at_, nn⟩ = { s with op := s.op ++ [(at_, s.kind, s.n)], kind := 0, n := 0 } := by simp [stepS]
  rw [eS]
  clear h hA k2 k3 k6 eS
  replace hbase := hid hbase
  try clear hv
  try clear hu
  try clear ht
  try clear hi
  go_enter Try.func41, Try.ntmps41
  go_wp2_with (first
    | (go_at_call 70; fail))
  obtain ⟨W, hW⟩ : ∃ W, W = ((w.alloc (.cells #[.int .i64 32, .int .i64 kd, .int .i64 ar, .int .i64 at_, .int .i64 nn] 46)).alloc (.cells #[.int .i64 s.kind, .int .i64 s.n] 72)) := ⟨_, rfl⟩
  try rw [← hW] at hid2
  rw [← hW] at HB HR HY HZ ⊢
  clear hW
  obtain ⟨c5, c6, c12, f5, f6, hr⟩ := (HR.out.facts : RFacts _ r s.kind s.n s.passed)
  obtain ⟨y0, y1, y2, y3, y4, ysz⟩ := HY.out
  obtain ⟨z0, z1, zsz⟩ := HZ.out
  have c7 := HR.out.c7
  have f7 := HR.out.free 7
  go_region_law
    (first
      | (refine step_append_own rfl (.tmp 116) (.tmp 121) 73 rfl B 135 i0 _ 3 24 Try.underlying73 HI.out HZI.out.1 HZI.out.2.1 HZI.out.2.2 rfl (by decide) (.slice A1 s.op.length cap1) s.op.length (bkCells s.op) (by simp [Act.eval, Act.put]) (HR.out.below (by repeat (first | exact Below.refl _ _ | assumption | (with_reducible refine below_alloc' ?_ _) | (with_reducible refine below_drew' ?_) | (with_reducible refine below_drewN' ?_ _) | (with_reducible refine below_setCell' ?_ (by first | omega | (simp; omega) | (simp; done)) _) | (refine below_then' ?_ (by assumption))))).own ⟨W.heap.size, 0, none⟩ 1 1 [.int .i64 at_, .int .i64 s.kind, .int .i64 s.n] (by simp [Act.eval, Act.put]) rfl (World.news_of_block (cs := #[.int .i64 at_, .int .i64 s.kind, .int .i64 s.n]) (t := 135) (fr := (0, 0)) (heap_new W _)) (by intro u hu; simp at hu; rcases hu with rfl | rfl | rfl <;> rfl) (by unfold maxLen; omega) (by omega) (by simp; have := HR.out.bs; omega) ?_; intro V2 w2 hown hg; obtain ⟨A2, cap2, rfl⟩ := own_form hown; have ho : Only (Value.slice A1 s.op.length cap1).ownBlock.toList W w2 := ((Only.refl _ W).alloc _).drew.then_ (only_of_grown hg); have m0 : r ∉ (Value.slice A1 s.op.length cap1).ownBlock.toList := (fun hm => (HR.out.sep r (by simpa using hm)).1 rfl); have m1 : w.heap.size ∉ (Value.slice A1 s.op.length cap1).ownBlock.toList := (fun hm => by have := hV.out _ (by simpa using hm); omega); have m2 : w.heap.size + 1 ∉ (Value.slice A1 s.op.length cap1).ownBlock.toList := (fun hm => by have := hV.out _ (by simpa using hm); omega); have k7 : w2.cell? ⟨r, 7, none⟩ = some (.slice A1 s.op.length cap1) := (ho.cell hr m0 7).trans c7; have k5 : w2.cell? ⟨r, 5, none⟩ = some (.int .i64 s.kind) := (ho.cell hr m0 5).trans c5; have k6 : w2.cell? ⟨r, 6, none⟩ = some (.int .i64 s.n) := (ho.cell hr m0 6).trans c6; have kf7 : w2.frozen? ⟨r, 7, none⟩ = false := (ho.frozen hr m0 7).trans f7; have kf5 : w2.frozen? ⟨r, 5, none⟩ = false := (ho.frozen hr m0 5).trans f5; have kf6 : w2.frozen? ⟨r, 6, none⟩ = false := (ho.frozen hr m0 6).trans f6; have ky : w2.cell? ⟨w.heap.size, 3, none⟩ = some (.int .i64 at_) := (ho.cell ysz m1 3).trans y3; have kz0 : w2.cell? ⟨w.heap.size + 1, 0, none⟩ = some (.int .i64 s.kind) := (ho.cell zsz m2 0).trans z0; have kz1 : w2.cell? ⟨w.heap.size + 1, 1, none⟩ = some (.int .i64 s.n) := (ho.cell zsz m2 1).trans z1; have hr2 : r < w2.heap.size := Nat.lt_of_lt_of_le hr ho.size; have HO := hid ho; have HW := hid hown; clear ho hown hg m0 m1 m2))
  all_goals
    go_wp2
    have hp := HR.out.push HO.out (at_, s.kind, s.n) (by have := HW.out; rw [bkCells_snoc s.op (at_, s.kind, s.n)] at this; simpa using this)
    refine bodyPost_end (v := .tuple #[]) (by simp [results, Try.results41, go_sem]) rfl ⟨rfl, ?_, _, hp.setRes 0 0⟩
    exact (((below_only HB.out HO.out HR.out.bs (by intro x hx; exact (HR.out.own.lt x (by simpa using hx)).1)).setCell (by simp; exact hbase.out.1) _).setCell (by simp; exact hbase.out.1) _).setCell (by simp; exact hbase.out.1) _
end Go.Proofs.Ytkhnalboodkddaa
