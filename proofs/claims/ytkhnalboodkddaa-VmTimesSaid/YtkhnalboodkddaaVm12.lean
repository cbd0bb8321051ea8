import Derived.Test.YtkhnalboodkddaaVm11
set_option linter.unusedSimpArgs false
set_option linter.unusedVariables false
set_option maxRecDepth 100000
namespace Go.Proofs.Ytkhnalboodkddaa
open Go.RowKit
theorem step_any (B r : Nat) (b c : Nat → Nat) (s : Rs) (V : Value) (i : Ins) (w : World) (h : RAt w B r b c s V) (hk : StepOk s i) :
    Calls Try.prog 41 #[.pointer (some ⟨r, 0, none⟩), i.val] w fun e w' => e = .returned (.tuple #[]) ∧ Below B w w' ∧ ∃ V', RAt w' B r b c (stepS s i) V' := by
  obtain ⟨op, kd, ar, at_, nn⟩ := i
  simp only [Ins.val]
  by_cases q1 : op = 1
  · subst q1; exact step_1 B r b c s V kd ar at_ nn w h hk
  by_cases q2 : op = 2
  · subst q2; exact step_2 B r b c s V kd ar at_ nn w h hk
  by_cases q3 : op = 3
  · subst q3; exact step_3 B r b c s V kd ar at_ nn w h hk
  by_cases q4 : op = 4
  · subst q4; exact step_4 B r b c s V kd ar at_ nn w h hk
  by_cases q5 : op = 5
  · subst q5
    cases hi : isB s
    · exact step_5n B r b c s V kd ar at_ nn w h hk hi
    · exact step_5y B r b c s V kd ar at_ nn w h hk hi
  by_cases q6 : op = 6
  · subst q6
    cases hi : isB s
    · exact step_6n B r b c s V kd ar at_ nn w h hk hi
    · exact step_6y B r b c s V kd ar at_ nn w h hk hi
  by_cases q13 : op = 13
  · subst q13; exact step_13 B r b c s V kd ar at_ nn w h hk
  by_cases q31 : op = 31
  · subst q31; exact step_31 B r b c s V kd ar at_ nn w h hk
  by_cases q32 : op = 32
  · subst q32; exact step_32 B r b c s V kd ar at_ nn w h hk
  by_cases q33 : op = 33
  · subst q33; exact step_33 B r b c s V kd ar at_ nn w h hk
  by_cases q34 : op = 34
  · subst q34; exact step_34 B r b c s V kd ar at_ nn w h hk
  by_cases q35 : op = 35
  · subst q35; exact step_35 B r b c s V kd ar at_ nn w h hk
  by_cases q36 : op = 36
  · subst q36; exact step_36 B r b c s V kd ar at_ nn w h hk
  exact step_do B r b c s V op kd ar at_ nn w h hk q1 q2 q3 q4 q5 q6 q13 q31 q32 q33 q34 q35 q36
/-- One more instruction is told. -/
def tick (s : Rs) : Rs := { s with steps := s.steps + 1 }
instance stepDec (s : Rs) (i : Ins) : Decidable (StepOk s i) :=
  decidable_of_iff (0 ≤ i.area ∧ i.area ≤ 4 ∧ (3 ≤ i.op ∧ i.op ≤ 6 ∨ 34 ≤ i.op ∧ i.op ≤ 36 → 1 ≤ i.area) ∧ (34 ≤ i.op ∧ i.op ≤ 36 → 0 ≤ i.at_ ∧ i.at_ ≤ 1000) ∧ -9223372036854775808 ≤ i.n ∧ i.n ≤ 9223372036854775807 ∧ (i.op = 33 → s.op ≠ []) ∧ s.op.length ≤ 1000 ∧ 0 ≤ s.zero ∧ s.zero ≤ 1048576 ∧ 0 ≤ s.passed ∧ s.passed ≤ 10000)
    ⟨fun ⟨a, b, c, d, e, f, g, h, i, j, k, l⟩ => ⟨a, b, c, d, e, f, g, h, i, j, k, l⟩, fun ⟨a, b, c, d, e, f, g, h, i, j, k, l⟩ => ⟨a, b, c, d, e, f, g, h, i, j, k, l⟩⟩
/-- A run from an instruction on, with so many rounds; none: stuck. -/
def goS (code : List Ins) : Nat → Nat → Rs → Option Rs
  | 0, _, _ => none
  | f + 1, k, s =>
    if code.length ≤ k then some s else
    let i := code.getD k ⟨0, 0, 0, 0, 0⟩
    if 25 ≤ i.op ∧ i.op ≤ 27 then
      (if leavesB (tick s) i.op = true then (if (k : Int) < i.at_ ∧ i.at_ ≤ code.length then goS code f i.at_.toNat (tick s) else none) else goS code f (k + 1) (tick s))
    else if 28 ≤ i.op ∧ i.op ≤ 30 then (if leavesB (tick s) i.op = true then some (tick s) else goS code f (k + 1) (tick s))
    else if StepOk (tick s) i then goS code f (k + 1) (stepS (tick s) i) else none
theorem putS_steps (s : Rs) (a b c d : Int) : (putS s a b c d).steps = s.steps := rfl
theorem counterS_steps (s : Rs) (i : Ins) : (counterS s i).steps = s.steps := by
  unfold counterS
  show (if risesB s i.area (i.at_ + 4) = true then putS (putS s i.area (i.at_ + 4) 1 s.n) i.area i.at_ 7 (counterN s i) else putS s i.area (i.at_ + 4) 1 s.n).steps = _
  split <;> rfl
theorem steps_ite {p : Prop} [Decidable p] {a b : Rs} {x : Int} (h1 : a.steps = x) (h2 : b.steps = x) : (if p then a else b).steps = x := by
  split <;> assumption
theorem stepS_steps (s : Rs) (i : Ins) : (stepS s i).steps = s.steps := by
  unfold stepS
  repeat' (with_reducible refine steps_ite ?_ ?_)
  all_goals first | rfl | exact counterS_steps s i
theorem RAt.tick {w : World} {B r : Nat} {b c : Nat → Nat} {s : Rs} {V : Value} (h : RAt w B r b c s V) : RAt (w.setCell ⟨r, 8, none⟩ (.int .i64 (s.steps + 1))) B r b c (tick s) V :=
  h.set ((Only.refl [r] w).setCell (by simp) _) (heap_setCell_same h.blk 8 _) rfl rfl
set_option maxHeartbeats 1000000 in
theorem rall_any (B r : Nat) (b c : Nat → Nat) (s s' : Rs) (V : Value) (A : Option Addr) (n cp f : Nat) (code : List Ins) (w : World) (h : RAt w B r b c s V) (hn : n = code.length) (hmax : n ≤ 1048576)
    (hc : ∀ W, Below B w W → InsAt W A code) (h0 : s.steps = 0) (hg : goS code f 0 s = some s') :
    Calls Try.prog 28 #[.pointer (some ⟨r, 0, none⟩), .slice A n cp] w fun e w' => e = .returned (.tuple #[]) ∧ Below B w w' ∧ ∃ V', RAt w' B r b c s' V' := by
  have HN := hid hn
  have HC := hid hc
  have H := hid h
  have H0 := hid h0
  have HG := hid hg
  clear h hn hc h0 hg
  go_enter Try.func28, Try.ntmps28
  go_wp2
  go_loopw [4] (fun i wr => ∃ (k g : Nat) (t : Rs) (U : Value), k ≤ n ∧ i = .int .i64 k ∧ RAt wr B r b c t U ∧ Below B w wr ∧ 0 ≤ t.steps ∧ t.steps ≤ k ∧ goS code g k t = some s') (fun i _ => n - (intOf i).toNat)
  case atStart => exact ⟨0, f, s, V, by omega, rfl, H.out, Below.refl _ _, by rw [H0.out]; omega, by rw [H0.out]; omega, HG.out⟩
  case round =>
    obtain ⟨k, g, t, U, hk, rfl, hR, hB, s0, s1, hgo⟩ := hrel
    obtain ⟨g, rfl⟩ : ∃ g', g = g' + 1 := by
      cases g with
      | zero => simp [goS] at hgo
      | succ g => exact ⟨g, rfl⟩
    rw [goS] at hgo
    by_cases hlt : k < n
    · rw [if_neg (by rw [← HN.out]; omega)] at hgo
      have hkc : k < code.length := by rw [← HN.out]; exact hlt
      obtain ⟨bb, o, rfl, hbl, hcells⟩ := (HC.out _ hB) (by intro e; subst e; simp at hkc)
      obtain ⟨x0, x1, x2, x3, x4⟩ := hcells k hkc
      clear hcells
      generalize hi : code.getD k ⟨0, 0, 0, 0, 0⟩ = ins at *
      clear hi
      obtain ⟨op, kd, ar, at_, nn⟩ := ins
      simp only at x0 x1 x2 x3 x4 hgo
      rw [← HN.out] at hgo
      have hrw := hR.lt
      have hrw2 : r < wr.heap.size + 1 := by omega
      have c8 := hR.c8
      have f8 := hR.free 8
      have hbase := hid hR.base
      have hbs := hR.bs
      have hA := Below.alloc1 (wr.setCell ⟨r, 8, none⟩ (.int .i64 (t.steps + 1))) (.cells #[.int .i64 op, .int .i64 kd, .int .i64 ar, .int .i64 at_, .int .i64 nn] 46)
      have HR := hid ((hR.tick).below hA)
      have HB := hid ((hB.setCell (p := ⟨r, 8, none⟩) (by simp; exact hbase.out.1) (.int .i64 (t.steps + 1))).trans (hA.mono (by simp; exact hbs)))
      have HY : Hid (BoxAt ((wr.setCell ⟨r, 8, none⟩ (.int .i64 (t.steps + 1))).alloc (.cells #[.int .i64 op, .int .i64 kd, .int .i64 ar, .int .i64 at_, .int .i64 nn] 46)) wr.heap.size ⟨op, kd, ar, at_, nn⟩) := hid (by have := BoxAt.new (wr.setCell ⟨r, 8, none⟩ (.int .i64 (t.steps + 1))) op kd ar at_ nn; rw [World.size_setCell] at this; exact this)
      have hst : (tick t).steps = t.steps + 1 := rfl
      have HST := hid hst
      have L := hid fun W (hR : RAt W B r b c (tick t) U) => leaves_any B r b c (tick t) U op W hR
      have HGO := hid hgo
      clear hgo hR hB hA hst
      by_cases hj : 25 ≤ op ∧ op ≤ 27
      · obtain ⟨j1, j2⟩ := hj
        have HGO2 := HGO.out
        rw [if_pos ⟨j1, j2⟩] at HGO2
        cases hl : leavesB (tick t) op
        · rw [hl] at L HGO2
          simp only [Bool.false_eq_true, if_false] at HGO2
          replace HGO := hid HGO2
          clear HGO2 hl
          go_wp2_with (go_at_call 40; refine (L.out _ HR.out).mono ?_; rintro e w1 ⟨rfl, hb⟩)
          go_roundw
          case rel => exact ⟨k + 1, g, tick t, U, by omega, by go_num, HR.out.below hb, HB.out.trans (hb.mono HR.out.bs), by rw [HST.out]; omega, by rw [HST.out]; omega, HGO.out⟩
          case measure => simp [intOf]; omega
        · rw [hl] at L HGO2
          simp only [if_true] at HGO2
          by_cases ht : (k : Int) < at_ ∧ at_ ≤ n
          · rw [if_pos ht] at HGO2
            replace HGO := hid HGO2
            obtain ⟨t1, t2⟩ := ht
            clear HGO2 hl
            go_wp2_with (go_at_call 40; refine (L.out _ HR.out).mono ?_; rintro e w1 ⟨rfl, hb⟩; have y3 := (HY.out.below hb).2.2.2.1)
            go_roundw
            case rel => exact ⟨at_.toNat, g, tick t, U, by omega, by rw [Int.toNat_of_nonneg (by omega)], HR.out.below hb, HB.out.trans (hb.mono HR.out.bs), by rw [HST.out]; omega, by rw [HST.out]; omega, HGO.out⟩
            case measure => simp [intOf]; omega
          · rw [if_neg ht] at HGO2
            cases HGO2
      · by_cases hr : 28 ≤ op ∧ op ≤ 30
        · obtain ⟨j1, j2⟩ := hr
          have HGO2 := HGO.out
          rw [if_neg hj, if_pos ⟨j1, j2⟩] at HGO2
          clear hj
          have j3 : 25 ≤ op := by omega
          have j4 : 27 < op := by omega
          cases hl : leavesB (tick t) op
          · rw [hl] at L HGO2
            simp only [Bool.false_eq_true, if_false] at HGO2
            replace HGO := hid HGO2
            clear HGO2 hl
            go_wp2_with (go_at_call 40; refine (L.out _ HR.out).mono ?_; rintro e w1 ⟨rfl, hb⟩)
            go_roundw
            case rel => exact ⟨k + 1, g, tick t, U, by omega, by go_num, HR.out.below hb, HB.out.trans (hb.mono HR.out.bs), by rw [HST.out]; omega, by rw [HST.out]; omega, HGO.out⟩
            case measure => simp [intOf]; omega
          · rw [hl] at L HGO2
            simp only [if_true] at HGO2
            injection HGO2 with HGO2
            replace HGO := hid HGO2
            clear HGO2 hl
            go_wp2_with (go_at_call 40; refine (L.out _ HR.out).mono ?_; rintro e w1 ⟨rfl, hb⟩)
            refine bodyPost_ret (v := .tuple #[]) (by simp [results, Try.results28, go_sem]) rfl ⟨rfl, HB.out.trans (hb.mono HR.out.bs), U, ?_⟩
            rw [← HGO.out]
            exact HR.out.below hb
        · have HGO2 := HGO.out
          rw [if_neg hj, if_neg hr] at HGO2
          by_cases hok : StepOk (tick t) ⟨op, kd, ar, at_, nn⟩
          · rw [if_pos hok] at HGO2
            have HST2 : (stepS (tick t) ⟨op, kd, ar, at_, nn⟩).steps = t.steps + 1 := stepS_steps _ _
            have S := hid fun W (hR : RAt W B r b c (tick t) U) => step_any B r b c (tick t) U ⟨op, kd, ar, at_, nn⟩ W hR hok
            simp only [Ins.val] at S
            replace HGO := hid HGO2
            replace HST := hid HST2
            clear HGO2 HST2 hok L
            have hjb : op < 25 ∨ 27 < op ∧ op < 28 ∨ 30 < op := by omega
            clear hj hr
            rcases hjb with hj | hj | hj
            · have hj1 : op < 28 := by omega
              go_wp2_with (go_at_call 41; refine (S.out _ HR.out).mono ?_; rintro e w1 ⟨rfl, hb, U', hR'⟩)
              go_roundw
              case rel => exact ⟨k + 1, g, _, U', by omega, by go_num, hR', HB.out.trans hb, by rw [HST.out]; omega, by rw [HST.out]; omega, HGO.out⟩
              case measure => simp [intOf]; omega
            · omega
            · have hj1 : 27 < op := by omega
              have hj2 : 25 ≤ op := by omega
              have hj3 : 28 ≤ op := by omega
              go_wp2_with (go_at_call 41; refine (S.out _ HR.out).mono ?_; rintro e w1 ⟨rfl, hb, U', hR'⟩)
              go_roundw
              case rel => exact ⟨k + 1, g, _, U', by omega, by go_num, hR', HB.out.trans hb, by rw [HST.out]; omega, by rw [HST.out]; omega, HGO.out⟩
              case measure => simp [intOf]; omega
          · rw [if_neg hok] at HGO2
            cases HGO2
    · rw [if_pos (by rw [← HN.out]; omega)] at hgo
      injection hgo with hgo
      replace HG := hid hgo
      clear hgo
      have HR := hid hR
      have HB := hid hB
      clear hR hB
      go_wp2
      refine bodyPost_end (v := .tuple #[]) (by simp [results, Try.results28, go_sem]) rfl ⟨rfl, HB.out, U, ?_⟩
      rw [← HG.out]
      exact HR.out
end Go.Proofs.Ytkhnalboodkddaa
