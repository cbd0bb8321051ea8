import Derived.Test.YtkhnalboodkddaaVer5
import Derived.Test.YtkhnalboodkddaaQTail
set_option linter.unusedSimpArgs false
set_option linter.unusedVariables false
set_option maxRecDepth 100000
namespace Go.Proofs.Ytkhnalboodkddaa
open Go.RowKit
theorem behind_1 (kind : Int) (A : Option Addr) (n c : Nat) (kd ar at_ nn : Int) (l : List Br) (w : World) (hn : n = l.length) (hc1 : l.length ≤ c) (hc2 : c ≤ 9223372036854775807) (hb : BrAt w A l) :
    Calls Try.prog 60 #[.agg #[.int .i64 kind, .slice A n c], .agg #[.int .i64 1, .int .i64 kd, .int .i64 ar, .int .i64 at_, .int .i64 nn]] w (AhRet w ⟨kd, l⟩ (0)) := by
  have Z := Zb.start w kind A n c (1) kd ar at_ nn l hb
  have Z1 := Z.drew
  have hn0 : n ≤ 9223372036854775807 := by omega
  have HN := hid hn
  have HC := hid hc1
  have HB0 := hid hb
  clear hn hc1 hb
  obtain ⟨R, hR⟩ : ∃ R, R = AhRet w ⟨kd, l⟩ (0) := ⟨_, rfl⟩
  rw [← hR]
  have HR := hid hR
  clear hR
  go_enter Try.func60, Try.ntmps60
  go_wp2_with (first | (go_at_call 96; refine (must_any _ _).mono ?_; rintro e w' ⟨rfl, hb⟩; have Z' := Zb.below (by assumption) hb; obtain ⟨z0, z1, z2, z3⟩ := And.intro Z'.z0 (And.intro Z'.z1 (And.intro Z'.f0 Z'.f1)); obtain ⟨y0, y1, y2, y3, y4, y5⟩ := And.intro Z'.c0 (And.intro Z'.c1 (And.intro Z'.d0 (And.intro Z'.d1 (And.intro Z'.d2 Z'.d3))))) | (go_at_call 97; refine (logic_any _ _).mono ?_; rintro e w' ⟨rfl, hb⟩; have Z' := Zb.below (by assumption) hb; obtain ⟨z0, z1, z2, z3⟩ := And.intro Z'.z0 (And.intro Z'.z1 (And.intro Z'.f0 Z'.f1)); obtain ⟨y0, y1, y2, y3, y4, y5⟩ := And.intro Z'.c0 (And.intro Z'.c1 (And.intro Z'.d0 (And.intro Z'.d1 (And.intro Z'.d2 Z'.d3))))) | (go_at_call 85; refine (may_any _ _ _).mono ?_; rintro e w' ⟨rfl, hb⟩; have Z' := Zb.below (by assumption) hb; obtain ⟨z0, z1, z2, z3⟩ := And.intro Z'.z0 (And.intro Z'.z1 (And.intro Z'.f0 Z'.f1)); obtain ⟨y0, y1, y2, y3, y4, y5⟩ := And.intro Z'.c0 (And.intro Z'.c1 (And.intro Z'.d0 (And.intro Z'.d1 (And.intro Z'.d2 Z'.d3))))) | (go_at_call 101; refine (made_any _ _ _).mono ?_; rintro e w' ⟨rfl, hb⟩; have Z' := Zb.below (by assumption) hb; obtain ⟨z0, z1, z2, z3⟩ := And.intro Z'.z0 (And.intro Z'.z1 (And.intro Z'.f0 Z'.f1)); obtain ⟨y0, y1, y2, y3, y4, y5⟩ := And.intro Z'.c0 (And.intro Z'.c1 (And.intro Z'.d0 (And.intro Z'.d1 (And.intro Z'.d2 Z'.d3))))) | (go_at_call 95; refine (with_any _ _ _ _ _ _).mono ?_; rintro e w' ⟨rfl, hb⟩; have Z' := Zb.below (by assumption) hb; obtain ⟨z0, z1, z2, z3⟩ := And.intro Z'.z0 (And.intro Z'.z1 (And.intro Z'.f0 Z'.f1)); obtain ⟨y0, y1, y2, y3, y4, y5⟩ := And.intro Z'.c0 (And.intro Z'.c1 (And.intro Z'.d0 (And.intro Z'.d1 (And.intro Z'.d2 Z'.d3))))) | (go_at_call 98; refine (ret_any _ _ _ _ _ _ (by omega)).mono ?_; rintro e w' ⟨rfl, hb⟩; have Z' := Zb.below (by assumption) hb; obtain ⟨z0, z1, z2, z3⟩ := And.intro Z'.z0 (And.intro Z'.z1 (And.intro Z'.f0 Z'.f1)); obtain ⟨y0, y1, y2, y3, y4, y5⟩ := And.intro Z'.c0 (And.intro Z'.c1 (And.intro Z'.d0 (And.intro Z'.d1 (And.intro Z'.d2 Z'.d3))))))
  all_goals
    refine bodyPost_ret (v := .tuple #[.agg #[.int .i64 (kd), .slice A n c], .int .i64 (0)]) (by simp [results, Try.results60, go_sem, z0, z1]) rfl ?_
    rw [HR.out]
    exact ⟨A, c, by rw [HN.out], (Z'.end_ Z'.br).1, (Z'.end_ Z'.br).2, HC.out, hc2⟩
theorem behind_2 (kind : Int) (A : Option Addr) (n c : Nat) (kd ar at_ nn : Int) (l : List Br) (w : World) (hn : n = l.length) (hc1 : l.length ≤ c) (hc2 : c ≤ 9223372036854775807) (hb : BrAt w A l) :
    Calls Try.prog 60 #[.agg #[.int .i64 kind, .slice A n c], .agg #[.int .i64 2, .int .i64 kd, .int .i64 ar, .int .i64 at_, .int .i64 nn]] w (AhRet w ⟨kd, l⟩ (mustI (logicB kd))) := by
  have Z := Zb.start w kind A n c (2) kd ar at_ nn l hb
  have Z1 := Z.drew
  have hn0 : n ≤ 9223372036854775807 := by omega
  have HN := hid hn
  have HC := hid hc1
  have HB0 := hid hb
  clear hn hc1 hb
  obtain ⟨R, hR⟩ : ∃ R, R = AhRet w ⟨kd, l⟩ (mustI (logicB kd)) := ⟨_, rfl⟩
  rw [← hR]
  have HR := hid hR
  clear hR
  go_enter Try.func60, Try.ntmps60
  go_wp2_with (first | (go_at_call 96; refine (must_any _ _).mono ?_; rintro e w' ⟨rfl, hb⟩; have Z' := Zb.below (by assumption) hb; obtain ⟨z0, z1, z2, z3⟩ := And.intro Z'.z0 (And.intro Z'.z1 (And.intro Z'.f0 Z'.f1)); obtain ⟨y0, y1, y2, y3, y4, y5⟩ := And.intro Z'.c0 (And.intro Z'.c1 (And.intro Z'.d0 (And.intro Z'.d1 (And.intro Z'.d2 Z'.d3))))) | (go_at_call 97; refine (logic_any _ _).mono ?_; rintro e w' ⟨rfl, hb⟩; have Z' := Zb.below (by assumption) hb; obtain ⟨z0, z1, z2, z3⟩ := And.intro Z'.z0 (And.intro Z'.z1 (And.intro Z'.f0 Z'.f1)); obtain ⟨y0, y1, y2, y3, y4, y5⟩ := And.intro Z'.c0 (And.intro Z'.c1 (And.intro Z'.d0 (And.intro Z'.d1 (And.intro Z'.d2 Z'.d3))))) | (go_at_call 85; refine (may_any _ _ _).mono ?_; rintro e w' ⟨rfl, hb⟩; have Z' := Zb.below (by assumption) hb; obtain ⟨z0, z1, z2, z3⟩ := And.intro Z'.z0 (And.intro Z'.z1 (And.intro Z'.f0 Z'.f1)); obtain ⟨y0, y1, y2, y3, y4, y5⟩ := And.intro Z'.c0 (And.intro Z'.c1 (And.intro Z'.d0 (And.intro Z'.d1 (And.intro Z'.d2 Z'.d3))))) | (go_at_call 101; refine (made_any _ _ _).mono ?_; rintro e w' ⟨rfl, hb⟩; have Z' := Zb.below (by assumption) hb; obtain ⟨z0, z1, z2, z3⟩ := And.intro Z'.z0 (And.intro Z'.z1 (And.intro Z'.f0 Z'.f1)); obtain ⟨y0, y1, y2, y3, y4, y5⟩ := And.intro Z'.c0 (And.intro Z'.c1 (And.intro Z'.d0 (And.intro Z'.d1 (And.intro Z'.d2 Z'.d3))))) | (go_at_call 95; refine (with_any _ _ _ _ _ _).mono ?_; rintro e w' ⟨rfl, hb⟩; have Z' := Zb.below (by assumption) hb; obtain ⟨z0, z1, z2, z3⟩ := And.intro Z'.z0 (And.intro Z'.z1 (And.intro Z'.f0 Z'.f1)); obtain ⟨y0, y1, y2, y3, y4, y5⟩ := And.intro Z'.c0 (And.intro Z'.c1 (And.intro Z'.d0 (And.intro Z'.d1 (And.intro Z'.d2 Z'.d3))))) | (go_at_call 98; refine (ret_any _ _ _ _ _ _ (by omega)).mono ?_; rintro e w' ⟨rfl, hb⟩; have Z' := Zb.below (by assumption) hb; obtain ⟨z0, z1, z2, z3⟩ := And.intro Z'.z0 (And.intro Z'.z1 (And.intro Z'.f0 Z'.f1)); obtain ⟨y0, y1, y2, y3, y4, y5⟩ := And.intro Z'.c0 (And.intro Z'.c1 (And.intro Z'.d0 (And.intro Z'.d1 (And.intro Z'.d2 Z'.d3))))))
  refine quiet_tail (fun X => Zb w kind A n c (2) kd ar at_ nn l X) 8 (by kernel_rfl) (by kernel_rfl) Z1 ?_
  simp only [List.take_succ_cons, List.take_zero, List.drop_succ_cons, List.drop_zero]
  repeat (first | go_big_quiet_skip | (go_big_quiet_want; first | (go_big_quiet_op; go_big_quiet_on) | (apply Exists.intro; refine ⟨fun X hX => ?_, ?_⟩; · (obtain ⟨x0, x1, x2, x3, x4, x5⟩ := And.intro hX.c0 (And.intro hX.c1 (And.intro hX.d0 (And.intro hX.d1 (And.intro hX.d2 hX.d3)))); unfold Oper.quietAt; go_simp; first | done | rfl | exact ⟨rfl, rfl⟩ | (first | (go_at_call 96; refine (must_any _ _).mono ?_; rintro e w' ⟨rfl, hb⟩; exact ⟨rfl, hX.below hb⟩) | (go_at_call 97; refine (logic_any _ _).mono ?_; rintro e w' ⟨rfl, hb⟩; exact ⟨rfl, hX.below hb⟩) | (go_at_call 85; refine (may_any _ _ _).mono ?_; rintro e w' ⟨rfl, hb⟩; exact ⟨rfl, hX.below hb⟩) | (go_at_call 101; refine (made_any _ _ _).mono ?_; rintro e w' ⟨rfl, hb⟩; exact ⟨rfl, hX.below hb⟩) | (go_at_call 95; refine (with_any _ _ _ _ _ _).mono ?_; rintro e w' ⟨rfl, hb⟩; exact ⟨rfl, hX.below hb⟩)))); go_big_quiet_on; simp only [Act.put, List.setIfInBounds_toArray, List.set_cons_zero, List.set_cons_succ]))
  refine wpQuiet_nil ?_
  intro X Z'
  obtain ⟨z0, z1, z2, z3⟩ := And.intro Z'.z0 (And.intro Z'.z1 (And.intro Z'.f0 Z'.f1))
  go_wp2
  all_goals
    refine bodyPost_ret (v := .tuple #[.agg #[.int .i64 (kd), .slice A n c], .int .i64 (mustI (logicB kd))]) (by simp [results, Try.results60, go_sem, z0, z1]) rfl ?_
    rw [HR.out]
    exact ⟨A, c, by rw [HN.out], (Z'.end_ Z'.br).1, (Z'.end_ Z'.br).2, HC.out, hc2⟩
theorem behind_3 (kind : Int) (A : Option Addr) (n c : Nat) (kd ar at_ nn : Int) (l : List Br) (w : World) (hn : n = l.length) (hc1 : l.length ≤ c) (hc2 : c ≤ 9223372036854775807) (hb : BrAt w A l) :
    Calls Try.prog 60 #[.agg #[.int .i64 kind, .slice A n c], .agg #[.int .i64 3, .int .i64 kd, .int .i64 ar, .int .i64 at_, .int .i64 nn]] w (AhRet w ⟨kind, l⟩ (mustI (kind == kd))) := by
  have Z := Zb.start w kind A n c (3) kd ar at_ nn l hb
  have Z1 := Z.drew
  have hn0 : n ≤ 9223372036854775807 := by omega
  have HN := hid hn
  have HC := hid hc1
  have HB0 := hid hb
  clear hn hc1 hb
  obtain ⟨R, hR⟩ : ∃ R, R = AhRet w ⟨kind, l⟩ (mustI (kind == kd)) := ⟨_, rfl⟩
  rw [← hR]
  have HR := hid hR
  clear hR
  go_enter Try.func60, Try.ntmps60
  go_wp2_with (first | (go_at_call 96; refine (must_any _ _).mono ?_; rintro e w' ⟨rfl, hb⟩; have Z' := Zb.below (by assumption) hb; obtain ⟨z0, z1, z2, z3⟩ := And.intro Z'.z0 (And.intro Z'.z1 (And.intro Z'.f0 Z'.f1)); obtain ⟨y0, y1, y2, y3, y4, y5⟩ := And.intro Z'.c0 (And.intro Z'.c1 (And.intro Z'.d0 (And.intro Z'.d1 (And.intro Z'.d2 Z'.d3))))) | (go_at_call 97; refine (logic_any _ _).mono ?_; rintro e w' ⟨rfl, hb⟩; have Z' := Zb.below (by assumption) hb; obtain ⟨z0, z1, z2, z3⟩ := And.intro Z'.z0 (And.intro Z'.z1 (And.intro Z'.f0 Z'.f1)); obtain ⟨y0, y1, y2, y3, y4, y5⟩ := And.intro Z'.c0 (And.intro Z'.c1 (And.intro Z'.d0 (And.intro Z'.d1 (And.intro Z'.d2 Z'.d3))))) | (go_at_call 85; refine (may_any _ _ _).mono ?_; rintro e w' ⟨rfl, hb⟩; have Z' := Zb.below (by assumption) hb; obtain ⟨z0, z1, z2, z3⟩ := And.intro Z'.z0 (And.intro Z'.z1 (And.intro Z'.f0 Z'.f1)); obtain ⟨y0, y1, y2, y3, y4, y5⟩ := And.intro Z'.c0 (And.intro Z'.c1 (And.intro Z'.d0 (And.intro Z'.d1 (And.intro Z'.d2 Z'.d3))))) | (go_at_call 101; refine (made_any _ _ _).mono ?_; rintro e w' ⟨rfl, hb⟩; have Z' := Zb.below (by assumption) hb; obtain ⟨z0, z1, z2, z3⟩ := And.intro Z'.z0 (And.intro Z'.z1 (And.intro Z'.f0 Z'.f1)); obtain ⟨y0, y1, y2, y3, y4, y5⟩ := And.intro Z'.c0 (And.intro Z'.c1 (And.intro Z'.d0 (And.intro Z'.d1 (And.intro Z'.d2 Z'.d3))))) | (go_at_call 95; refine (with_any _ _ _ _ _ _).mono ?_; rintro e w' ⟨rfl, hb⟩; have Z' := Zb.below (by assumption) hb; obtain ⟨z0, z1, z2, z3⟩ := And.intro Z'.z0 (And.intro Z'.z1 (And.intro Z'.f0 Z'.f1)); obtain ⟨y0, y1, y2, y3, y4, y5⟩ := And.intro Z'.c0 (And.intro Z'.c1 (And.intro Z'.d0 (And.intro Z'.d1 (And.intro Z'.d2 Z'.d3))))) | (go_at_call 98; refine (ret_any _ _ _ _ _ _ (by omega)).mono ?_; rintro e w' ⟨rfl, hb⟩; have Z' := Zb.below (by assumption) hb; obtain ⟨z0, z1, z2, z3⟩ := And.intro Z'.z0 (And.intro Z'.z1 (And.intro Z'.f0 Z'.f1)); obtain ⟨y0, y1, y2, y3, y4, y5⟩ := And.intro Z'.c0 (And.intro Z'.c1 (And.intro Z'.d0 (And.intro Z'.d1 (And.intro Z'.d2 Z'.d3))))))
  refine quiet_tail (fun X => Zb w kind A n c (3) kd ar at_ nn l X) 7 (by kernel_rfl) (by kernel_rfl) Z1 ?_
  simp only [List.take_succ_cons, List.take_zero, List.drop_succ_cons, List.drop_zero]
  repeat (first | go_big_quiet_skip | (go_big_quiet_want; first | (go_big_quiet_op; go_big_quiet_on) | (apply Exists.intro; refine ⟨fun X hX => ?_, ?_⟩; · (obtain ⟨x0, x1, x2, x3, x4, x5⟩ := And.intro hX.c0 (And.intro hX.c1 (And.intro hX.d0 (And.intro hX.d1 (And.intro hX.d2 hX.d3)))); unfold Oper.quietAt; go_simp; first | done | rfl | exact ⟨rfl, rfl⟩ | (first | (go_at_call 96; refine (must_any _ _).mono ?_; rintro e w' ⟨rfl, hb⟩; exact ⟨rfl, hX.below hb⟩) | (go_at_call 97; refine (logic_any _ _).mono ?_; rintro e w' ⟨rfl, hb⟩; exact ⟨rfl, hX.below hb⟩) | (go_at_call 85; refine (may_any _ _ _).mono ?_; rintro e w' ⟨rfl, hb⟩; exact ⟨rfl, hX.below hb⟩) | (go_at_call 101; refine (made_any _ _ _).mono ?_; rintro e w' ⟨rfl, hb⟩; exact ⟨rfl, hX.below hb⟩) | (go_at_call 95; refine (with_any _ _ _ _ _ _).mono ?_; rintro e w' ⟨rfl, hb⟩; exact ⟨rfl, hX.below hb⟩)))); go_big_quiet_on; simp only [Act.put, List.setIfInBounds_toArray, List.set_cons_zero, List.set_cons_succ]))
  refine wpQuiet_nil ?_
  intro X Z'
  obtain ⟨z0, z1, z2, z3⟩ := And.intro Z'.z0 (And.intro Z'.z1 (And.intro Z'.f0 Z'.f1))
  go_wp2
  all_goals
    refine bodyPost_ret (v := .tuple #[.agg #[.int .i64 (kind), .slice A n c], .int .i64 (mustI (kind == kd))]) (by simp [results, Try.results60, go_sem, z0, z1]) rfl ?_
    rw [HR.out]
    exact ⟨A, c, by rw [HN.out], (Z'.end_ Z'.br).1, (Z'.end_ Z'.br).2, HC.out, hc2⟩
theorem behind_4y (kind : Int) (A : Option Addr) (n c : Nat) (kd ar at_ nn : Int) (l : List Br) (w : World) (hn : n = l.length) (hc1 : l.length ≤ c) (hc2 : c ≤ 9223372036854775807) (hb : BrAt w A l) (hk : (kind == kd) = true) :
    Calls Try.prog 60 #[.agg #[.int .i64 kind, .slice A n c], .agg #[.int .i64 4, .int .i64 kd, .int .i64 ar, .int .i64 at_, .int .i64 nn]] w (AhRet w ⟨kind, l⟩ (mustI (logicB kd))) := by
  have Z := Zb.start w kind A n c (4) kd ar at_ nn l hb
  have Z1 := Z.drew
  have hn0 : n ≤ 9223372036854775807 := by omega
  have HN := hid hn
  have HC := hid hc1
  have HB0 := hid hb
  clear hn hc1 hb
  obtain ⟨R, hR⟩ : ∃ R, R = AhRet w ⟨kind, l⟩ (mustI (logicB kd)) := ⟨_, rfl⟩
  rw [← hR]
  have HR := hid hR
  clear hR
  go_enter Try.func60, Try.ntmps60
  go_wp2_with (first | (go_at_call 96; refine (must_any _ _).mono ?_; rintro e w' ⟨rfl, hb⟩; have Z' := Zb.below (by assumption) hb; obtain ⟨z0, z1, z2, z3⟩ := And.intro Z'.z0 (And.intro Z'.z1 (And.intro Z'.f0 Z'.f1)); obtain ⟨y0, y1, y2, y3, y4, y5⟩ := And.intro Z'.c0 (And.intro Z'.c1 (And.intro Z'.d0 (And.intro Z'.d1 (And.intro Z'.d2 Z'.d3))))) | (go_at_call 97; refine (logic_any _ _).mono ?_; rintro e w' ⟨rfl, hb⟩; have Z' := Zb.below (by assumption) hb; obtain ⟨z0, z1, z2, z3⟩ := And.intro Z'.z0 (And.intro Z'.z1 (And.intro Z'.f0 Z'.f1)); obtain ⟨y0, y1, y2, y3, y4, y5⟩ := And.intro Z'.c0 (And.intro Z'.c1 (And.intro Z'.d0 (And.intro Z'.d1 (And.intro Z'.d2 Z'.d3))))) | (go_at_call 85; refine (may_any _ _ _).mono ?_; rintro e w' ⟨rfl, hb⟩; have Z' := Zb.below (by assumption) hb; obtain ⟨z0, z1, z2, z3⟩ := And.intro Z'.z0 (And.intro Z'.z1 (And.intro Z'.f0 Z'.f1)); obtain ⟨y0, y1, y2, y3, y4, y5⟩ := And.intro Z'.c0 (And.intro Z'.c1 (And.intro Z'.d0 (And.intro Z'.d1 (And.intro Z'.d2 Z'.d3))))) | (go_at_call 101; refine (made_any _ _ _).mono ?_; rintro e w' ⟨rfl, hb⟩; have Z' := Zb.below (by assumption) hb; obtain ⟨z0, z1, z2, z3⟩ := And.intro Z'.z0 (And.intro Z'.z1 (And.intro Z'.f0 Z'.f1)); obtain ⟨y0, y1, y2, y3, y4, y5⟩ := And.intro Z'.c0 (And.intro Z'.c1 (And.intro Z'.d0 (And.intro Z'.d1 (And.intro Z'.d2 Z'.d3))))) | (go_at_call 95; refine (with_any _ _ _ _ _ _).mono ?_; rintro e w' ⟨rfl, hb⟩; have Z' := Zb.below (by assumption) hb; obtain ⟨z0, z1, z2, z3⟩ := And.intro Z'.z0 (And.intro Z'.z1 (And.intro Z'.f0 Z'.f1)); obtain ⟨y0, y1, y2, y3, y4, y5⟩ := And.intro Z'.c0 (And.intro Z'.c1 (And.intro Z'.d0 (And.intro Z'.d1 (And.intro Z'.d2 Z'.d3))))) | (go_at_call 98; refine (ret_any _ _ _ _ _ _ (by omega)).mono ?_; rintro e w' ⟨rfl, hb⟩; have Z' := Zb.below (by assumption) hb; obtain ⟨z0, z1, z2, z3⟩ := And.intro Z'.z0 (And.intro Z'.z1 (And.intro Z'.f0 Z'.f1)); obtain ⟨y0, y1, y2, y3, y4, y5⟩ := And.intro Z'.c0 (And.intro Z'.c1 (And.intro Z'.d0 (And.intro Z'.d1 (And.intro Z'.d2 Z'.d3))))))
  refine quiet_tail (fun X => Zb w kind A n c (4) kd ar at_ nn l X) 12 (by kernel_rfl) (by kernel_rfl) Z1 ?_
  simp only [List.take_succ_cons, List.take_zero, List.drop_succ_cons, List.drop_zero]
  repeat (first | go_big_quiet_skip | (go_big_quiet_want; first | (go_big_quiet_op; go_big_quiet_on) | (apply Exists.intro; refine ⟨fun X hX => ?_, ?_⟩; · (obtain ⟨x0, x1, x2, x3, x4, x5⟩ := And.intro hX.c0 (And.intro hX.c1 (And.intro hX.d0 (And.intro hX.d1 (And.intro hX.d2 hX.d3)))); unfold Oper.quietAt; go_simp; first | done | rfl | exact ⟨rfl, rfl⟩ | (first | (go_at_call 96; refine (must_any _ _).mono ?_; rintro e w' ⟨rfl, hb⟩; exact ⟨rfl, hX.below hb⟩) | (go_at_call 97; refine (logic_any _ _).mono ?_; rintro e w' ⟨rfl, hb⟩; exact ⟨rfl, hX.below hb⟩) | (go_at_call 85; refine (may_any _ _ _).mono ?_; rintro e w' ⟨rfl, hb⟩; exact ⟨rfl, hX.below hb⟩) | (go_at_call 101; refine (made_any _ _ _).mono ?_; rintro e w' ⟨rfl, hb⟩; exact ⟨rfl, hX.below hb⟩) | (go_at_call 95; refine (with_any _ _ _ _ _ _).mono ?_; rintro e w' ⟨rfl, hb⟩; exact ⟨rfl, hX.below hb⟩)))); go_big_quiet_on; simp only [Act.put, List.setIfInBounds_toArray, List.set_cons_zero, List.set_cons_succ]))
  refine wpQuiet_nil ?_
  intro X Z'
  obtain ⟨z0, z1, z2, z3⟩ := And.intro Z'.z0 (And.intro Z'.z1 (And.intro Z'.f0 Z'.f1))
  go_wp2
  all_goals
    refine bodyPost_ret (v := .tuple #[.agg #[.int .i64 (kind), .slice A n c], .int .i64 (mustI (logicB kd))]) (by simp [results, Try.results60, go_sem, z0, z1]) rfl ?_
    rw [HR.out]
    exact ⟨A, c, by rw [HN.out], (Z'.end_ Z'.br).1, (Z'.end_ Z'.br).2, HC.out, hc2⟩
theorem behind_4n (kind : Int) (A : Option Addr) (n c : Nat) (kd ar at_ nn : Int) (l : List Br) (w : World) (hn : n = l.length) (hc1 : l.length ≤ c) (hc2 : c ≤ 9223372036854775807) (hb : BrAt w A l) (hk : (kind == kd) = false) :
    Calls Try.prog 60 #[.agg #[.int .i64 kind, .slice A n c], .agg #[.int .i64 4, .int .i64 kd, .int .i64 ar, .int .i64 at_, .int .i64 nn]] w (AhRet w ⟨kind, l⟩ (mustI false)) := by
  have Z := Zb.start w kind A n c (4) kd ar at_ nn l hb
  have Z1 := Z.drew
  have hn0 : n ≤ 9223372036854775807 := by omega
  have HN := hid hn
  have HC := hid hc1
  have HB0 := hid hb
  clear hn hc1 hb
  obtain ⟨R, hR⟩ : ∃ R, R = AhRet w ⟨kind, l⟩ (mustI false) := ⟨_, rfl⟩
  rw [← hR]
  have HR := hid hR
  clear hR
  go_enter Try.func60, Try.ntmps60
  go_wp2_with (first | (go_at_call 96; refine (must_any _ _).mono ?_; rintro e w' ⟨rfl, hb⟩; have Z' := Zb.below (by assumption) hb; obtain ⟨z0, z1, z2, z3⟩ := And.intro Z'.z0 (And.intro Z'.z1 (And.intro Z'.f0 Z'.f1)); obtain ⟨y0, y1, y2, y3, y4, y5⟩ := And.intro Z'.c0 (And.intro Z'.c1 (And.intro Z'.d0 (And.intro Z'.d1 (And.intro Z'.d2 Z'.d3))))) | (go_at_call 97; refine (logic_any _ _).mono ?_; rintro e w' ⟨rfl, hb⟩; have Z' := Zb.below (by assumption) hb; obtain ⟨z0, z1, z2, z3⟩ := And.intro Z'.z0 (And.intro Z'.z1 (And.intro Z'.f0 Z'.f1)); obtain ⟨y0, y1, y2, y3, y4, y5⟩ := And.intro Z'.c0 (And.intro Z'.c1 (And.intro Z'.d0 (And.intro Z'.d1 (And.intro Z'.d2 Z'.d3))))) | (go_at_call 85; refine (may_any _ _ _).mono ?_; rintro e w' ⟨rfl, hb⟩; have Z' := Zb.below (by assumption) hb; obtain ⟨z0, z1, z2, z3⟩ := And.intro Z'.z0 (And.intro Z'.z1 (And.intro Z'.f0 Z'.f1)); obtain ⟨y0, y1, y2, y3, y4, y5⟩ := And.intro Z'.c0 (And.intro Z'.c1 (And.intro Z'.d0 (And.intro Z'.d1 (And.intro Z'.d2 Z'.d3))))) | (go_at_call 101; refine (made_any _ _ _).mono ?_; rintro e w' ⟨rfl, hb⟩; have Z' := Zb.below (by assumption) hb; obtain ⟨z0, z1, z2, z3⟩ := And.intro Z'.z0 (And.intro Z'.z1 (And.intro Z'.f0 Z'.f1)); obtain ⟨y0, y1, y2, y3, y4, y5⟩ := And.intro Z'.c0 (And.intro Z'.c1 (And.intro Z'.d0 (And.intro Z'.d1 (And.intro Z'.d2 Z'.d3))))) | (go_at_call 95; refine (with_any _ _ _ _ _ _).mono ?_; rintro e w' ⟨rfl, hb⟩; have Z' := Zb.below (by assumption) hb; obtain ⟨z0, z1, z2, z3⟩ := And.intro Z'.z0 (And.intro Z'.z1 (And.intro Z'.f0 Z'.f1)); obtain ⟨y0, y1, y2, y3, y4, y5⟩ := And.intro Z'.c0 (And.intro Z'.c1 (And.intro Z'.d0 (And.intro Z'.d1 (And.intro Z'.d2 Z'.d3))))) | (go_at_call 98; refine (ret_any _ _ _ _ _ _ (by omega)).mono ?_; rintro e w' ⟨rfl, hb⟩; have Z' := Zb.below (by assumption) hb; obtain ⟨z0, z1, z2, z3⟩ := And.intro Z'.z0 (And.intro Z'.z1 (And.intro Z'.f0 Z'.f1)); obtain ⟨y0, y1, y2, y3, y4, y5⟩ := And.intro Z'.c0 (And.intro Z'.c1 (And.intro Z'.d0 (And.intro Z'.d1 (And.intro Z'.d2 Z'.d3))))))
  refine quiet_tail (fun X => Zb w kind A n c (4) kd ar at_ nn l X) 12 (by kernel_rfl) (by kernel_rfl) Z1 ?_
  simp only [List.take_succ_cons, List.take_zero, List.drop_succ_cons, List.drop_zero]
  repeat (first | go_big_quiet_skip | (go_big_quiet_want; first | (go_big_quiet_op; go_big_quiet_on) | (apply Exists.intro; refine ⟨fun X hX => ?_, ?_⟩; · (obtain ⟨x0, x1, x2, x3, x4, x5⟩ := And.intro hX.c0 (And.intro hX.c1 (And.intro hX.d0 (And.intro hX.d1 (And.intro hX.d2 hX.d3)))); unfold Oper.quietAt; go_simp; first | done | rfl | exact ⟨rfl, rfl⟩ | (first | (go_at_call 96; refine (must_any _ _).mono ?_; rintro e w' ⟨rfl, hb⟩; exact ⟨rfl, hX.below hb⟩) | (go_at_call 97; refine (logic_any _ _).mono ?_; rintro e w' ⟨rfl, hb⟩; exact ⟨rfl, hX.below hb⟩) | (go_at_call 85; refine (may_any _ _ _).mono ?_; rintro e w' ⟨rfl, hb⟩; exact ⟨rfl, hX.below hb⟩) | (go_at_call 101; refine (made_any _ _ _).mono ?_; rintro e w' ⟨rfl, hb⟩; exact ⟨rfl, hX.below hb⟩) | (go_at_call 95; refine (with_any _ _ _ _ _ _).mono ?_; rintro e w' ⟨rfl, hb⟩; exact ⟨rfl, hX.below hb⟩)))); go_big_quiet_on; simp only [Act.put, List.setIfInBounds_toArray, List.set_cons_zero, List.set_cons_succ]))
  refine wpQuiet_nil ?_
  intro X Z'
  obtain ⟨z0, z1, z2, z3⟩ := And.intro Z'.z0 (And.intro Z'.z1 (And.intro Z'.f0 Z'.f1))
  go_wp2
  all_goals
    refine bodyPost_ret (v := .tuple #[.agg #[.int .i64 (kind), .slice A n c], .int .i64 (mustI false)]) (by simp [results, Try.results60, go_sem, z0, z1]) rfl ?_
    rw [HR.out]
    exact ⟨A, c, by rw [HN.out], (Z'.end_ Z'.br).1, (Z'.end_ Z'.br).2, HC.out, hc2⟩
theorem behind_5y (kind : Int) (A : Option Addr) (n c : Nat) (kd ar at_ nn : Int) (l : List Br) (w : World) (hn : n = l.length) (hc1 : l.length ≤ c) (hc2 : c ≤ 9223372036854775807) (hb : BrAt w A l) (hk : (kind == 1) = true) :
    Calls Try.prog 60 #[.agg #[.int .i64 kind, .slice A n c], .agg #[.int .i64 5, .int .i64 kd, .int .i64 ar, .int .i64 at_, .int .i64 nn]] w (AhRet w ⟨kind, l⟩ (mustI (kd == 1))) := by
  have Z := Zb.start w kind A n c (5) kd ar at_ nn l hb
  have Z1 := Z.drew
  have hn0 : n ≤ 9223372036854775807 := by omega
  have HN := hid hn
  have HC := hid hc1
  have HB0 := hid hb
  clear hn hc1 hb
  obtain ⟨R, hR⟩ : ∃ R, R = AhRet w ⟨kind, l⟩ (mustI (kd == 1)) := ⟨_, rfl⟩
  rw [← hR]
  have HR := hid hR
  clear hR
  go_enter Try.func60, Try.ntmps60
  go_wp2_with (first | (go_at_call 96; refine (must_any _ _).mono ?_; rintro e w' ⟨rfl, hb⟩; have Z' := Zb.below (by assumption) hb; obtain ⟨z0, z1, z2, z3⟩ := And.intro Z'.z0 (And.intro Z'.z1 (And.intro Z'.f0 Z'.f1)); obtain ⟨y0, y1, y2, y3, y4, y5⟩ := And.intro Z'.c0 (And.intro Z'.c1 (And.intro Z'.d0 (And.intro Z'.d1 (And.intro Z'.d2 Z'.d3))))) | (go_at_call 97; refine (logic_any _ _).mono ?_; rintro e w' ⟨rfl, hb⟩; have Z' := Zb.below (by assumption) hb; obtain ⟨z0, z1, z2, z3⟩ := And.intro Z'.z0 (And.intro Z'.z1 (And.intro Z'.f0 Z'.f1)); obtain ⟨y0, y1, y2, y3, y4, y5⟩ := And.intro Z'.c0 (And.intro Z'.c1 (And.intro Z'.d0 (And.intro Z'.d1 (And.intro Z'.d2 Z'.d3))))) | (go_at_call 85; refine (may_any _ _ _).mono ?_; rintro e w' ⟨rfl, hb⟩; have Z' := Zb.below (by assumption) hb; obtain ⟨z0, z1, z2, z3⟩ := And.intro Z'.z0 (And.intro Z'.z1 (And.intro Z'.f0 Z'.f1)); obtain ⟨y0, y1, y2, y3, y4, y5⟩ := And.intro Z'.c0 (And.intro Z'.c1 (And.intro Z'.d0 (And.intro Z'.d1 (And.intro Z'.d2 Z'.d3))))) | (go_at_call 101; refine (made_any _ _ _).mono ?_; rintro e w' ⟨rfl, hb⟩; have Z' := Zb.below (by assumption) hb; obtain ⟨z0, z1, z2, z3⟩ := And.intro Z'.z0 (And.intro Z'.z1 (And.intro Z'.f0 Z'.f1)); obtain ⟨y0, y1, y2, y3, y4, y5⟩ := And.intro Z'.c0 (And.intro Z'.c1 (And.intro Z'.d0 (And.intro Z'.d1 (And.intro Z'.d2 Z'.d3))))) | (go_at_call 95; refine (with_any _ _ _ _ _ _).mono ?_; rintro e w' ⟨rfl, hb⟩; have Z' := Zb.below (by assumption) hb; obtain ⟨z0, z1, z2, z3⟩ := And.intro Z'.z0 (And.intro Z'.z1 (And.intro Z'.f0 Z'.f1)); obtain ⟨y0, y1, y2, y3, y4, y5⟩ := And.intro Z'.c0 (And.intro Z'.c1 (And.intro Z'.d0 (And.intro Z'.d1 (And.intro Z'.d2 Z'.d3))))) | (go_at_call 98; refine (ret_any _ _ _ _ _ _ (by omega)).mono ?_; rintro e w' ⟨rfl, hb⟩; have Z' := Zb.below (by assumption) hb; obtain ⟨z0, z1, z2, z3⟩ := And.intro Z'.z0 (And.intro Z'.z1 (And.intro Z'.f0 Z'.f1)); obtain ⟨y0, y1, y2, y3, y4, y5⟩ := And.intro Z'.c0 (And.intro Z'.c1 (And.intro Z'.d0 (And.intro Z'.d1 (And.intro Z'.d2 Z'.d3))))))
  refine quiet_tail (fun X => Zb w kind A n c (5) kd ar at_ nn l X) 8 (by kernel_rfl) (by kernel_rfl) Z1 ?_
  simp only [List.take_succ_cons, List.take_zero, List.drop_succ_cons, List.drop_zero]
  repeat (first | go_big_quiet_skip | (go_big_quiet_want; first | (go_big_quiet_op; go_big_quiet_on) | (apply Exists.intro; refine ⟨fun X hX => ?_, ?_⟩; · (obtain ⟨x0, x1, x2, x3, x4, x5⟩ := And.intro hX.c0 (And.intro hX.c1 (And.intro hX.d0 (And.intro hX.d1 (And.intro hX.d2 hX.d3)))); unfold Oper.quietAt; go_simp; first | done | rfl | exact ⟨rfl, rfl⟩ | (first | (go_at_call 96; refine (must_any _ _).mono ?_; rintro e w' ⟨rfl, hb⟩; exact ⟨rfl, hX.below hb⟩) | (go_at_call 97; refine (logic_any _ _).mono ?_; rintro e w' ⟨rfl, hb⟩; exact ⟨rfl, hX.below hb⟩) | (go_at_call 85; refine (may_any _ _ _).mono ?_; rintro e w' ⟨rfl, hb⟩; exact ⟨rfl, hX.below hb⟩) | (go_at_call 101; refine (made_any _ _ _).mono ?_; rintro e w' ⟨rfl, hb⟩; exact ⟨rfl, hX.below hb⟩) | (go_at_call 95; refine (with_any _ _ _ _ _ _).mono ?_; rintro e w' ⟨rfl, hb⟩; exact ⟨rfl, hX.below hb⟩)))); go_big_quiet_on; simp only [Act.put, List.setIfInBounds_toArray, List.set_cons_zero, List.set_cons_succ]))
  refine wpQuiet_nil ?_
  intro X Z'
  obtain ⟨z0, z1, z2, z3⟩ := And.intro Z'.z0 (And.intro Z'.z1 (And.intro Z'.f0 Z'.f1))
  go_wp2
  all_goals
    refine bodyPost_ret (v := .tuple #[.agg #[.int .i64 (kind), .slice A n c], .int .i64 (mustI (kd == 1))]) (by simp [results, Try.results60, go_sem, z0, z1]) rfl ?_
    rw [HR.out]
    exact ⟨A, c, by rw [HN.out], (Z'.end_ Z'.br).1, (Z'.end_ Z'.br).2, HC.out, hc2⟩
theorem behind_5n (kind : Int) (A : Option Addr) (n c : Nat) (kd ar at_ nn : Int) (l : List Br) (w : World) (hn : n = l.length) (hc1 : l.length ≤ c) (hc2 : c ≤ 9223372036854775807) (hb : BrAt w A l) (hk : (kind == 1) = false) :
    Calls Try.prog 60 #[.agg #[.int .i64 kind, .slice A n c], .agg #[.int .i64 5, .int .i64 kd, .int .i64 ar, .int .i64 at_, .int .i64 nn]] w (AhRet w ⟨kind, l⟩ (mustI false)) := by
  have Z := Zb.start w kind A n c (5) kd ar at_ nn l hb
  have Z1 := Z.drew
  have hn0 : n ≤ 9223372036854775807 := by omega
  have HN := hid hn
  have HC := hid hc1
  have HB0 := hid hb
  clear hn hc1 hb
  obtain ⟨R, hR⟩ : ∃ R, R = AhRet w ⟨kind, l⟩ (mustI false) := ⟨_, rfl⟩
  rw [← hR]
  have HR := hid hR
  clear hR
  go_enter Try.func60, Try.ntmps60
  go_wp2_with (first | (go_at_call 96; refine (must_any _ _).mono ?_; rintro e w' ⟨rfl, hb⟩; have Z' := Zb.below (by assumption) hb; obtain ⟨z0, z1, z2, z3⟩ := And.intro Z'.z0 (And.intro Z'.z1 (And.intro Z'.f0 Z'.f1)); obtain ⟨y0, y1, y2, y3, y4, y5⟩ := And.intro Z'.c0 (And.intro Z'.c1 (And.intro Z'.d0 (And.intro Z'.d1 (And.intro Z'.d2 Z'.d3))))) | (go_at_call 97; refine (logic_any _ _).mono ?_; rintro e w' ⟨rfl, hb⟩; have Z' := Zb.below (by assumption) hb; obtain ⟨z0, z1, z2, z3⟩ := And.intro Z'.z0 (And.intro Z'.z1 (And.intro Z'.f0 Z'.f1)); obtain ⟨y0, y1, y2, y3, y4, y5⟩ := And.intro Z'.c0 (And.intro Z'.c1 (And.intro Z'.d0 (And.intro Z'.d1 (And.intro Z'.d2 Z'.d3))))) | (go_at_call 85; refine (may_any _ _ _).mono ?_; rintro e w' ⟨rfl, hb⟩; have Z' := Zb.below (by assumption) hb; obtain ⟨z0, z1, z2, z3⟩ := And.intro Z'.z0 (And.intro Z'.z1 (And.intro Z'.f0 Z'.f1)); obtain ⟨y0, y1, y2, y3, y4, y5⟩ := And.intro Z'.c0 (And.intro Z'.c1 (And.intro Z'.d0 (And.intro Z'.d1 (And.intro Z'.d2 Z'.d3))))) | (go_at_call 101; refine (made_any _ _ _).mono ?_; rintro e w' ⟨rfl, hb⟩; have Z' := Zb.below (by assumption) hb; obtain ⟨z0, z1, z2, z3⟩ := And.intro Z'.z0 (And.intro Z'.z1 (And.intro Z'.f0 Z'.f1)); obtain ⟨y0, y1, y2, y3, y4, y5⟩ := And.intro Z'.c0 (And.intro Z'.c1 (And.intro Z'.d0 (And.intro Z'.d1 (And.intro Z'.d2 Z'.d3))))) | (go_at_call 95; refine (with_any _ _ _ _ _ _).mono ?_; rintro e w' ⟨rfl, hb⟩; have Z' := Zb.below (by assumption) hb; obtain ⟨z0, z1, z2, z3⟩ := And.intro Z'.z0 (And.intro Z'.z1 (And.intro Z'.f0 Z'.f1)); obtain ⟨y0, y1, y2, y3, y4, y5⟩ := And.intro Z'.c0 (And.intro Z'.c1 (And.intro Z'.d0 (And.intro Z'.d1 (And.intro Z'.d2 Z'.d3))))) | (go_at_call 98; refine (ret_any _ _ _ _ _ _ (by omega)).mono ?_; rintro e w' ⟨rfl, hb⟩; have Z' := Zb.below (by assumption) hb; obtain ⟨z0, z1, z2, z3⟩ := And.intro Z'.z0 (And.intro Z'.z1 (And.intro Z'.f0 Z'.f1)); obtain ⟨y0, y1, y2, y3, y4, y5⟩ := And.intro Z'.c0 (And.intro Z'.c1 (And.intro Z'.d0 (And.intro Z'.d1 (And.intro Z'.d2 Z'.d3))))))
  refine quiet_tail (fun X => Zb w kind A n c (5) kd ar at_ nn l X) 8 (by kernel_rfl) (by kernel_rfl) Z1 ?_
  simp only [List.take_succ_cons, List.take_zero, List.drop_succ_cons, List.drop_zero]
  repeat (first | go_big_quiet_skip | (go_big_quiet_want; first | (go_big_quiet_op; go_big_quiet_on) | (apply Exists.intro; refine ⟨fun X hX => ?_, ?_⟩; · (obtain ⟨x0, x1, x2, x3, x4, x5⟩ := And.intro hX.c0 (And.intro hX.c1 (And.intro hX.d0 (And.intro hX.d1 (And.intro hX.d2 hX.d3)))); unfold Oper.quietAt; go_simp; first | done | rfl | exact ⟨rfl, rfl⟩ | (first | (go_at_call 96; refine (must_any _ _).mono ?_; rintro e w' ⟨rfl, hb⟩; exact ⟨rfl, hX.below hb⟩) | (go_at_call 97; refine (logic_any _ _).mono ?_; rintro e w' ⟨rfl, hb⟩; exact ⟨rfl, hX.below hb⟩) | (go_at_call 85; refine (may_any _ _ _).mono ?_; rintro e w' ⟨rfl, hb⟩; exact ⟨rfl, hX.below hb⟩) | (go_at_call 101; refine (made_any _ _ _).mono ?_; rintro e w' ⟨rfl, hb⟩; exact ⟨rfl, hX.below hb⟩) | (go_at_call 95; refine (with_any _ _ _ _ _ _).mono ?_; rintro e w' ⟨rfl, hb⟩; exact ⟨rfl, hX.below hb⟩)))); go_big_quiet_on; simp only [Act.put, List.setIfInBounds_toArray, List.set_cons_zero, List.set_cons_succ]))
  refine wpQuiet_nil ?_
  intro X Z'
  obtain ⟨z0, z1, z2, z3⟩ := And.intro Z'.z0 (And.intro Z'.z1 (And.intro Z'.f0 Z'.f1))
  go_wp2
  all_goals
    refine bodyPost_ret (v := .tuple #[.agg #[.int .i64 (kind), .slice A n c], .int .i64 (mustI false)]) (by simp [results, Try.results60, go_sem, z0, z1]) rfl ?_
    rw [HR.out]
    exact ⟨A, c, by rw [HN.out], (Z'.end_ Z'.br).1, (Z'.end_ Z'.br).2, HC.out, hc2⟩
theorem behind_6y (kind : Int) (A : Option Addr) (n c : Nat) (kd ar at_ nn : Int) (l : List Br) (w : World) (hn : n = l.length) (hc1 : l.length ≤ c) (hc2 : c ≤ 9223372036854775807) (hb : BrAt w A l) (hk : (kind == 1) = true) :
    Calls Try.prog 60 #[.agg #[.int .i64 kind, .slice A n c], .agg #[.int .i64 6, .int .i64 kd, .int .i64 ar, .int .i64 at_, .int .i64 nn]] w (AhRet w ⟨kind, l⟩ (mustI (kd == 1))) := by
  have Z := Zb.start w kind A n c (6) kd ar at_ nn l hb
  have Z1 := Z.drew
  have hn0 : n ≤ 9223372036854775807 := by omega
  have HN := hid hn
  have HC := hid hc1
  have HB0 := hid hb
  clear hn hc1 hb
  obtain ⟨R, hR⟩ : ∃ R, R = AhRet w ⟨kind, l⟩ (mustI (kd == 1)) := ⟨_, rfl⟩
  rw [← hR]
  have HR := hid hR
  clear hR
  go_enter Try.func60, Try.ntmps60
  go_wp2_with (first | (go_at_call 96; refine (must_any _ _).mono ?_; rintro e w' ⟨rfl, hb⟩; have Z' := Zb.below (by assumption) hb; obtain ⟨z0, z1, z2, z3⟩ := And.intro Z'.z0 (And.intro Z'.z1 (And.intro Z'.f0 Z'.f1)); obtain ⟨y0, y1, y2, y3, y4, y5⟩ := And.intro Z'.c0 (And.intro Z'.c1 (And.intro Z'.d0 (And.intro Z'.d1 (And.intro Z'.d2 Z'.d3))))) | (go_at_call 97; refine (logic_any _ _).mono ?_; rintro e w' ⟨rfl, hb⟩; have Z' := Zb.below (by assumption) hb; obtain ⟨z0, z1, z2, z3⟩ := And.intro Z'.z0 (And.intro Z'.z1 (And.intro Z'.f0 Z'.f1)); obtain ⟨y0, y1, y2, y3, y4, y5⟩ := And.intro Z'.c0 (And.intro Z'.c1 (And.intro Z'.d0 (And.intro Z'.d1 (And.intro Z'.d2 Z'.d3))))) | (go_at_call 85; refine (may_any _ _ _).mono ?_; rintro e w' ⟨rfl, hb⟩; have Z' := Zb.below (by assumption) hb; obtain ⟨z0, z1, z2, z3⟩ := And.intro Z'.z0 (And.intro Z'.z1 (And.intro Z'.f0 Z'.f1)); obtain ⟨y0, y1, y2, y3, y4, y5⟩ := And.intro Z'.c0 (And.intro Z'.c1 (And.intro Z'.d0 (And.intro Z'.d1 (And.intro Z'.d2 Z'.d3))))) | (go_at_call 101; refine (made_any _ _ _).mono ?_; rintro e w' ⟨rfl, hb⟩; have Z' := Zb.below (by assumption) hb; obtain ⟨z0, z1, z2, z3⟩ := And.intro Z'.z0 (And.intro Z'.z1 (And.intro Z'.f0 Z'.f1)); obtain ⟨y0, y1, y2, y3, y4, y5⟩ := And.intro Z'.c0 (And.intro Z'.c1 (And.intro Z'.d0 (And.intro Z'.d1 (And.intro Z'.d2 Z'.d3))))) | (go_at_call 95; refine (with_any _ _ _ _ _ _).mono ?_; rintro e w' ⟨rfl, hb⟩; have Z' := Zb.below (by assumption) hb; obtain ⟨z0, z1, z2, z3⟩ := And.intro Z'.z0 (And.intro Z'.z1 (And.intro Z'.f0 Z'.f1)); obtain ⟨y0, y1, y2, y3, y4, y5⟩ := And.intro Z'.c0 (And.intro Z'.c1 (And.intro Z'.d0 (And.intro Z'.d1 (And.intro Z'.d2 Z'.d3))))) | (go_at_call 98; refine (ret_any _ _ _ _ _ _ (by omega)).mono ?_; rintro e w' ⟨rfl, hb⟩; have Z' := Zb.below (by assumption) hb; obtain ⟨z0, z1, z2, z3⟩ := And.intro Z'.z0 (And.intro Z'.z1 (And.intro Z'.f0 Z'.f1)); obtain ⟨y0, y1, y2, y3, y4, y5⟩ := And.intro Z'.c0 (And.intro Z'.c1 (And.intro Z'.d0 (And.intro Z'.d1 (And.intro Z'.d2 Z'.d3))))))
  refine quiet_tail (fun X => Zb w kind A n c (6) kd ar at_ nn l X) 8 (by kernel_rfl) (by kernel_rfl) Z1 ?_
  simp only [List.take_succ_cons, List.take_zero, List.drop_succ_cons, List.drop_zero]
  repeat (first | go_big_quiet_skip | (go_big_quiet_want; first | (go_big_quiet_op; go_big_quiet_on) | (apply Exists.intro; refine ⟨fun X hX => ?_, ?_⟩; · (obtain ⟨x0, x1, x2, x3, x4, x5⟩ := And.intro hX.c0 (And.intro hX.c1 (And.intro hX.d0 (And.intro hX.d1 (And.intro hX.d2 hX.d3)))); unfold Oper.quietAt; go_simp; first | done | rfl | exact ⟨rfl, rfl⟩ | (first | (go_at_call 96; refine (must_any _ _).mono ?_; rintro e w' ⟨rfl, hb⟩; exact ⟨rfl, hX.below hb⟩) | (go_at_call 97; refine (logic_any _ _).mono ?_; rintro e w' ⟨rfl, hb⟩; exact ⟨rfl, hX.below hb⟩) | (go_at_call 85; refine (may_any _ _ _).mono ?_; rintro e w' ⟨rfl, hb⟩; exact ⟨rfl, hX.below hb⟩) | (go_at_call 101; refine (made_any _ _ _).mono ?_; rintro e w' ⟨rfl, hb⟩; exact ⟨rfl, hX.below hb⟩) | (go_at_call 95; refine (with_any _ _ _ _ _ _).mono ?_; rintro e w' ⟨rfl, hb⟩; exact ⟨rfl, hX.below hb⟩)))); go_big_quiet_on; simp only [Act.put, List.setIfInBounds_toArray, List.set_cons_zero, List.set_cons_succ]))
  refine wpQuiet_nil ?_
  intro X Z'
  obtain ⟨z0, z1, z2, z3⟩ := And.intro Z'.z0 (And.intro Z'.z1 (And.intro Z'.f0 Z'.f1))
  go_wp2
  all_goals
    refine bodyPost_ret (v := .tuple #[.agg #[.int .i64 (kind), .slice A n c], .int .i64 (mustI (kd == 1))]) (by simp [results, Try.results60, go_sem, z0, z1]) rfl ?_
    rw [HR.out]
    exact ⟨A, c, by rw [HN.out], (Z'.end_ Z'.br).1, (Z'.end_ Z'.br).2, HC.out, hc2⟩
theorem behind_6n (kind : Int) (A : Option Addr) (n c : Nat) (kd ar at_ nn : Int) (l : List Br) (w : World) (hn : n = l.length) (hc1 : l.length ≤ c) (hc2 : c ≤ 9223372036854775807) (hb : BrAt w A l) (hk : (kind == 1) = false) :
    Calls Try.prog 60 #[.agg #[.int .i64 kind, .slice A n c], .agg #[.int .i64 6, .int .i64 kd, .int .i64 ar, .int .i64 at_, .int .i64 nn]] w (AhRet w ⟨kind, l⟩ (mustI false)) := by
  have Z := Zb.start w kind A n c (6) kd ar at_ nn l hb
  have Z1 := Z.drew
  have hn0 : n ≤ 9223372036854775807 := by omega
  have HN := hid hn
  have HC := hid hc1
  have HB0 := hid hb
  clear hn hc1 hb
  obtain ⟨R, hR⟩ : ∃ R, R = AhRet w ⟨kind, l⟩ (mustI false) := ⟨_, rfl⟩
  rw [← hR]
  have HR := hid hR
  clear hR
  go_enter Try.func60, Try.ntmps60
  go_wp2_with (first | (go_at_call 96; refine (must_any _ _).mono ?_; rintro e w' ⟨rfl, hb⟩; have Z' := Zb.below (by assumption) hb; obtain ⟨z0, z1, z2, z3⟩ := And.intro Z'.z0 (And.intro Z'.z1 (And.intro Z'.f0 Z'.f1)); obtain ⟨y0, y1, y2, y3, y4, y5⟩ := And.intro Z'.c0 (And.intro Z'.c1 (And.intro Z'.d0 (And.intro Z'.d1 (And.intro Z'.d2 Z'.d3))))) | (go_at_call 97; refine (logic_any _ _).mono ?_; rintro e w' ⟨rfl, hb⟩; have Z' := Zb.below (by assumption) hb; obtain ⟨z0, z1, z2, z3⟩ := And.intro Z'.z0 (And.intro Z'.z1 (And.intro Z'.f0 Z'.f1)); obtain ⟨y0, y1, y2, y3, y4, y5⟩ := And.intro Z'.c0 (And.intro Z'.c1 (And.intro Z'.d0 (And.intro Z'.d1 (And.intro Z'.d2 Z'.d3))))) | (go_at_call 85; refine (may_any _ _ _).mono ?_; rintro e w' ⟨rfl, hb⟩; have Z' := Zb.below (by assumption) hb; obtain ⟨z0, z1, z2, z3⟩ := And.intro Z'.z0 (And.intro Z'.z1 (And.intro Z'.f0 Z'.f1)); obtain ⟨y0, y1, y2, y3, y4, y5⟩ := And.intro Z'.c0 (And.intro Z'.c1 (And.intro Z'.d0 (And.intro Z'.d1 (And.intro Z'.d2 Z'.d3))))) | (go_at_call 101; refine (made_any _ _ _).mono ?_; rintro e w' ⟨rfl, hb⟩; have Z' := Zb.below (by assumption) hb; obtain ⟨z0, z1, z2, z3⟩ := And.intro Z'.z0 (And.intro Z'.z1 (And.intro Z'.f0 Z'.f1)); obtain ⟨y0, y1, y2, y3, y4, y5⟩ := And.intro Z'.c0 (And.intro Z'.c1 (And.intro Z'.d0 (And.intro Z'.d1 (And.intro Z'.d2 Z'.d3))))) | (go_at_call 95; refine (with_any _ _ _ _ _ _).mono ?_; rintro e w' ⟨rfl, hb⟩; have Z' := Zb.below (by assumption) hb; obtain ⟨z0, z1, z2, z3⟩ := And.intro Z'.z0 (And.intro Z'.z1 (And.intro Z'.f0 Z'.f1)); obtain ⟨y0, y1, y2, y3, y4, y5⟩ := And.intro Z'.c0 (And.intro Z'.c1 (And.intro Z'.d0 (And.intro Z'.d1 (And.intro Z'.d2 Z'.d3))))) | (go_at_call 98; refine (ret_any _ _ _ _ _ _ (by omega)).mono ?_; rintro e w' ⟨rfl, hb⟩; have Z' := Zb.below (by assumption) hb; obtain ⟨z0, z1, z2, z3⟩ := And.intro Z'.z0 (And.intro Z'.z1 (And.intro Z'.f0 Z'.f1)); obtain ⟨y0, y1, y2, y3, y4, y5⟩ := And.intro Z'.c0 (And.intro Z'.c1 (And.intro Z'.d0 (And.intro Z'.d1 (And.intro Z'.d2 Z'.d3))))))
  refine quiet_tail (fun X => Zb w kind A n c (6) kd ar at_ nn l X) 8 (by kernel_rfl) (by kernel_rfl) Z1 ?_
  simp only [List.take_succ_cons, List.take_zero, List.drop_succ_cons, List.drop_zero]
  repeat (first | go_big_quiet_skip | (go_big_quiet_want; first | (go_big_quiet_op; go_big_quiet_on) | (apply Exists.intro; refine ⟨fun X hX => ?_, ?_⟩; · (obtain ⟨x0, x1, x2, x3, x4, x5⟩ := And.intro hX.c0 (And.intro hX.c1 (And.intro hX.d0 (And.intro hX.d1 (And.intro hX.d2 hX.d3)))); unfold Oper.quietAt; go_simp; first | done | rfl | exact ⟨rfl, rfl⟩ | (first | (go_at_call 96; refine (must_any _ _).mono ?_; rintro e w' ⟨rfl, hb⟩; exact ⟨rfl, hX.below hb⟩) | (go_at_call 97; refine (logic_any _ _).mono ?_; rintro e w' ⟨rfl, hb⟩; exact ⟨rfl, hX.below hb⟩) | (go_at_call 85; refine (may_any _ _ _).mono ?_; rintro e w' ⟨rfl, hb⟩; exact ⟨rfl, hX.below hb⟩) | (go_at_call 101; refine (made_any _ _ _).mono ?_; rintro e w' ⟨rfl, hb⟩; exact ⟨rfl, hX.below hb⟩) | (go_at_call 95; refine (with_any _ _ _ _ _ _).mono ?_; rintro e w' ⟨rfl, hb⟩; exact ⟨rfl, hX.below hb⟩)))); go_big_quiet_on; simp only [Act.put, List.setIfInBounds_toArray, List.set_cons_zero, List.set_cons_succ]))
  refine wpQuiet_nil ?_
  intro X Z'
  obtain ⟨z0, z1, z2, z3⟩ := And.intro Z'.z0 (And.intro Z'.z1 (And.intro Z'.f0 Z'.f1))
  go_wp2
  all_goals
    refine bodyPost_ret (v := .tuple #[.agg #[.int .i64 (kind), .slice A n c], .int .i64 (mustI false)]) (by simp [results, Try.results60, go_sem, z0, z1]) rfl ?_
    rw [HR.out]
    exact ⟨A, c, by rw [HN.out], (Z'.end_ Z'.br).1, (Z'.end_ Z'.br).2, HC.out, hc2⟩
theorem behind_13 (kind : Int) (A : Option Addr) (n c : Nat) (kd ar at_ nn : Int) (l : List Br) (w : World) (hn : n = l.length) (hc1 : l.length ≤ c) (hc2 : c ≤ 9223372036854775807) (hb : BrAt w A l) :
    Calls Try.prog 60 #[.agg #[.int .i64 kind, .slice A n c], .agg #[.int .i64 13, .int .i64 kd, .int .i64 ar, .int .i64 at_, .int .i64 nn]] w (AhRet w ⟨kind, l⟩ (mustI (logicB kind))) := by
  have Z := Zb.start w kind A n c (13) kd ar at_ nn l hb
  have Z1 := Z.drew
  have hn0 : n ≤ 9223372036854775807 := by omega
  have HN := hid hn
  have HC := hid hc1
  have HB0 := hid hb
  clear hn hc1 hb
  obtain ⟨R, hR⟩ : ∃ R, R = AhRet w ⟨kind, l⟩ (mustI (logicB kind)) := ⟨_, rfl⟩
  rw [← hR]
  have HR := hid hR
  clear hR
  go_enter Try.func60, Try.ntmps60
  go_wp2_with (first | (go_at_call 96; refine (must_any _ _).mono ?_; rintro e w' ⟨rfl, hb⟩; have Z' := Zb.below (by assumption) hb; obtain ⟨z0, z1, z2, z3⟩ := And.intro Z'.z0 (And.intro Z'.z1 (And.intro Z'.f0 Z'.f1)); obtain ⟨y0, y1, y2, y3, y4, y5⟩ := And.intro Z'.c0 (And.intro Z'.c1 (And.intro Z'.d0 (And.intro Z'.d1 (And.intro Z'.d2 Z'.d3))))) | (go_at_call 97; refine (logic_any _ _).mono ?_; rintro e w' ⟨rfl, hb⟩; have Z' := Zb.below (by assumption) hb; obtain ⟨z0, z1, z2, z3⟩ := And.intro Z'.z0 (And.intro Z'.z1 (And.intro Z'.f0 Z'.f1)); obtain ⟨y0, y1, y2, y3, y4, y5⟩ := And.intro Z'.c0 (And.intro Z'.c1 (And.intro Z'.d0 (And.intro Z'.d1 (And.intro Z'.d2 Z'.d3))))) | (go_at_call 85; refine (may_any _ _ _).mono ?_; rintro e w' ⟨rfl, hb⟩; have Z' := Zb.below (by assumption) hb; obtain ⟨z0, z1, z2, z3⟩ := And.intro Z'.z0 (And.intro Z'.z1 (And.intro Z'.f0 Z'.f1)); obtain ⟨y0, y1, y2, y3, y4, y5⟩ := And.intro Z'.c0 (And.intro Z'.c1 (And.intro Z'.d0 (And.intro Z'.d1 (And.intro Z'.d2 Z'.d3))))) | (go_at_call 101; refine (made_any _ _ _).mono ?_; rintro e w' ⟨rfl, hb⟩; have Z' := Zb.below (by assumption) hb; obtain ⟨z0, z1, z2, z3⟩ := And.intro Z'.z0 (And.intro Z'.z1 (And.intro Z'.f0 Z'.f1)); obtain ⟨y0, y1, y2, y3, y4, y5⟩ := And.intro Z'.c0 (And.intro Z'.c1 (And.intro Z'.d0 (And.intro Z'.d1 (And.intro Z'.d2 Z'.d3))))) | (go_at_call 95; refine (with_any _ _ _ _ _ _).mono ?_; rintro e w' ⟨rfl, hb⟩; have Z' := Zb.below (by assumption) hb; obtain ⟨z0, z1, z2, z3⟩ := And.intro Z'.z0 (And.intro Z'.z1 (And.intro Z'.f0 Z'.f1)); obtain ⟨y0, y1, y2, y3, y4, y5⟩ := And.intro Z'.c0 (And.intro Z'.c1 (And.intro Z'.d0 (And.intro Z'.d1 (And.intro Z'.d2 Z'.d3))))) | (go_at_call 98; refine (ret_any _ _ _ _ _ _ (by omega)).mono ?_; rintro e w' ⟨rfl, hb⟩; have Z' := Zb.below (by assumption) hb; obtain ⟨z0, z1, z2, z3⟩ := And.intro Z'.z0 (And.intro Z'.z1 (And.intro Z'.f0 Z'.f1)); obtain ⟨y0, y1, y2, y3, y4, y5⟩ := And.intro Z'.c0 (And.intro Z'.c1 (And.intro Z'.d0 (And.intro Z'.d1 (And.intro Z'.d2 Z'.d3))))))
  refine quiet_tail (fun X => Zb w kind A n c (13) kd ar at_ nn l X) 5 (by kernel_rfl) (by kernel_rfl) Z1 ?_
  simp only [List.take_succ_cons, List.take_zero, List.drop_succ_cons, List.drop_zero]
  repeat (first | go_big_quiet_skip | (go_big_quiet_want; first | (go_big_quiet_op; go_big_quiet_on) | (apply Exists.intro; refine ⟨fun X hX => ?_, ?_⟩; · (obtain ⟨x0, x1, x2, x3, x4, x5⟩ := And.intro hX.c0 (And.intro hX.c1 (And.intro hX.d0 (And.intro hX.d1 (And.intro hX.d2 hX.d3)))); unfold Oper.quietAt; go_simp; first | done | rfl | exact ⟨rfl, rfl⟩ | (first | (go_at_call 96; refine (must_any _ _).mono ?_; rintro e w' ⟨rfl, hb⟩; exact ⟨rfl, hX.below hb⟩) | (go_at_call 97; refine (logic_any _ _).mono ?_; rintro e w' ⟨rfl, hb⟩; exact ⟨rfl, hX.below hb⟩) | (go_at_call 85; refine (may_any _ _ _).mono ?_; rintro e w' ⟨rfl, hb⟩; exact ⟨rfl, hX.below hb⟩) | (go_at_call 101; refine (made_any _ _ _).mono ?_; rintro e w' ⟨rfl, hb⟩; exact ⟨rfl, hX.below hb⟩) | (go_at_call 95; refine (with_any _ _ _ _ _ _).mono ?_; rintro e w' ⟨rfl, hb⟩; exact ⟨rfl, hX.below hb⟩)))); go_big_quiet_on; simp only [Act.put, List.setIfInBounds_toArray, List.set_cons_zero, List.set_cons_succ]))
  refine wpQuiet_nil ?_
  intro X Z'
  obtain ⟨z0, z1, z2, z3⟩ := And.intro Z'.z0 (And.intro Z'.z1 (And.intro Z'.f0 Z'.f1))
  go_wp2
  all_goals
    refine bodyPost_ret (v := .tuple #[.agg #[.int .i64 (kind), .slice A n c], .int .i64 (mustI (logicB kind))]) (by simp [results, Try.results60, go_sem, z0, z1]) rfl ?_
    rw [HR.out]
    exact ⟨A, c, by rw [HN.out], (Z'.end_ Z'.br).1, (Z'.end_ Z'.br).2, HC.out, hc2⟩
theorem behind_25 (kind : Int) (A : Option Addr) (n c : Nat) (kd ar at_ nn : Int) (l : List Br) (w : World) (hn : n = l.length) (hc1 : l.length ≤ c) (hc2 : c ≤ 9223372036854775807) (hb : BrAt w A l) :
    Calls Try.prog 60 #[.agg #[.int .i64 kind, .slice A n c], .agg #[.int .i64 25, .int .i64 kd, .int .i64 ar, .int .i64 at_, .int .i64 nn]] w (AhRet w ⟨kind, l⟩ (0)) := by
  have Z := Zb.start w kind A n c (25) kd ar at_ nn l hb
  have Z1 := Z.drew
  have hn0 : n ≤ 9223372036854775807 := by omega
  have HN := hid hn
  have HC := hid hc1
  have HB0 := hid hb
  clear hn hc1 hb
  obtain ⟨R, hR⟩ : ∃ R, R = AhRet w ⟨kind, l⟩ (0) := ⟨_, rfl⟩
  rw [← hR]
  have HR := hid hR
  clear hR
  go_enter Try.func60, Try.ntmps60
  go_wp2_with (first | (go_at_call 96; refine (must_any _ _).mono ?_; rintro e w' ⟨rfl, hb⟩; have Z' := Zb.below (by assumption) hb; obtain ⟨z0, z1, z2, z3⟩ := And.intro Z'.z0 (And.intro Z'.z1 (And.intro Z'.f0 Z'.f1)); obtain ⟨y0, y1, y2, y3, y4, y5⟩ := And.intro Z'.c0 (And.intro Z'.c1 (And.intro Z'.d0 (And.intro Z'.d1 (And.intro Z'.d2 Z'.d3))))) | (go_at_call 97; refine (logic_any _ _).mono ?_; rintro e w' ⟨rfl, hb⟩; have Z' := Zb.below (by assumption) hb; obtain ⟨z0, z1, z2, z3⟩ := And.intro Z'.z0 (And.intro Z'.z1 (And.intro Z'.f0 Z'.f1)); obtain ⟨y0, y1, y2, y3, y4, y5⟩ := And.intro Z'.c0 (And.intro Z'.c1 (And.intro Z'.d0 (And.intro Z'.d1 (And.intro Z'.d2 Z'.d3))))) | (go_at_call 85; refine (may_any _ _ _).mono ?_; rintro e w' ⟨rfl, hb⟩; have Z' := Zb.below (by assumption) hb; obtain ⟨z0, z1, z2, z3⟩ := And.intro Z'.z0 (And.intro Z'.z1 (And.intro Z'.f0 Z'.f1)); obtain ⟨y0, y1, y2, y3, y4, y5⟩ := And.intro Z'.c0 (And.intro Z'.c1 (And.intro Z'.d0 (And.intro Z'.d1 (And.intro Z'.d2 Z'.d3))))) | (go_at_call 101; refine (made_any _ _ _).mono ?_; rintro e w' ⟨rfl, hb⟩; have Z' := Zb.below (by assumption) hb; obtain ⟨z0, z1, z2, z3⟩ := And.intro Z'.z0 (And.intro Z'.z1 (And.intro Z'.f0 Z'.f1)); obtain ⟨y0, y1, y2, y3, y4, y5⟩ := And.intro Z'.c0 (And.intro Z'.c1 (And.intro Z'.d0 (And.intro Z'.d1 (And.intro Z'.d2 Z'.d3))))) | (go_at_call 95; refine (with_any _ _ _ _ _ _).mono ?_; rintro e w' ⟨rfl, hb⟩; have Z' := Zb.below (by assumption) hb; obtain ⟨z0, z1, z2, z3⟩ := And.intro Z'.z0 (And.intro Z'.z1 (And.intro Z'.f0 Z'.f1)); obtain ⟨y0, y1, y2, y3, y4, y5⟩ := And.intro Z'.c0 (And.intro Z'.c1 (And.intro Z'.d0 (And.intro Z'.d1 (And.intro Z'.d2 Z'.d3))))) | (go_at_call 98; refine (ret_any _ _ _ _ _ _ (by omega)).mono ?_; rintro e w' ⟨rfl, hb⟩; have Z' := Zb.below (by assumption) hb; obtain ⟨z0, z1, z2, z3⟩ := And.intro Z'.z0 (And.intro Z'.z1 (And.intro Z'.f0 Z'.f1)); obtain ⟨y0, y1, y2, y3, y4, y5⟩ := And.intro Z'.c0 (And.intro Z'.c1 (And.intro Z'.d0 (And.intro Z'.d1 (And.intro Z'.d2 Z'.d3))))))
  all_goals
    refine bodyPost_ret (v := .tuple #[.agg #[.int .i64 (kind), .slice A n c], .int .i64 (0)]) (by simp [results, Try.results60, go_sem]) rfl ?_
    rw [HR.out]
    refine ⟨A, c, by rw [HN.out], ?_, ?_, HC.out, hc2⟩
    · exact (by repeat (first | exact Below.refl _ _ | assumption | (with_reducible refine below_alloc' ?_ _) | (with_reducible refine below_drew' ?_) | (with_reducible refine below_drewN' ?_ _) | (with_reducible refine below_setCell' ?_ (by first | omega | (simp; omega) | (simp; done)) _) | (refine below_then' ?_ (by assumption))))
    · exact BrAt.below HB0.out (by repeat (first | exact Below.refl _ _ | assumption | (with_reducible refine below_alloc' ?_ _) | (with_reducible refine below_drew' ?_) | (with_reducible refine below_drewN' ?_ _) | (with_reducible refine below_setCell' ?_ (by first | omega | (simp; omega) | (simp; done)) _) | (refine below_then' ?_ (by assumption))))
theorem behind_26 (kind : Int) (A : Option Addr) (n c : Nat) (kd ar at_ nn : Int) (l : List Br) (w : World) (hn : n = l.length) (hc1 : l.length ≤ c) (hc2 : c ≤ 9223372036854775807) (hb : BrAt w A l) :
    Calls Try.prog 60 #[.agg #[.int .i64 kind, .slice A n c], .agg #[.int .i64 26, .int .i64 kd, .int .i64 ar, .int .i64 at_, .int .i64 nn]] w (AhRet w ⟨kind, l⟩ (mustI (kind == 1))) := by
  have Z := Zb.start w kind A n c (26) kd ar at_ nn l hb
  have Z1 := Z.drew
  have hn0 : n ≤ 9223372036854775807 := by omega
  have HN := hid hn
  have HC := hid hc1
  have HB0 := hid hb
  clear hn hc1 hb
  obtain ⟨R, hR⟩ : ∃ R, R = AhRet w ⟨kind, l⟩ (mustI (kind == 1)) := ⟨_, rfl⟩
  rw [← hR]
  have HR := hid hR
  clear hR
  go_enter Try.func60, Try.ntmps60
  go_wp2_with (first | (go_at_call 96; refine (must_any _ _).mono ?_; rintro e w' ⟨rfl, hb⟩; have Z' := Zb.below (by assumption) hb; obtain ⟨z0, z1, z2, z3⟩ := And.intro Z'.z0 (And.intro Z'.z1 (And.intro Z'.f0 Z'.f1)); obtain ⟨y0, y1, y2, y3, y4, y5⟩ := And.intro Z'.c0 (And.intro Z'.c1 (And.intro Z'.d0 (And.intro Z'.d1 (And.intro Z'.d2 Z'.d3))))) | (go_at_call 97; refine (logic_any _ _).mono ?_; rintro e w' ⟨rfl, hb⟩; have Z' := Zb.below (by assumption) hb; obtain ⟨z0, z1, z2, z3⟩ := And.intro Z'.z0 (And.intro Z'.z1 (And.intro Z'.f0 Z'.f1)); obtain ⟨y0, y1, y2, y3, y4, y5⟩ := And.intro Z'.c0 (And.intro Z'.c1 (And.intro Z'.d0 (And.intro Z'.d1 (And.intro Z'.d2 Z'.d3))))) | (go_at_call 85; refine (may_any _ _ _).mono ?_; rintro e w' ⟨rfl, hb⟩; have Z' := Zb.below (by assumption) hb; obtain ⟨z0, z1, z2, z3⟩ := And.intro Z'.z0 (And.intro Z'.z1 (And.intro Z'.f0 Z'.f1)); obtain ⟨y0, y1, y2, y3, y4, y5⟩ := And.intro Z'.c0 (And.intro Z'.c1 (And.intro Z'.d0 (And.intro Z'.d1 (And.intro Z'.d2 Z'.d3))))) | (go_at_call 101; refine (made_any _ _ _).mono ?_; rintro e w' ⟨rfl, hb⟩; have Z' := Zb.below (by assumption) hb; obtain ⟨z0, z1, z2, z3⟩ := And.intro Z'.z0 (And.intro Z'.z1 (And.intro Z'.f0 Z'.f1)); obtain ⟨y0, y1, y2, y3, y4, y5⟩ := And.intro Z'.c0 (And.intro Z'.c1 (And.intro Z'.d0 (And.intro Z'.d1 (And.intro Z'.d2 Z'.d3))))) | (go_at_call 95; refine (with_any _ _ _ _ _ _).mono ?_; rintro e w' ⟨rfl, hb⟩; have Z' := Zb.below (by assumption) hb; obtain ⟨z0, z1, z2, z3⟩ := And.intro Z'.z0 (And.intro Z'.z1 (And.intro Z'.f0 Z'.f1)); obtain ⟨y0, y1, y2, y3, y4, y5⟩ := And.intro Z'.c0 (And.intro Z'.c1 (And.intro Z'.d0 (And.intro Z'.d1 (And.intro Z'.d2 Z'.d3))))) | (go_at_call 98; refine (ret_any _ _ _ _ _ _ (by omega)).mono ?_; rintro e w' ⟨rfl, hb⟩; have Z' := Zb.below (by assumption) hb; obtain ⟨z0, z1, z2, z3⟩ := And.intro Z'.z0 (And.intro Z'.z1 (And.intro Z'.f0 Z'.f1)); obtain ⟨y0, y1, y2, y3, y4, y5⟩ := And.intro Z'.c0 (And.intro Z'.c1 (And.intro Z'.d0 (And.intro Z'.d1 (And.intro Z'.d2 Z'.d3))))))
  refine quiet_tail (fun X => Zb w kind A n c (26) kd ar at_ nn l X) 3 (by kernel_rfl) (by kernel_rfl) Z1 ?_
  simp only [List.take_succ_cons, List.take_zero, List.drop_succ_cons, List.drop_zero]
  repeat (first | go_big_quiet_skip | (go_big_quiet_want; first | (go_big_quiet_op; go_big_quiet_on) | (apply Exists.intro; refine ⟨fun X hX => ?_, ?_⟩; · (obtain ⟨x0, x1, x2, x3, x4, x5⟩ := And.intro hX.c0 (And.intro hX.c1 (And.intro hX.d0 (And.intro hX.d1 (And.intro hX.d2 hX.d3)))); unfold Oper.quietAt; go_simp; first | done | rfl | exact ⟨rfl, rfl⟩ | (first | (go_at_call 96; refine (must_any _ _).mono ?_; rintro e w' ⟨rfl, hb⟩; exact ⟨rfl, hX.below hb⟩) | (go_at_call 97; refine (logic_any _ _).mono ?_; rintro e w' ⟨rfl, hb⟩; exact ⟨rfl, hX.below hb⟩) | (go_at_call 85; refine (may_any _ _ _).mono ?_; rintro e w' ⟨rfl, hb⟩; exact ⟨rfl, hX.below hb⟩) | (go_at_call 101; refine (made_any _ _ _).mono ?_; rintro e w' ⟨rfl, hb⟩; exact ⟨rfl, hX.below hb⟩) | (go_at_call 95; refine (with_any _ _ _ _ _ _).mono ?_; rintro e w' ⟨rfl, hb⟩; exact ⟨rfl, hX.below hb⟩)))); go_big_quiet_on; simp only [Act.put, List.setIfInBounds_toArray, List.set_cons_zero, List.set_cons_succ]))
  refine wpQuiet_nil ?_
  intro X Z'
  obtain ⟨z0, z1, z2, z3⟩ := And.intro Z'.z0 (And.intro Z'.z1 (And.intro Z'.f0 Z'.f1))
  go_wp2
  all_goals
    refine bodyPost_ret (v := .tuple #[.agg #[.int .i64 (kind), .slice A n c], .int .i64 (mustI (kind == 1))]) (by simp [results, Try.results60, go_sem, z0, z1]) rfl ?_
    rw [HR.out]
    exact ⟨A, c, by rw [HN.out], (Z'.end_ Z'.br).1, (Z'.end_ Z'.br).2, HC.out, hc2⟩
theorem behind_27 (kind : Int) (A : Option Addr) (n c : Nat) (kd ar at_ nn : Int) (l : List Br) (w : World) (hn : n = l.length) (hc1 : l.length ≤ c) (hc2 : c ≤ 9223372036854775807) (hb : BrAt w A l) :
    Calls Try.prog 60 #[.agg #[.int .i64 kind, .slice A n c], .agg #[.int .i64 27, .int .i64 kd, .int .i64 ar, .int .i64 at_, .int .i64 nn]] w (AhRet w ⟨kind, l⟩ (mustI (kind == 1))) := by
  have Z := Zb.start w kind A n c (27) kd ar at_ nn l hb
  have Z1 := Z.drew
  have hn0 : n ≤ 9223372036854775807 := by omega
  have HN := hid hn
  have HC := hid hc1
  have HB0 := hid hb
  clear hn hc1 hb
  obtain ⟨R, hR⟩ : ∃ R, R = AhRet w ⟨kind, l⟩ (mustI (kind == 1)) := ⟨_, rfl⟩
  rw [← hR]
  have HR := hid hR
  clear hR
  go_enter Try.func60, Try.ntmps60
  go_wp2_with (first | (go_at_call 96; refine (must_any _ _).mono ?_; rintro e w' ⟨rfl, hb⟩; have Z' := Zb.below (by assumption) hb; obtain ⟨z0, z1, z2, z3⟩ := And.intro Z'.z0 (And.intro Z'.z1 (And.intro Z'.f0 Z'.f1)); obtain ⟨y0, y1, y2, y3, y4, y5⟩ := And.intro Z'.c0 (And.intro Z'.c1 (And.intro Z'.d0 (And.intro Z'.d1 (And.intro Z'.d2 Z'.d3))))) | (go_at_call 97; refine (logic_any _ _).mono ?_; rintro e w' ⟨rfl, hb⟩; have Z' := Zb.below (by assumption) hb; obtain ⟨z0, z1, z2, z3⟩ := And.intro Z'.z0 (And.intro Z'.z1 (And.intro Z'.f0 Z'.f1)); obtain ⟨y0, y1, y2, y3, y4, y5⟩ := And.intro Z'.c0 (And.intro Z'.c1 (And.intro Z'.d0 (And.intro Z'.d1 (And.intro Z'.d2 Z'.d3))))) | (go_at_call 85; refine (may_any _ _ _).mono ?_; rintro e w' ⟨rfl, hb⟩; have Z' := Zb.below (by assumption) hb; obtain ⟨z0, z1, z2, z3⟩ := And.intro Z'.z0 (And.intro Z'.z1 (And.intro Z'.f0 Z'.f1)); obtain ⟨y0, y1, y2, y3, y4, y5⟩ := And.intro Z'.c0 (And.intro Z'.c1 (And.intro Z'.d0 (And.intro Z'.d1 (And.intro Z'.d2 Z'.d3))))) | (go_at_call 101; refine (made_any _ _ _).mono ?_; rintro e w' ⟨rfl, hb⟩; have Z' := Zb.below (by assumption) hb; obtain ⟨z0, z1, z2, z3⟩ := And.intro Z'.z0 (And.intro Z'.z1 (And.intro Z'.f0 Z'.f1)); obtain ⟨y0, y1, y2, y3, y4, y5⟩ := And.intro Z'.c0 (And.intro Z'.c1 (And.intro Z'.d0 (And.intro Z'.d1 (And.intro Z'.d2 Z'.d3))))) | (go_at_call 95; refine (with_any _ _ _ _ _ _).mono ?_; rintro e w' ⟨rfl, hb⟩; have Z' := Zb.below (by assumption) hb; obtain ⟨z0, z1, z2, z3⟩ := And.intro Z'.z0 (And.intro Z'.z1 (And.intro Z'.f0 Z'.f1)); obtain ⟨y0, y1, y2, y3, y4, y5⟩ := And.intro Z'.c0 (And.intro Z'.c1 (And.intro Z'.d0 (And.intro Z'.d1 (And.intro Z'.d2 Z'.d3))))) | (go_at_call 98; refine (ret_any _ _ _ _ _ _ (by omega)).mono ?_; rintro e w' ⟨rfl, hb⟩; have Z' := Zb.below (by assumption) hb; obtain ⟨z0, z1, z2, z3⟩ := And.intro Z'.z0 (And.intro Z'.z1 (And.intro Z'.f0 Z'.f1)); obtain ⟨y0, y1, y2, y3, y4, y5⟩ := And.intro Z'.c0 (And.intro Z'.c1 (And.intro Z'.d0 (And.intro Z'.d1 (And.intro Z'.d2 Z'.d3))))))
  refine quiet_tail (fun X => Zb w kind A n c (27) kd ar at_ nn l X) 3 (by kernel_rfl) (by kernel_rfl) Z1 ?_
  simp only [List.take_succ_cons, List.take_zero, List.drop_succ_cons, List.drop_zero]
  repeat (first | go_big_quiet_skip | (go_big_quiet_want; first | (go_big_quiet_op; go_big_quiet_on) | (apply Exists.intro; refine ⟨fun X hX => ?_, ?_⟩; · (obtain ⟨x0, x1, x2, x3, x4, x5⟩ := And.intro hX.c0 (And.intro hX.c1 (And.intro hX.d0 (And.intro hX.d1 (And.intro hX.d2 hX.d3)))); unfold Oper.quietAt; go_simp; first | done | rfl | exact ⟨rfl, rfl⟩ | (first | (go_at_call 96; refine (must_any _ _).mono ?_; rintro e w' ⟨rfl, hb⟩; exact ⟨rfl, hX.below hb⟩) | (go_at_call 97; refine (logic_any _ _).mono ?_; rintro e w' ⟨rfl, hb⟩; exact ⟨rfl, hX.below hb⟩) | (go_at_call 85; refine (may_any _ _ _).mono ?_; rintro e w' ⟨rfl, hb⟩; exact ⟨rfl, hX.below hb⟩) | (go_at_call 101; refine (made_any _ _ _).mono ?_; rintro e w' ⟨rfl, hb⟩; exact ⟨rfl, hX.below hb⟩) | (go_at_call 95; refine (with_any _ _ _ _ _ _).mono ?_; rintro e w' ⟨rfl, hb⟩; exact ⟨rfl, hX.below hb⟩)))); go_big_quiet_on; simp only [Act.put, List.setIfInBounds_toArray, List.set_cons_zero, List.set_cons_succ]))
  refine wpQuiet_nil ?_
  intro X Z'
  obtain ⟨z0, z1, z2, z3⟩ := And.intro Z'.z0 (And.intro Z'.z1 (And.intro Z'.f0 Z'.f1))
  go_wp2
  all_goals
    refine bodyPost_ret (v := .tuple #[.agg #[.int .i64 (kind), .slice A n c], .int .i64 (mustI (kind == 1))]) (by simp [results, Try.results60, go_sem, z0, z1]) rfl ?_
    rw [HR.out]
    exact ⟨A, c, by rw [HN.out], (Z'.end_ Z'.br).1, (Z'.end_ Z'.br).2, HC.out, hc2⟩
theorem behind_34 (kind : Int) (A : Option Addr) (n c : Nat) (kd ar at_ nn : Int) (l : List Br) (w : World) (hn : n = l.length) (hc1 : l.length ≤ c) (hc2 : c ≤ 9223372036854775807) (hb : BrAt w A l) :
    Calls Try.prog 60 #[.agg #[.int .i64 kind, .slice A n c], .agg #[.int .i64 34, .int .i64 kd, .int .i64 ar, .int .i64 at_, .int .i64 nn]] w (AhRet w ⟨kind, l⟩ (mustI (kind == 1))) := by
  have Z := Zb.start w kind A n c (34) kd ar at_ nn l hb
  have Z1 := Z.drew
  have hn0 : n ≤ 9223372036854775807 := by omega
  have HN := hid hn
  have HC := hid hc1
  have HB0 := hid hb
  clear hn hc1 hb
  obtain ⟨R, hR⟩ : ∃ R, R = AhRet w ⟨kind, l⟩ (mustI (kind == 1)) := ⟨_, rfl⟩
  rw [← hR]
  have HR := hid hR
  clear hR
  go_enter Try.func60, Try.ntmps60
  go_wp2_with (first | (go_at_call 96; refine (must_any _ _).mono ?_; rintro e w' ⟨rfl, hb⟩; have Z' := Zb.below (by assumption) hb; obtain ⟨z0, z1, z2, z3⟩ := And.intro Z'.z0 (And.intro Z'.z1 (And.intro Z'.f0 Z'.f1)); obtain ⟨y0, y1, y2, y3, y4, y5⟩ := And.intro Z'.c0 (And.intro Z'.c1 (And.intro Z'.d0 (And.intro Z'.d1 (And.intro Z'.d2 Z'.d3))))) | (go_at_call 97; refine (logic_any _ _).mono ?_; rintro e w' ⟨rfl, hb⟩; have Z' := Zb.below (by assumption) hb; obtain ⟨z0, z1, z2, z3⟩ := And.intro Z'.z0 (And.intro Z'.z1 (And.intro Z'.f0 Z'.f1)); obtain ⟨y0, y1, y2, y3, y4, y5⟩ := And.intro Z'.c0 (And.intro Z'.c1 (And.intro Z'.d0 (And.intro Z'.d1 (And.intro Z'.d2 Z'.d3))))) | (go_at_call 85; refine (may_any _ _ _).mono ?_; rintro e w' ⟨rfl, hb⟩; have Z' := Zb.below (by assumption) hb; obtain ⟨z0, z1, z2, z3⟩ := And.intro Z'.z0 (And.intro Z'.z1 (And.intro Z'.f0 Z'.f1)); obtain ⟨y0, y1, y2, y3, y4, y5⟩ := And.intro Z'.c0 (And.intro Z'.c1 (And.intro Z'.d0 (And.intro Z'.d1 (And.intro Z'.d2 Z'.d3))))) | (go_at_call 101; refine (made_any _ _ _).mono ?_; rintro e w' ⟨rfl, hb⟩; have Z' := Zb.below (by assumption) hb; obtain ⟨z0, z1, z2, z3⟩ := And.intro Z'.z0 (And.intro Z'.z1 (And.intro Z'.f0 Z'.f1)); obtain ⟨y0, y1, y2, y3, y4, y5⟩ := And.intro Z'.c0 (And.intro Z'.c1 (And.intro Z'.d0 (And.intro Z'.d1 (And.intro Z'.d2 Z'.d3))))) | (go_at_call 95; refine (with_any _ _ _ _ _ _).mono ?_; rintro e w' ⟨rfl, hb⟩; have Z' := Zb.below (by assumption) hb; obtain ⟨z0, z1, z2, z3⟩ := And.intro Z'.z0 (And.intro Z'.z1 (And.intro Z'.f0 Z'.f1)); obtain ⟨y0, y1, y2, y3, y4, y5⟩ := And.intro Z'.c0 (And.intro Z'.c1 (And.intro Z'.d0 (And.intro Z'.d1 (And.intro Z'.d2 Z'.d3))))) | (go_at_call 98; refine (ret_any _ _ _ _ _ _ (by omega)).mono ?_; rintro e w' ⟨rfl, hb⟩; have Z' := Zb.below (by assumption) hb; obtain ⟨z0, z1, z2, z3⟩ := And.intro Z'.z0 (And.intro Z'.z1 (And.intro Z'.f0 Z'.f1)); obtain ⟨y0, y1, y2, y3, y4, y5⟩ := And.intro Z'.c0 (And.intro Z'.c1 (And.intro Z'.d0 (And.intro Z'.d1 (And.intro Z'.d2 Z'.d3))))))
  refine quiet_tail (fun X => Zb w kind A n c (34) kd ar at_ nn l X) 3 (by kernel_rfl) (by kernel_rfl) Z1 ?_
  simp only [List.take_succ_cons, List.take_zero, List.drop_succ_cons, List.drop_zero]
  repeat (first | go_big_quiet_skip | (go_big_quiet_want; first | (go_big_quiet_op; go_big_quiet_on) | (apply Exists.intro; refine ⟨fun X hX => ?_, ?_⟩; · (obtain ⟨x0, x1, x2, x3, x4, x5⟩ := And.intro hX.c0 (And.intro hX.c1 (And.intro hX.d0 (And.intro hX.d1 (And.intro hX.d2 hX.d3)))); unfold Oper.quietAt; go_simp; first | done | rfl | exact ⟨rfl, rfl⟩ | (first | (go_at_call 96; refine (must_any _ _).mono ?_; rintro e w' ⟨rfl, hb⟩; exact ⟨rfl, hX.below hb⟩) | (go_at_call 97; refine (logic_any _ _).mono ?_; rintro e w' ⟨rfl, hb⟩; exact ⟨rfl, hX.below hb⟩) | (go_at_call 85; refine (may_any _ _ _).mono ?_; rintro e w' ⟨rfl, hb⟩; exact ⟨rfl, hX.below hb⟩) | (go_at_call 101; refine (made_any _ _ _).mono ?_; rintro e w' ⟨rfl, hb⟩; exact ⟨rfl, hX.below hb⟩) | (go_at_call 95; refine (with_any _ _ _ _ _ _).mono ?_; rintro e w' ⟨rfl, hb⟩; exact ⟨rfl, hX.below hb⟩)))); go_big_quiet_on; simp only [Act.put, List.setIfInBounds_toArray, List.set_cons_zero, List.set_cons_succ]))
  refine wpQuiet_nil ?_
  intro X Z'
  obtain ⟨z0, z1, z2, z3⟩ := And.intro Z'.z0 (And.intro Z'.z1 (And.intro Z'.f0 Z'.f1))
  go_wp2
  all_goals
    refine bodyPost_ret (v := .tuple #[.agg #[.int .i64 (kind), .slice A n c], .int .i64 (mustI (kind == 1))]) (by simp [results, Try.results60, go_sem, z0, z1]) rfl ?_
    rw [HR.out]
    exact ⟨A, c, by rw [HN.out], (Z'.end_ Z'.br).1, (Z'.end_ Z'.br).2, HC.out, hc2⟩
theorem behind_35 (kind : Int) (A : Option Addr) (n c : Nat) (kd ar at_ nn : Int) (l : List Br) (w : World) (hn : n = l.length) (hc1 : l.length ≤ c) (hc2 : c ≤ 9223372036854775807) (hb : BrAt w A l) :
    Calls Try.prog 60 #[.agg #[.int .i64 kind, .slice A n c], .agg #[.int .i64 35, .int .i64 kd, .int .i64 ar, .int .i64 at_, .int .i64 nn]] w (AhRet w ⟨kind, l⟩ (mustI (kind == 1))) := by
  have Z := Zb.start w kind A n c (35) kd ar at_ nn l hb
  have Z1 := Z.drew
  have hn0 : n ≤ 9223372036854775807 := by omega
  have HN := hid hn
  have HC := hid hc1
  have HB0 := hid hb
  clear hn hc1 hb
  obtain ⟨R, hR⟩ : ∃ R, R = AhRet w ⟨kind, l⟩ (mustI (kind == 1)) := ⟨_, rfl⟩
  rw [← hR]
  have HR := hid hR
  clear hR
  go_enter Try.func60, Try.ntmps60
  go_wp2_with (first | (go_at_call 96; refine (must_any _ _).mono ?_; rintro e w' ⟨rfl, hb⟩; have Z' := Zb.below (by assumption) hb; obtain ⟨z0, z1, z2, z3⟩ := And.intro Z'.z0 (And.intro Z'.z1 (And.intro Z'.f0 Z'.f1)); obtain ⟨y0, y1, y2, y3, y4, y5⟩ := And.intro Z'.c0 (And.intro Z'.c1 (And.intro Z'.d0 (And.intro Z'.d1 (And.intro Z'.d2 Z'.d3))))) | (go_at_call 97; refine (logic_any _ _).mono ?_; rintro e w' ⟨rfl, hb⟩; have Z' := Zb.below (by assumption) hb; obtain ⟨z0, z1, z2, z3⟩ := And.intro Z'.z0 (And.intro Z'.z1 (And.intro Z'.f0 Z'.f1)); obtain ⟨y0, y1, y2, y3, y4, y5⟩ := And.intro Z'.c0 (And.intro Z'.c1 (And.intro Z'.d0 (And.intro Z'.d1 (And.intro Z'.d2 Z'.d3))))) | (go_at_call 85; refine (may_any _ _ _).mono ?_; rintro e w' ⟨rfl, hb⟩; have Z' := Zb.below (by assumption) hb; obtain ⟨z0, z1, z2, z3⟩ := And.intro Z'.z0 (And.intro Z'.z1 (And.intro Z'.f0 Z'.f1)); obtain ⟨y0, y1, y2, y3, y4, y5⟩ := And.intro Z'.c0 (And.intro Z'.c1 (And.intro Z'.d0 (And.intro Z'.d1 (And.intro Z'.d2 Z'.d3))))) | (go_at_call 101; refine (made_any _ _ _).mono ?_; rintro e w' ⟨rfl, hb⟩; have Z' := Zb.below (by assumption) hb; obtain ⟨z0, z1, z2, z3⟩ := And.intro Z'.z0 (And.intro Z'.z1 (And.intro Z'.f0 Z'.f1)); obtain ⟨y0, y1, y2, y3, y4, y5⟩ := And.intro Z'.c0 (And.intro Z'.c1 (And.intro Z'.d0 (And.intro Z'.d1 (And.intro Z'.d2 Z'.d3))))) | (go_at_call 95; refine (with_any _ _ _ _ _ _).mono ?_; rintro e w' ⟨rfl, hb⟩; have Z' := Zb.below (by assumption) hb; obtain ⟨z0, z1, z2, z3⟩ := And.intro Z'.z0 (And.intro Z'.z1 (And.intro Z'.f0 Z'.f1)); obtain ⟨y0, y1, y2, y3, y4, y5⟩ := And.intro Z'.c0 (And.intro Z'.c1 (And.intro Z'.d0 (And.intro Z'.d1 (And.intro Z'.d2 Z'.d3))))) | (go_at_call 98; refine (ret_any _ _ _ _ _ _ (by omega)).mono ?_; rintro e w' ⟨rfl, hb⟩; have Z' := Zb.below (by assumption) hb; obtain ⟨z0, z1, z2, z3⟩ := And.intro Z'.z0 (And.intro Z'.z1 (And.intro Z'.f0 Z'.f1)); obtain ⟨y0, y1, y2, y3, y4, y5⟩ := And.intro Z'.c0 (And.intro Z'.c1 (And.intro Z'.d0 (And.intro Z'.d1 (And.intro Z'.d2 Z'.d3))))))
  refine quiet_tail (fun X => Zb w kind A n c (35) kd ar at_ nn l X) 3 (by kernel_rfl) (by kernel_rfl) Z1 ?_
  simp only [List.take_succ_cons, List.take_zero, List.drop_succ_cons, List.drop_zero]
  repeat (first | go_big_quiet_skip | (go_big_quiet_want; first | (go_big_quiet_op; go_big_quiet_on) | (apply Exists.intro; refine ⟨fun X hX => ?_, ?_⟩; · (obtain ⟨x0, x1, x2, x3, x4, x5⟩ := And.intro hX.c0 (And.intro hX.c1 (And.intro hX.d0 (And.intro hX.d1 (And.intro hX.d2 hX.d3)))); unfold Oper.quietAt; go_simp; first | done | rfl | exact ⟨rfl, rfl⟩ | (first | (go_at_call 96; refine (must_any _ _).mono ?_; rintro e w' ⟨rfl, hb⟩; exact ⟨rfl, hX.below hb⟩) | (go_at_call 97; refine (logic_any _ _).mono ?_; rintro e w' ⟨rfl, hb⟩; exact ⟨rfl, hX.below hb⟩) | (go_at_call 85; refine (may_any _ _ _).mono ?_; rintro e w' ⟨rfl, hb⟩; exact ⟨rfl, hX.below hb⟩) | (go_at_call 101; refine (made_any _ _ _).mono ?_; rintro e w' ⟨rfl, hb⟩; exact ⟨rfl, hX.below hb⟩) | (go_at_call 95; refine (with_any _ _ _ _ _ _).mono ?_; rintro e w' ⟨rfl, hb⟩; exact ⟨rfl, hX.below hb⟩)))); go_big_quiet_on; simp only [Act.put, List.setIfInBounds_toArray, List.set_cons_zero, List.set_cons_succ]))
  refine wpQuiet_nil ?_
  intro X Z'
  obtain ⟨z0, z1, z2, z3⟩ := And.intro Z'.z0 (And.intro Z'.z1 (And.intro Z'.f0 Z'.f1))
  go_wp2
  all_goals
    refine bodyPost_ret (v := .tuple #[.agg #[.int .i64 (kind), .slice A n c], .int .i64 (mustI (kind == 1))]) (by simp [results, Try.results60, go_sem, z0, z1]) rfl ?_
    rw [HR.out]
    exact ⟨A, c, by rw [HN.out], (Z'.end_ Z'.br).1, (Z'.end_ Z'.br).2, HC.out, hc2⟩
theorem behind_36 (kind : Int) (A : Option Addr) (n c : Nat) (kd ar at_ nn : Int) (l : List Br) (w : World) (hn : n = l.length) (hc1 : l.length ≤ c) (hc2 : c ≤ 9223372036854775807) (hb : BrAt w A l) :
    Calls Try.prog 60 #[.agg #[.int .i64 kind, .slice A n c], .agg #[.int .i64 36, .int .i64 kd, .int .i64 ar, .int .i64 at_, .int .i64 nn]] w (AhRet w ⟨kind, l⟩ (mustI (kind == 1))) := by
  have Z := Zb.start w kind A n c (36) kd ar at_ nn l hb
  have Z1 := Z.drew
  have hn0 : n ≤ 9223372036854775807 := by omega
  have HN := hid hn
  have HC := hid hc1
  have HB0 := hid hb
  clear hn hc1 hb
  obtain ⟨R, hR⟩ : ∃ R, R = AhRet w ⟨kind, l⟩ (mustI (kind == 1)) := ⟨_, rfl⟩
  rw [← hR]
  have HR := hid hR
  clear hR
  go_enter Try.func60, Try.ntmps60
  go_wp2_with (first | (go_at_call 96; refine (must_any _ _).mono ?_; rintro e w' ⟨rfl, hb⟩; have Z' := Zb.below (by assumption) hb; obtain ⟨z0, z1, z2, z3⟩ := And.intro Z'.z0 (And.intro Z'.z1 (And.intro Z'.f0 Z'.f1)); obtain ⟨y0, y1, y2, y3, y4, y5⟩ := And.intro Z'.c0 (And.intro Z'.c1 (And.intro Z'.d0 (And.intro Z'.d1 (And.intro Z'.d2 Z'.d3))))) | (go_at_call 97; refine (logic_any _ _).mono ?_; rintro e w' ⟨rfl, hb⟩; have Z' := Zb.below (by assumption) hb; obtain ⟨z0, z1, z2, z3⟩ := And.intro Z'.z0 (And.intro Z'.z1 (And.intro Z'.f0 Z'.f1)); obtain ⟨y0, y1, y2, y3, y4, y5⟩ := And.intro Z'.c0 (And.intro Z'.c1 (And.intro Z'.d0 (And.intro Z'.d1 (And.intro Z'.d2 Z'.d3))))) | (go_at_call 85; refine (may_any _ _ _).mono ?_; rintro e w' ⟨rfl, hb⟩; have Z' := Zb.below (by assumption) hb; obtain ⟨z0, z1, z2, z3⟩ := And.intro Z'.z0 (And.intro Z'.z1 (And.intro Z'.f0 Z'.f1)); obtain ⟨y0, y1, y2, y3, y4, y5⟩ := And.intro Z'.c0 (And.intro Z'.c1 (And.intro Z'.d0 (And.intro Z'.d1 (And.intro Z'.d2 Z'.d3))))) | (go_at_call 101; refine (made_any _ _ _).mono ?_; rintro e w' ⟨rfl, hb⟩; have Z' := Zb.below (by assumption) hb; obtain ⟨z0, z1, z2, z3⟩ := And.intro Z'.z0 (And.intro Z'.z1 (And.intro Z'.f0 Z'.f1)); obtain ⟨y0, y1, y2, y3, y4, y5⟩ := And.intro Z'.c0 (And.intro Z'.c1 (And.intro Z'.d0 (And.intro Z'.d1 (And.intro Z'.d2 Z'.d3))))) | (go_at_call 95; refine (with_any _ _ _ _ _ _).mono ?_; rintro e w' ⟨rfl, hb⟩; have Z' := Zb.below (by assumption) hb; obtain ⟨z0, z1, z2, z3⟩ := And.intro Z'.z0 (And.intro Z'.z1 (And.intro Z'.f0 Z'.f1)); obtain ⟨y0, y1, y2, y3, y4, y5⟩ := And.intro Z'.c0 (And.intro Z'.c1 (And.intro Z'.d0 (And.intro Z'.d1 (And.intro Z'.d2 Z'.d3))))) | (go_at_call 98; refine (ret_any _ _ _ _ _ _ (by omega)).mono ?_; rintro e w' ⟨rfl, hb⟩; have Z' := Zb.below (by assumption) hb; obtain ⟨z0, z1, z2, z3⟩ := And.intro Z'.z0 (And.intro Z'.z1 (And.intro Z'.f0 Z'.f1)); obtain ⟨y0, y1, y2, y3, y4, y5⟩ := And.intro Z'.c0 (And.intro Z'.c1 (And.intro Z'.d0 (And.intro Z'.d1 (And.intro Z'.d2 Z'.d3))))))
  refine quiet_tail (fun X => Zb w kind A n c (36) kd ar at_ nn l X) 3 (by kernel_rfl) (by kernel_rfl) Z1 ?_
  simp only [List.take_succ_cons, List.take_zero, List.drop_succ_cons, List.drop_zero]
  repeat (first | go_big_quiet_skip | (go_big_quiet_want; first | (go_big_quiet_op; go_big_quiet_on) | (apply Exists.intro; refine ⟨fun X hX => ?_, ?_⟩; · (obtain ⟨x0, x1, x2, x3, x4, x5⟩ := And.intro hX.c0 (And.intro hX.c1 (And.intro hX.d0 (And.intro hX.d1 (And.intro hX.d2 hX.d3)))); unfold Oper.quietAt; go_simp; first | done | rfl | exact ⟨rfl, rfl⟩ | (first | (go_at_call 96; refine (must_any _ _).mono ?_; rintro e w' ⟨rfl, hb⟩; exact ⟨rfl, hX.below hb⟩) | (go_at_call 97; refine (logic_any _ _).mono ?_; rintro e w' ⟨rfl, hb⟩; exact ⟨rfl, hX.below hb⟩) | (go_at_call 85; refine (may_any _ _ _).mono ?_; rintro e w' ⟨rfl, hb⟩; exact ⟨rfl, hX.below hb⟩) | (go_at_call 101; refine (made_any _ _ _).mono ?_; rintro e w' ⟨rfl, hb⟩; exact ⟨rfl, hX.below hb⟩) | (go_at_call 95; refine (with_any _ _ _ _ _ _).mono ?_; rintro e w' ⟨rfl, hb⟩; exact ⟨rfl, hX.below hb⟩)))); go_big_quiet_on; simp only [Act.put, List.setIfInBounds_toArray, List.set_cons_zero, List.set_cons_succ]))
  refine wpQuiet_nil ?_
  intro X Z'
  obtain ⟨z0, z1, z2, z3⟩ := And.intro Z'.z0 (And.intro Z'.z1 (And.intro Z'.f0 Z'.f1))
  go_wp2
  all_goals
    refine bodyPost_ret (v := .tuple #[.agg #[.int .i64 (kind), .slice A n c], .int .i64 (mustI (kind == 1))]) (by simp [results, Try.results60, go_sem, z0, z1]) rfl ?_
    rw [HR.out]
    exact ⟨A, c, by rw [HN.out], (Z'.end_ Z'.br).1, (Z'.end_ Z'.br).2, HC.out, hc2⟩
theorem behind_28 (kind : Int) (A : Option Addr) (n c : Nat) (kd ar at_ nn : Int) (l : List Br) (w : World) (hn : n = l.length) (hc1 : l.length ≤ c) (hc2 : c ≤ 9223372036854775807) (hb : BrAt w A l) :
    Calls Try.prog 60 #[.agg #[.int .i64 kind, .slice A n c], .agg #[.int .i64 28, .int .i64 kd, .int .i64 ar, .int .i64 at_, .int .i64 nn]] w (AhRet w ⟨kind, l⟩ (retE 28 kind n)) := by
  have Z := Zb.start w kind A n c (28) kd ar at_ nn l hb
  have Z1 := Z.drew
  have hn0 : n ≤ 9223372036854775807 := by omega
  have HN := hid hn
  have HC := hid hc1
  have HB0 := hid hb
  clear hn hc1 hb
  obtain ⟨R, hR⟩ : ∃ R, R = AhRet w ⟨kind, l⟩ (retE 28 kind n) := ⟨_, rfl⟩
  rw [← hR]
  have HR := hid hR
  clear hR
  go_enter Try.func60, Try.ntmps60
  go_wp2_with (first | (go_at_call 96; refine (must_any _ _).mono ?_; rintro e w' ⟨rfl, hb⟩; have Z' := Zb.below (by assumption) hb; obtain ⟨z0, z1, z2, z3⟩ := And.intro Z'.z0 (And.intro Z'.z1 (And.intro Z'.f0 Z'.f1)); obtain ⟨y0, y1, y2, y3, y4, y5⟩ := And.intro Z'.c0 (And.intro Z'.c1 (And.intro Z'.d0 (And.intro Z'.d1 (And.intro Z'.d2 Z'.d3))))) | (go_at_call 97; refine (logic_any _ _).mono ?_; rintro e w' ⟨rfl, hb⟩; have Z' := Zb.below (by assumption) hb; obtain ⟨z0, z1, z2, z3⟩ := And.intro Z'.z0 (And.intro Z'.z1 (And.intro Z'.f0 Z'.f1)); obtain ⟨y0, y1, y2, y3, y4, y5⟩ := And.intro Z'.c0 (And.intro Z'.c1 (And.intro Z'.d0 (And.intro Z'.d1 (And.intro Z'.d2 Z'.d3))))) | (go_at_call 85; refine (may_any _ _ _).mono ?_; rintro e w' ⟨rfl, hb⟩; have Z' := Zb.below (by assumption) hb; obtain ⟨z0, z1, z2, z3⟩ := And.intro Z'.z0 (And.intro Z'.z1 (And.intro Z'.f0 Z'.f1)); obtain ⟨y0, y1, y2, y3, y4, y5⟩ := And.intro Z'.c0 (And.intro Z'.c1 (And.intro Z'.d0 (And.intro Z'.d1 (And.intro Z'.d2 Z'.d3))))) | (go_at_call 101; refine (made_any _ _ _).mono ?_; rintro e w' ⟨rfl, hb⟩; have Z' := Zb.below (by assumption) hb; obtain ⟨z0, z1, z2, z3⟩ := And.intro Z'.z0 (And.intro Z'.z1 (And.intro Z'.f0 Z'.f1)); obtain ⟨y0, y1, y2, y3, y4, y5⟩ := And.intro Z'.c0 (And.intro Z'.c1 (And.intro Z'.d0 (And.intro Z'.d1 (And.intro Z'.d2 Z'.d3))))) | (go_at_call 95; refine (with_any _ _ _ _ _ _).mono ?_; rintro e w' ⟨rfl, hb⟩; have Z' := Zb.below (by assumption) hb; obtain ⟨z0, z1, z2, z3⟩ := And.intro Z'.z0 (And.intro Z'.z1 (And.intro Z'.f0 Z'.f1)); obtain ⟨y0, y1, y2, y3, y4, y5⟩ := And.intro Z'.c0 (And.intro Z'.c1 (And.intro Z'.d0 (And.intro Z'.d1 (And.intro Z'.d2 Z'.d3))))) | (go_at_call 98; refine (ret_any _ _ _ _ _ _ (by omega)).mono ?_; rintro e w' ⟨rfl, hb⟩; have Z' := Zb.below (by assumption) hb; obtain ⟨z0, z1, z2, z3⟩ := And.intro Z'.z0 (And.intro Z'.z1 (And.intro Z'.f0 Z'.f1)); obtain ⟨y0, y1, y2, y3, y4, y5⟩ := And.intro Z'.c0 (And.intro Z'.c1 (And.intro Z'.d0 (And.intro Z'.d1 (And.intro Z'.d2 Z'.d3))))))
  all_goals
    refine bodyPost_ret (v := .tuple #[.agg #[.int .i64 (kind), .slice A n c], .int .i64 (retE 28 kind n)]) (by simp [results, Try.results60, go_sem, z0, z1]) rfl ?_
    rw [HR.out]
    exact ⟨A, c, by rw [HN.out], (Z'.end_ Z'.br).1, (Z'.end_ Z'.br).2, HC.out, hc2⟩
theorem behind_29 (kind : Int) (A : Option Addr) (n c : Nat) (kd ar at_ nn : Int) (l : List Br) (w : World) (hn : n = l.length) (hc1 : l.length ≤ c) (hc2 : c ≤ 9223372036854775807) (hb : BrAt w A l) :
    Calls Try.prog 60 #[.agg #[.int .i64 kind, .slice A n c], .agg #[.int .i64 29, .int .i64 kd, .int .i64 ar, .int .i64 at_, .int .i64 nn]] w (AhRet w ⟨kind, l⟩ (retE 29 kind n)) := by
  have Z := Zb.start w kind A n c (29) kd ar at_ nn l hb
  have Z1 := Z.drew
  have hn0 : n ≤ 9223372036854775807 := by omega
  have HN := hid hn
  have HC := hid hc1
  have HB0 := hid hb
  clear hn hc1 hb
  obtain ⟨R, hR⟩ : ∃ R, R = AhRet w ⟨kind, l⟩ (retE 29 kind n) := ⟨_, rfl⟩
  rw [← hR]
  have HR := hid hR
  clear hR
  go_enter Try.func60, Try.ntmps60
  go_wp2_with (first | (go_at_call 96; refine (must_any _ _).mono ?_; rintro e w' ⟨rfl, hb⟩; have Z' := Zb.below (by assumption) hb; obtain ⟨z0, z1, z2, z3⟩ := And.intro Z'.z0 (And.intro Z'.z1 (And.intro Z'.f0 Z'.f1)); obtain ⟨y0, y1, y2, y3, y4, y5⟩ := And.intro Z'.c0 (And.intro Z'.c1 (And.intro Z'.d0 (And.intro Z'.d1 (And.intro Z'.d2 Z'.d3))))) | (go_at_call 97; refine (logic_any _ _).mono ?_; rintro e w' ⟨rfl, hb⟩; have Z' := Zb.below (by assumption) hb; obtain ⟨z0, z1, z2, z3⟩ := And.intro Z'.z0 (And.intro Z'.z1 (And.intro Z'.f0 Z'.f1)); obtain ⟨y0, y1, y2, y3, y4, y5⟩ := And.intro Z'.c0 (And.intro Z'.c1 (And.intro Z'.d0 (And.intro Z'.d1 (And.intro Z'.d2 Z'.d3))))) | (go_at_call 85; refine (may_any _ _ _).mono ?_; rintro e w' ⟨rfl, hb⟩; have Z' := Zb.below (by assumption) hb; obtain ⟨z0, z1, z2, z3⟩ := And.intro Z'.z0 (And.intro Z'.z1 (And.intro Z'.f0 Z'.f1)); obtain ⟨y0, y1, y2, y3, y4, y5⟩ := And.intro Z'.c0 (And.intro Z'.c1 (And.intro Z'.d0 (And.intro Z'.d1 (And.intro Z'.d2 Z'.d3))))) | (go_at_call 101; refine (made_any _ _ _).mono ?_; rintro e w' ⟨rfl, hb⟩; have Z' := Zb.below (by assumption) hb; obtain ⟨z0, z1, z2, z3⟩ := And.intro Z'.z0 (And.intro Z'.z1 (And.intro Z'.f0 Z'.f1)); obtain ⟨y0, y1, y2, y3, y4, y5⟩ := And.intro Z'.c0 (And.intro Z'.c1 (And.intro Z'.d0 (And.intro Z'.d1 (And.intro Z'.d2 Z'.d3))))) | (go_at_call 95; refine (with_any _ _ _ _ _ _).mono ?_; rintro e w' ⟨rfl, hb⟩; have Z' := Zb.below (by assumption) hb; obtain ⟨z0, z1, z2, z3⟩ := And.intro Z'.z0 (And.intro Z'.z1 (And.intro Z'.f0 Z'.f1)); obtain ⟨y0, y1, y2, y3, y4, y5⟩ := And.intro Z'.c0 (And.intro Z'.c1 (And.intro Z'.d0 (And.intro Z'.d1 (And.intro Z'.d2 Z'.d3))))) | (go_at_call 98; refine (ret_any _ _ _ _ _ _ (by omega)).mono ?_; rintro e w' ⟨rfl, hb⟩; have Z' := Zb.below (by assumption) hb; obtain ⟨z0, z1, z2, z3⟩ := And.intro Z'.z0 (And.intro Z'.z1 (And.intro Z'.f0 Z'.f1)); obtain ⟨y0, y1, y2, y3, y4, y5⟩ := And.intro Z'.c0 (And.intro Z'.c1 (And.intro Z'.d0 (And.intro Z'.d1 (And.intro Z'.d2 Z'.d3))))))
  all_goals
    refine bodyPost_ret (v := .tuple #[.agg #[.int .i64 (kind), .slice A n c], .int .i64 (retE 29 kind n)]) (by simp [results, Try.results60, go_sem, z0, z1]) rfl ?_
    rw [HR.out]
    exact ⟨A, c, by rw [HN.out], (Z'.end_ Z'.br).1, (Z'.end_ Z'.br).2, HC.out, hc2⟩
theorem behind_30 (kind : Int) (A : Option Addr) (n c : Nat) (kd ar at_ nn : Int) (l : List Br) (w : World) (hn : n = l.length) (hc1 : l.length ≤ c) (hc2 : c ≤ 9223372036854775807) (hb : BrAt w A l) :
    Calls Try.prog 60 #[.agg #[.int .i64 kind, .slice A n c], .agg #[.int .i64 30, .int .i64 kd, .int .i64 ar, .int .i64 at_, .int .i64 nn]] w (AhRet w ⟨kind, l⟩ (retE 30 kind n)) := by
  have Z := Zb.start w kind A n c (30) kd ar at_ nn l hb
  have Z1 := Z.drew
  have hn0 : n ≤ 9223372036854775807 := by omega
  have HN := hid hn
  have HC := hid hc1
  have HB0 := hid hb
  clear hn hc1 hb
  obtain ⟨R, hR⟩ : ∃ R, R = AhRet w ⟨kind, l⟩ (retE 30 kind n) := ⟨_, rfl⟩
  rw [← hR]
  have HR := hid hR
  clear hR
  go_enter Try.func60, Try.ntmps60
  go_wp2_with (first | (go_at_call 96; refine (must_any _ _).mono ?_; rintro e w' ⟨rfl, hb⟩; have Z' := Zb.below (by assumption) hb; obtain ⟨z0, z1, z2, z3⟩ := And.intro Z'.z0 (And.intro Z'.z1 (And.intro Z'.f0 Z'.f1)); obtain ⟨y0, y1, y2, y3, y4, y5⟩ := And.intro Z'.c0 (And.intro Z'.c1 (And.intro Z'.d0 (And.intro Z'.d1 (And.intro Z'.d2 Z'.d3))))) | (go_at_call 97; refine (logic_any _ _).mono ?_; rintro e w' ⟨rfl, hb⟩; have Z' := Zb.below (by assumption) hb; obtain ⟨z0, z1, z2, z3⟩ := And.intro Z'.z0 (And.intro Z'.z1 (And.intro Z'.f0 Z'.f1)); obtain ⟨y0, y1, y2, y3, y4, y5⟩ := And.intro Z'.c0 (And.intro Z'.c1 (And.intro Z'.d0 (And.intro Z'.d1 (And.intro Z'.d2 Z'.d3))))) | (go_at_call 85; refine (may_any _ _ _).mono ?_; rintro e w' ⟨rfl, hb⟩; have Z' := Zb.below (by assumption) hb; obtain ⟨z0, z1, z2, z3⟩ := And.intro Z'.z0 (And.intro Z'.z1 (And.intro Z'.f0 Z'.f1)); obtain ⟨y0, y1, y2, y3, y4, y5⟩ := And.intro Z'.c0 (And.intro Z'.c1 (And.intro Z'.d0 (And.intro Z'.d1 (And.intro Z'.d2 Z'.d3))))) | (go_at_call 101; refine (made_any _ _ _).mono ?_; rintro e w' ⟨rfl, hb⟩; have Z' := Zb.below (by assumption) hb; obtain ⟨z0, z1, z2, z3⟩ := And.intro Z'.z0 (And.intro Z'.z1 (And.intro Z'.f0 Z'.f1)); obtain ⟨y0, y1, y2, y3, y4, y5⟩ := And.intro Z'.c0 (And.intro Z'.c1 (And.intro Z'.d0 (And.intro Z'.d1 (And.intro Z'.d2 Z'.d3))))) | (go_at_call 95; refine (with_any _ _ _ _ _ _).mono ?_; rintro e w' ⟨rfl, hb⟩; have Z' := Zb.below (by assumption) hb; obtain ⟨z0, z1, z2, z3⟩ := And.intro Z'.z0 (And.intro Z'.z1 (And.intro Z'.f0 Z'.f1)); obtain ⟨y0, y1, y2, y3, y4, y5⟩ := And.intro Z'.c0 (And.intro Z'.c1 (And.intro Z'.d0 (And.intro Z'.d1 (And.intro Z'.d2 Z'.d3))))) | (go_at_call 98; refine (ret_any _ _ _ _ _ _ (by omega)).mono ?_; rintro e w' ⟨rfl, hb⟩; have Z' := Zb.below (by assumption) hb; obtain ⟨z0, z1, z2, z3⟩ := And.intro Z'.z0 (And.intro Z'.z1 (And.intro Z'.f0 Z'.f1)); obtain ⟨y0, y1, y2, y3, y4, y5⟩ := And.intro Z'.c0 (And.intro Z'.c1 (And.intro Z'.d0 (And.intro Z'.d1 (And.intro Z'.d2 Z'.d3))))))
  all_goals
    refine bodyPost_ret (v := .tuple #[.agg #[.int .i64 (kind), .slice A n c], .int .i64 (retE 30 kind n)]) (by simp [results, Try.results60, go_sem, z0, z1]) rfl ?_
    rw [HR.out]
    exact ⟨A, c, by rw [HN.out], (Z'.end_ Z'.br).1, (Z'.end_ Z'.br).2, HC.out, hc2⟩
theorem behind_31 (kind : Int) (A : Option Addr) (n c : Nat) (kd ar at_ nn : Int) (l : List Br) (w : World) (hn : n = l.length) (hc1 : l.length ≤ c) (hc2 : c ≤ 9223372036854775807) (hb : BrAt w A l) :
    Calls Try.prog 60 #[.agg #[.int .i64 kind, .slice A n c], .agg #[.int .i64 31, .int .i64 kd, .int .i64 ar, .int .i64 at_, .int .i64 nn]] w (AhRet w ⟨kd, l⟩ (mustI (kind != 0))) := by
  have Z := Zb.start w kind A n c (31) kd ar at_ nn l hb
  have Z1 := Z.drew
  have hn0 : n ≤ 9223372036854775807 := by omega
  have HN := hid hn
  have HC := hid hc1
  have HB0 := hid hb
  clear hn hc1 hb
  obtain ⟨R, hR⟩ : ∃ R, R = AhRet w ⟨kd, l⟩ (mustI (kind != 0)) := ⟨_, rfl⟩
  rw [← hR]
  have HR := hid hR
  clear hR
  go_enter Try.func60, Try.ntmps60
  go_wp2_with (first | (go_at_call 96; refine (must_any _ _).mono ?_; rintro e w' ⟨rfl, hb⟩; have Z' := Zb.below (by assumption) hb; obtain ⟨z0, z1, z2, z3⟩ := And.intro Z'.z0 (And.intro Z'.z1 (And.intro Z'.f0 Z'.f1)); obtain ⟨y0, y1, y2, y3, y4, y5⟩ := And.intro Z'.c0 (And.intro Z'.c1 (And.intro Z'.d0 (And.intro Z'.d1 (And.intro Z'.d2 Z'.d3))))) | (go_at_call 97; refine (logic_any _ _).mono ?_; rintro e w' ⟨rfl, hb⟩; have Z' := Zb.below (by assumption) hb; obtain ⟨z0, z1, z2, z3⟩ := And.intro Z'.z0 (And.intro Z'.z1 (And.intro Z'.f0 Z'.f1)); obtain ⟨y0, y1, y2, y3, y4, y5⟩ := And.intro Z'.c0 (And.intro Z'.c1 (And.intro Z'.d0 (And.intro Z'.d1 (And.intro Z'.d2 Z'.d3))))) | (go_at_call 85; refine (may_any _ _ _).mono ?_; rintro e w' ⟨rfl, hb⟩; have Z' := Zb.below (by assumption) hb; obtain ⟨z0, z1, z2, z3⟩ := And.intro Z'.z0 (And.intro Z'.z1 (And.intro Z'.f0 Z'.f1)); obtain ⟨y0, y1, y2, y3, y4, y5⟩ := And.intro Z'.c0 (And.intro Z'.c1 (And.intro Z'.d0 (And.intro Z'.d1 (And.intro Z'.d2 Z'.d3))))) | (go_at_call 101; refine (made_any _ _ _).mono ?_; rintro e w' ⟨rfl, hb⟩; have Z' := Zb.below (by assumption) hb; obtain ⟨z0, z1, z2, z3⟩ := And.intro Z'.z0 (And.intro Z'.z1 (And.intro Z'.f0 Z'.f1)); obtain ⟨y0, y1, y2, y3, y4, y5⟩ := And.intro Z'.c0 (And.intro Z'.c1 (And.intro Z'.d0 (And.intro Z'.d1 (And.intro Z'.d2 Z'.d3))))) | (go_at_call 95; refine (with_any _ _ _ _ _ _).mono ?_; rintro e w' ⟨rfl, hb⟩; have Z' := Zb.below (by assumption) hb; obtain ⟨z0, z1, z2, z3⟩ := And.intro Z'.z0 (And.intro Z'.z1 (And.intro Z'.f0 Z'.f1)); obtain ⟨y0, y1, y2, y3, y4, y5⟩ := And.intro Z'.c0 (And.intro Z'.c1 (And.intro Z'.d0 (And.intro Z'.d1 (And.intro Z'.d2 Z'.d3))))) | (go_at_call 98; refine (ret_any _ _ _ _ _ _ (by omega)).mono ?_; rintro e w' ⟨rfl, hb⟩; have Z' := Zb.below (by assumption) hb; obtain ⟨z0, z1, z2, z3⟩ := And.intro Z'.z0 (And.intro Z'.z1 (And.intro Z'.f0 Z'.f1)); obtain ⟨y0, y1, y2, y3, y4, y5⟩ := And.intro Z'.c0 (And.intro Z'.c1 (And.intro Z'.d0 (And.intro Z'.d1 (And.intro Z'.d2 Z'.d3))))))
  refine quiet_tail (fun X => Zb w kind A n c (31) kd ar at_ nn l X) 8 (by kernel_rfl) (by kernel_rfl) Z1 ?_
  simp only [List.take_succ_cons, List.take_zero, List.drop_succ_cons, List.drop_zero]
  repeat (first | go_big_quiet_skip | (go_big_quiet_want; first | (go_big_quiet_op; go_big_quiet_on) | (apply Exists.intro; refine ⟨fun X hX => ?_, ?_⟩; · (obtain ⟨x0, x1, x2, x3, x4, x5⟩ := And.intro hX.c0 (And.intro hX.c1 (And.intro hX.d0 (And.intro hX.d1 (And.intro hX.d2 hX.d3)))); unfold Oper.quietAt; go_simp; first | done | rfl | exact ⟨rfl, rfl⟩ | (first | (go_at_call 96; refine (must_any _ _).mono ?_; rintro e w' ⟨rfl, hb⟩; exact ⟨rfl, hX.below hb⟩) | (go_at_call 97; refine (logic_any _ _).mono ?_; rintro e w' ⟨rfl, hb⟩; exact ⟨rfl, hX.below hb⟩) | (go_at_call 85; refine (may_any _ _ _).mono ?_; rintro e w' ⟨rfl, hb⟩; exact ⟨rfl, hX.below hb⟩) | (go_at_call 101; refine (made_any _ _ _).mono ?_; rintro e w' ⟨rfl, hb⟩; exact ⟨rfl, hX.below hb⟩) | (go_at_call 95; refine (with_any _ _ _ _ _ _).mono ?_; rintro e w' ⟨rfl, hb⟩; exact ⟨rfl, hX.below hb⟩)))); go_big_quiet_on; simp only [Act.put, List.setIfInBounds_toArray, List.set_cons_zero, List.set_cons_succ]))
  refine wpQuiet_nil ?_
  intro X Z'
  obtain ⟨z0, z1, z2, z3⟩ := And.intro Z'.z0 (And.intro Z'.z1 (And.intro Z'.f0 Z'.f1))
  go_wp2
  all_goals
    refine bodyPost_ret (v := .tuple #[.agg #[.int .i64 (kd), .slice A n c], .int .i64 (mustI (kind != 0))]) (by simp [results, Try.results60, go_sem, z0, z1]) rfl ?_
    rw [HR.out]
    exact ⟨A, c, by rw [HN.out], (Z'.end_ Z'.br).1, (Z'.end_ Z'.br).2, HC.out, hc2⟩
theorem behind_32 (kind : Int) (A : Option Addr) (n c : Nat) (kd ar at_ nn : Int) (l : List Br) (w : World) (hn : n = l.length) (hc1 : l.length ≤ c) (hc2 : c ≤ 9223372036854775807) (hb : BrAt w A l) (h8 : l.length ≤ 8) :
    Calls Try.prog 60 #[.agg #[.int .i64 kind, .slice A n c], .agg #[.int .i64 32, .int .i64 kd, .int .i64 ar, .int .i64 at_, .int .i64 nn]] w (AhRet w (pushA at_ ⟨kind, l⟩) (pushE at_ ⟨kind, l⟩)) := by
  have Z := Zb.start w kind A n c (32) kd ar at_ nn l hb
  have Z1 := Z.drew
  have hn0 : n ≤ 9223372036854775807 := by omega
  have HN := hid hn
  have HC := hid hc1
  have HB0 := hid hb
  clear hn hc1 hb
  obtain ⟨R, hR⟩ : ∃ R, R = AhRet w (pushA at_ ⟨kind, l⟩) (pushE at_ ⟨kind, l⟩) := ⟨_, rfl⟩
  rw [← hR]
  have HR := hid hR
  clear hR
  go_enter Try.func60, Try.ntmps60
  go_wp2_with (first | (go_at_call 99; refine (push_any _ _ _ _ _ _ l HN.out HC.out hc2 Z.br h8).mono ?_; rintro e w' ⟨A', c', rfl, hb, hbr, q1, q2⟩; have Z' := Zb.below (by assumption) hb; obtain ⟨z0, z1, z2, z3⟩ := And.intro Z'.z0 (And.intro Z'.z1 (And.intro Z'.f0 Z'.f1)); obtain ⟨y0, y1, y2, y3, y4, y5⟩ := And.intro Z'.c0 (And.intro Z'.c1 (And.intro Z'.d0 (And.intro Z'.d1 (And.intro Z'.d2 Z'.d3))))))
  all_goals
    refine bodyPost_ret (v := .tuple #[.agg #[.int .i64 (pushA at_ ⟨kind, l⟩).kind, .slice A' (pushA at_ ⟨kind, l⟩).op.length c'], .int .i64 (pushE at_ ⟨kind, l⟩)]) (by simp [results, Try.results60, go_sem, z0, z1]) rfl ?_
    rw [HR.out]
    exact ⟨A', c', rfl, (Z'.end_ hbr).1, (Z'.end_ hbr).2, q1, q2⟩
theorem behind_33 (kind : Int) (A : Option Addr) (n c : Nat) (kd ar at_ nn : Int) (l : List Br) (w : World) (hn : n = l.length) (hc1 : l.length ≤ c) (hc2 : c ≤ 9223372036854775807) (hb : BrAt w A l) :
    Calls Try.prog 60 #[.agg #[.int .i64 kind, .slice A n c], .agg #[.int .i64 33, .int .i64 kd, .int .i64 ar, .int .i64 at_, .int .i64 nn]] w (AhRet w (popA ⟨kind, l⟩) (popE ⟨kind, l⟩)) := by
  have Z := Zb.start w kind A n c (33) kd ar at_ nn l hb
  have Z1 := Z.drew
  have hn0 : n ≤ 9223372036854775807 := by omega
  have HN := hid hn
  have HC := hid hc1
  have HB0 := hid hb
  clear hn hc1 hb
  obtain ⟨R, hR⟩ : ∃ R, R = AhRet w (popA ⟨kind, l⟩) (popE ⟨kind, l⟩) := ⟨_, rfl⟩
  rw [← hR]
  have HR := hid hR
  clear hR
  go_enter Try.func60, Try.ntmps60
  go_wp2_with (first | (go_at_call 100; refine (pop_any _ _ _ _ _ l HN.out HC.out hc2 Z.br).mono ?_; rintro e w' ⟨A', c', rfl, hb, hbr, q1, q2⟩; have Z' := Zb.below (by assumption) hb; obtain ⟨z0, z1, z2, z3⟩ := And.intro Z'.z0 (And.intro Z'.z1 (And.intro Z'.f0 Z'.f1)); obtain ⟨y0, y1, y2, y3, y4, y5⟩ := And.intro Z'.c0 (And.intro Z'.c1 (And.intro Z'.d0 (And.intro Z'.d1 (And.intro Z'.d2 Z'.d3))))))
  all_goals
    refine bodyPost_ret (v := .tuple #[.agg #[.int .i64 (popA ⟨kind, l⟩).kind, .slice A' (popA ⟨kind, l⟩).op.length c'], .int .i64 (popE ⟨kind, l⟩)]) (by simp [results, Try.results60, go_sem, z0, z1]) rfl ?_
    rw [HR.out]
    exact ⟨A', c', rfl, (Z'.end_ hbr).1, (Z'.end_ hbr).2, q1, q2⟩
theorem behind_ny (kind : Int) (A : Option Addr) (n c : Nat) (op kd ar at_ nn : Int) (l : List Br) (w : World) (hn : n = l.length) (hc1 : l.length ≤ c) (hc2 : c ≤ 9223372036854775807) (hb : BrAt w A l) (ho : op ≠ 1 ∧ op ≠ 2 ∧ op ≠ 3 ∧ op ≠ 4 ∧ op ≠ 5 ∧ op ≠ 6 ∧ op ≠ 13 ∧ op ≠ 25 ∧ op ≠ 26 ∧ op ≠ 27 ∧ op ≠ 34 ∧ op ≠ 35 ∧ op ≠ 36 ∧ op ≠ 28 ∧ op ≠ 29 ∧ op ≠ 30 ∧ op ≠ 31 ∧ op ≠ 32 ∧ op ≠ 33) (hk : (kind == kd) = true) :
    Calls Try.prog 60 #[.agg #[.int .i64 kind, .slice A n c], .agg #[.int .i64 op, .int .i64 kd, .int .i64 ar, .int .i64 at_, .int .i64 nn]] w (AhRet w ⟨madeI op kd, l⟩ (mustI (mayK op kd))) := by
  have Z := Zb.start w kind A n c (op) kd ar at_ nn l hb
  have Z1 := Z.drew
  have hn0 : n ≤ 9223372036854775807 := by omega
  have HN := hid hn
  have HC := hid hc1
  have HB0 := hid hb
  clear hn hc1 hb
  obtain ⟨R, hR⟩ : ∃ R, R = AhRet w ⟨madeI op kd, l⟩ (mustI (mayK op kd)) := ⟨_, rfl⟩
  rw [← hR]
  have HR := hid hR
  clear hR
  obtain ⟨h1, h2, h3, h4, h5, h6, h13, h25, h26, h27, h34, h35, h36, h28, h29, h30, h31, h32, h33⟩ := ho
  have b1 : (op == 1) = false := by simp [h1]
  have b2 : (op == 2) = false := by simp [h2]
  have b3 : (op == 3) = false := by simp [h3]
  have b4 : (op == 4) = false := by simp [h4]
  have b5 : (op == 5) = false := by simp [h5]
  have b6 : (op == 6) = false := by simp [h6]
  have b13 : (op == 13) = false := by simp [h13]
  have b25 : (op == 25) = false := by simp [h25]
  have b26 : (op == 26) = false := by simp [h26]
  have b27 : (op == 27) = false := by simp [h27]
  have b34 : (op == 34) = false := by simp [h34]
  have b35 : (op == 35) = false := by simp [h35]
  have b36 : (op == 36) = false := by simp [h36]
  have b28 : (op == 28) = false := by simp [h28]
  have b29 : (op == 29) = false := by simp [h29]
  have b30 : (op == 30) = false := by simp [h30]
  have b31 : (op == 31) = false := by simp [h31]
  have b32 : (op == 32) = false := by simp [h32]
  have b33 : (op == 33) = false := by simp [h33]
  clear h1 h2 h3 h4 h5 h6 h13 h25 h26 h27 h34 h35 h36 h28 h29 h30 h31 h32 h33
  go_enter Try.func60, Try.ntmps60
  go_wp2_with (first | (go_at_call 96; refine (must_any _ _).mono ?_; rintro e w' ⟨rfl, hb⟩; have Z' := Zb.below (by assumption) hb; obtain ⟨z0, z1, z2, z3⟩ := And.intro Z'.z0 (And.intro Z'.z1 (And.intro Z'.f0 Z'.f1)); obtain ⟨y0, y1, y2, y3, y4, y5⟩ := And.intro Z'.c0 (And.intro Z'.c1 (And.intro Z'.d0 (And.intro Z'.d1 (And.intro Z'.d2 Z'.d3))))) | (go_at_call 97; refine (logic_any _ _).mono ?_; rintro e w' ⟨rfl, hb⟩; have Z' := Zb.below (by assumption) hb; obtain ⟨z0, z1, z2, z3⟩ := And.intro Z'.z0 (And.intro Z'.z1 (And.intro Z'.f0 Z'.f1)); obtain ⟨y0, y1, y2, y3, y4, y5⟩ := And.intro Z'.c0 (And.intro Z'.c1 (And.intro Z'.d0 (And.intro Z'.d1 (And.intro Z'.d2 Z'.d3))))) | (go_at_call 85; refine (may_any _ _ _).mono ?_; rintro e w' ⟨rfl, hb⟩; have Z' := Zb.below (by assumption) hb; obtain ⟨z0, z1, z2, z3⟩ := And.intro Z'.z0 (And.intro Z'.z1 (And.intro Z'.f0 Z'.f1)); obtain ⟨y0, y1, y2, y3, y4, y5⟩ := And.intro Z'.c0 (And.intro Z'.c1 (And.intro Z'.d0 (And.intro Z'.d1 (And.intro Z'.d2 Z'.d3))))) | (go_at_call 101; refine (made_any _ _ _).mono ?_; rintro e w' ⟨rfl, hb⟩; have Z' := Zb.below (by assumption) hb; obtain ⟨z0, z1, z2, z3⟩ := And.intro Z'.z0 (And.intro Z'.z1 (And.intro Z'.f0 Z'.f1)); obtain ⟨y0, y1, y2, y3, y4, y5⟩ := And.intro Z'.c0 (And.intro Z'.c1 (And.intro Z'.d0 (And.intro Z'.d1 (And.intro Z'.d2 Z'.d3))))) | (go_at_call 95; refine (with_any _ _ _ _ _ _).mono ?_; rintro e w' ⟨rfl, hb⟩; have Z' := Zb.below (by assumption) hb; obtain ⟨z0, z1, z2, z3⟩ := And.intro Z'.z0 (And.intro Z'.z1 (And.intro Z'.f0 Z'.f1)); obtain ⟨y0, y1, y2, y3, y4, y5⟩ := And.intro Z'.c0 (And.intro Z'.c1 (And.intro Z'.d0 (And.intro Z'.d1 (And.intro Z'.d2 Z'.d3))))) | (go_at_call 98; refine (ret_any _ _ _ _ _ _ (by omega)).mono ?_; rintro e w' ⟨rfl, hb⟩; have Z' := Zb.below (by assumption) hb; obtain ⟨z0, z1, z2, z3⟩ := And.intro Z'.z0 (And.intro Z'.z1 (And.intro Z'.f0 Z'.f1)); obtain ⟨y0, y1, y2, y3, y4, y5⟩ := And.intro Z'.c0 (And.intro Z'.c1 (And.intro Z'.d0 (And.intro Z'.d1 (And.intro Z'.d2 Z'.d3))))))
  refine quiet_tail (fun X => Zb w kind A n c (op) kd ar at_ nn l X) 20 (by kernel_rfl) (by kernel_rfl) Z1 ?_
  simp only [List.take_succ_cons, List.take_zero, List.drop_succ_cons, List.drop_zero]
  repeat (first | go_big_quiet_skip | (go_big_quiet_want; first | (go_big_quiet_op; go_big_quiet_on) | (apply Exists.intro; refine ⟨fun X hX => ?_, ?_⟩; · (obtain ⟨x0, x1, x2, x3, x4, x5⟩ := And.intro hX.c0 (And.intro hX.c1 (And.intro hX.d0 (And.intro hX.d1 (And.intro hX.d2 hX.d3)))); unfold Oper.quietAt; go_simp; first | done | rfl | exact ⟨rfl, rfl⟩ | (first | (go_at_call 96; refine (must_any _ _).mono ?_; rintro e w' ⟨rfl, hb⟩; exact ⟨rfl, hX.below hb⟩) | (go_at_call 97; refine (logic_any _ _).mono ?_; rintro e w' ⟨rfl, hb⟩; exact ⟨rfl, hX.below hb⟩) | (go_at_call 85; refine (may_any _ _ _).mono ?_; rintro e w' ⟨rfl, hb⟩; exact ⟨rfl, hX.below hb⟩) | (go_at_call 101; refine (made_any _ _ _).mono ?_; rintro e w' ⟨rfl, hb⟩; exact ⟨rfl, hX.below hb⟩) | (go_at_call 95; refine (with_any _ _ _ _ _ _).mono ?_; rintro e w' ⟨rfl, hb⟩; exact ⟨rfl, hX.below hb⟩)))); go_big_quiet_on; simp only [Act.put, List.setIfInBounds_toArray, List.set_cons_zero, List.set_cons_succ]))
  refine wpQuiet_nil ?_
  intro X Z'
  obtain ⟨z0, z1, z2, z3⟩ := And.intro Z'.z0 (And.intro Z'.z1 (And.intro Z'.f0 Z'.f1))
  go_wp2
  all_goals
    refine bodyPost_ret (v := .tuple #[.agg #[.int .i64 (madeI op kd), .slice A n c], .int .i64 (mustI (mayK op kd))]) (by simp [results, Try.results60, go_sem, z0, z1]) rfl ?_
    rw [HR.out]
    exact ⟨A, c, by rw [HN.out], (Z'.end_ Z'.br).1, (Z'.end_ Z'.br).2, HC.out, hc2⟩
theorem behind_nn (kind : Int) (A : Option Addr) (n c : Nat) (op kd ar at_ nn : Int) (l : List Br) (w : World) (hn : n = l.length) (hc1 : l.length ≤ c) (hc2 : c ≤ 9223372036854775807) (hb : BrAt w A l) (ho : op ≠ 1 ∧ op ≠ 2 ∧ op ≠ 3 ∧ op ≠ 4 ∧ op ≠ 5 ∧ op ≠ 6 ∧ op ≠ 13 ∧ op ≠ 25 ∧ op ≠ 26 ∧ op ≠ 27 ∧ op ≠ 34 ∧ op ≠ 35 ∧ op ≠ 36 ∧ op ≠ 28 ∧ op ≠ 29 ∧ op ≠ 30 ∧ op ≠ 31 ∧ op ≠ 32 ∧ op ≠ 33) (hk : (kind == kd) = false) :
    Calls Try.prog 60 #[.agg #[.int .i64 kind, .slice A n c], .agg #[.int .i64 op, .int .i64 kd, .int .i64 ar, .int .i64 at_, .int .i64 nn]] w (AhRet w ⟨madeI op kd, l⟩ (mustI false)) := by
  have Z := Zb.start w kind A n c (op) kd ar at_ nn l hb
  have Z1 := Z.drew
  have hn0 : n ≤ 9223372036854775807 := by omega
  have HN := hid hn
  have HC := hid hc1
  have HB0 := hid hb
  clear hn hc1 hb
  obtain ⟨R, hR⟩ : ∃ R, R = AhRet w ⟨madeI op kd, l⟩ (mustI false) := ⟨_, rfl⟩
  rw [← hR]
  have HR := hid hR
  clear hR
  obtain ⟨h1, h2, h3, h4, h5, h6, h13, h25, h26, h27, h34, h35, h36, h28, h29, h30, h31, h32, h33⟩ := ho
  have b1 : (op == 1) = false := by simp [h1]
  have b2 : (op == 2) = false := by simp [h2]
  have b3 : (op == 3) = false := by simp [h3]
  have b4 : (op == 4) = false := by simp [h4]
  have b5 : (op == 5) = false := by simp [h5]
  have b6 : (op == 6) = false := by simp [h6]
  have b13 : (op == 13) = false := by simp [h13]
  have b25 : (op == 25) = false := by simp [h25]
  have b26 : (op == 26) = false := by simp [h26]
  have b27 : (op == 27) = false := by simp [h27]
  have b34 : (op == 34) = false := by simp [h34]
  have b35 : (op == 35) = false := by simp [h35]
  have b36 : (op == 36) = false := by simp [h36]
  have b28 : (op == 28) = false := by simp [h28]
  have b29 : (op == 29) = false := by simp [h29]
  have b30 : (op == 30) = false := by simp [h30]
  have b31 : (op == 31) = false := by simp [h31]
  have b32 : (op == 32) = false := by simp [h32]
  have b33 : (op == 33) = false := by simp [h33]
  clear h1 h2 h3 h4 h5 h6 h13 h25 h26 h27 h34 h35 h36 h28 h29 h30 h31 h32 h33
  go_enter Try.func60, Try.ntmps60
  go_wp2_with (first | (go_at_call 96; refine (must_any _ _).mono ?_; rintro e w' ⟨rfl, hb⟩; have Z' := Zb.below (by assumption) hb; obtain ⟨z0, z1, z2, z3⟩ := And.intro Z'.z0 (And.intro Z'.z1 (And.intro Z'.f0 Z'.f1)); obtain ⟨y0, y1, y2, y3, y4, y5⟩ := And.intro Z'.c0 (And.intro Z'.c1 (And.intro Z'.d0 (And.intro Z'.d1 (And.intro Z'.d2 Z'.d3))))) | (go_at_call 97; refine (logic_any _ _).mono ?_; rintro e w' ⟨rfl, hb⟩; have Z' := Zb.below (by assumption) hb; obtain ⟨z0, z1, z2, z3⟩ := And.intro Z'.z0 (And.intro Z'.z1 (And.intro Z'.f0 Z'.f1)); obtain ⟨y0, y1, y2, y3, y4, y5⟩ := And.intro Z'.c0 (And.intro Z'.c1 (And.intro Z'.d0 (And.intro Z'.d1 (And.intro Z'.d2 Z'.d3))))) | (go_at_call 85; refine (may_any _ _ _).mono ?_; rintro e w' ⟨rfl, hb⟩; have Z' := Zb.below (by assumption) hb; obtain ⟨z0, z1, z2, z3⟩ := And.intro Z'.z0 (And.intro Z'.z1 (And.intro Z'.f0 Z'.f1)); obtain ⟨y0, y1, y2, y3, y4, y5⟩ := And.intro Z'.c0 (And.intro Z'.c1 (And.intro Z'.d0 (And.intro Z'.d1 (And.intro Z'.d2 Z'.d3))))) | (go_at_call 101; refine (made_any _ _ _).mono ?_; rintro e w' ⟨rfl, hb⟩; have Z' := Zb.below (by assumption) hb; obtain ⟨z0, z1, z2, z3⟩ := And.intro Z'.z0 (And.intro Z'.z1 (And.intro Z'.f0 Z'.f1)); obtain ⟨y0, y1, y2, y3, y4, y5⟩ := And.intro Z'.c0 (And.intro Z'.c1 (And.intro Z'.d0 (And.intro Z'.d1 (And.intro Z'.d2 Z'.d3))))) | (go_at_call 95; refine (with_any _ _ _ _ _ _).mono ?_; rintro e w' ⟨rfl, hb⟩; have Z' := Zb.below (by assumption) hb; obtain ⟨z0, z1, z2, z3⟩ := And.intro Z'.z0 (And.intro Z'.z1 (And.intro Z'.f0 Z'.f1)); obtain ⟨y0, y1, y2, y3, y4, y5⟩ := And.intro Z'.c0 (And.intro Z'.c1 (And.intro Z'.d0 (And.intro Z'.d1 (And.intro Z'.d2 Z'.d3))))) | (go_at_call 98; refine (ret_any _ _ _ _ _ _ (by omega)).mono ?_; rintro e w' ⟨rfl, hb⟩; have Z' := Zb.below (by assumption) hb; obtain ⟨z0, z1, z2, z3⟩ := And.intro Z'.z0 (And.intro Z'.z1 (And.intro Z'.f0 Z'.f1)); obtain ⟨y0, y1, y2, y3, y4, y5⟩ := And.intro Z'.c0 (And.intro Z'.c1 (And.intro Z'.d0 (And.intro Z'.d1 (And.intro Z'.d2 Z'.d3))))))
  refine quiet_tail (fun X => Zb w kind A n c (op) kd ar at_ nn l X) 20 (by kernel_rfl) (by kernel_rfl) Z1 ?_
  simp only [List.take_succ_cons, List.take_zero, List.drop_succ_cons, List.drop_zero]
  repeat (first | go_big_quiet_skip | (go_big_quiet_want; first | (go_big_quiet_op; go_big_quiet_on) | (apply Exists.intro; refine ⟨fun X hX => ?_, ?_⟩; · (obtain ⟨x0, x1, x2, x3, x4, x5⟩ := And.intro hX.c0 (And.intro hX.c1 (And.intro hX.d0 (And.intro hX.d1 (And.intro hX.d2 hX.d3)))); unfold Oper.quietAt; go_simp; first | done | rfl | exact ⟨rfl, rfl⟩ | (first | (go_at_call 96; refine (must_any _ _).mono ?_; rintro e w' ⟨rfl, hb⟩; exact ⟨rfl, hX.below hb⟩) | (go_at_call 97; refine (logic_any _ _).mono ?_; rintro e w' ⟨rfl, hb⟩; exact ⟨rfl, hX.below hb⟩) | (go_at_call 85; refine (may_any _ _ _).mono ?_; rintro e w' ⟨rfl, hb⟩; exact ⟨rfl, hX.below hb⟩) | (go_at_call 101; refine (made_any _ _ _).mono ?_; rintro e w' ⟨rfl, hb⟩; exact ⟨rfl, hX.below hb⟩) | (go_at_call 95; refine (with_any _ _ _ _ _ _).mono ?_; rintro e w' ⟨rfl, hb⟩; exact ⟨rfl, hX.below hb⟩)))); go_big_quiet_on; simp only [Act.put, List.setIfInBounds_toArray, List.set_cons_zero, List.set_cons_succ]))
  refine wpQuiet_nil ?_
  intro X Z'
  obtain ⟨z0, z1, z2, z3⟩ := And.intro Z'.z0 (And.intro Z'.z1 (And.intro Z'.f0 Z'.f1))
  go_wp2
  all_goals
    refine bodyPost_ret (v := .tuple #[.agg #[.int .i64 (madeI op kd), .slice A n c], .int .i64 (mustI false)]) (by simp [results, Try.results60, go_sem, z0, z1]) rfl ?_
    rw [HR.out]
    exact ⟨A, c, by rw [HN.out], (Z'.end_ Z'.br).1, (Z'.end_ Z'.br).2, HC.out, hc2⟩
end Go.Proofs.Ytkhnalboodkddaa
