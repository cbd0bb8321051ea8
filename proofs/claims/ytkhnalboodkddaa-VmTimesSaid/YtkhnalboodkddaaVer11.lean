import Derived.Test.YtkhnalboodkddaaVer10
set_option linter.unusedSimpArgs false
set_option linter.unusedVariables false
set_option maxRecDepth 100000
namespace Go.Proofs.Ytkhnalboodkddaa
open Go.RowKit
def leadT (t : List (Option Ah)) (to : Nat) (a : Ah) : List (Option Ah) :=
  match t[to]? with
  | some none => t.set to (some a)
  | some (some was) => if was.kind = a.kind then t else t.set to (some ⟨0, was.op⟩)
  | none => t
def leadB (t : List (Option Ah)) (to : Nat) (a : Ah) : Bool :=
  match t[to]? with
  | some (some was) => decide (was.op = a.op)
  | _ => true
theorem lead_nil (B tb cap : Nat) (t : List (Option Ah)) (p : Nat → Nat) (to : Nat) (A : Option Addr) (c : Nat) (a : Ah) (n m : Nat) (w : World) (hn : n = t.length) (hm : m = a.op.length) (hmax : n ≤ 9223372036854775807)
    (hr : TRep w B tb t p) (hB : B ≤ w.heap.size) (hto : t[to]? = some none) (hb : BrAt w A a.op) (hc1 : a.op.length ≤ c) (hc2 : c ≤ 9223372036854775807) (h8 : a.op.length ≤ 8) :
    Calls Try.prog 62 #[.slice (some ⟨tb, 0, none⟩) n cap, .int .i64 to, .agg #[.int .i64 a.kind, .slice A m c]] w fun e w' => e = .returned (.bool true) ∧ Only [tb] w w' ∧ ∃ p', TRep w' B tb (t.set to (some a)) p' := by
  obtain ⟨tlt, tc, tf⟩ := hr.cell to none hto
  have hlt : to < n := by rw [hn]; exact (List.getElem?_eq_some_iff.1 hto).1
  simp only [ptrA] at tc
  have HM := hid hm
  have HR := hid hr
  have HT := hid hto
  have HB := hid hb
  have HC := hid hc1
  have H8 := hid h8
  clear hn hm hr hto hb hc1 h8
  go_enter Try.func62, Try.ntmps62
  go_wp2
  go_ret
  refine ⟨rfl, ?_, ?_⟩
  · exact ((Only.refl _ w).setCell (by simp) _).alloc _
  · rw [← World.setCell_alloc_past _ _ _ _ tlt]
    have hr1 := HR.out.below ((Below.refl _ _).alloc (Nat.le_refl _) (.cells #[.int .i64 a.kind, .slice A m c] 114))
    refine ⟨_, hr1.put to w.heap.size a HT.out ⟨A, c, ?_, HB.out.below ((Below.refl _ _).alloc (Nat.le_refl _) _), HC.out, hc2⟩ hB ?_ H8.out⟩
    · rw [heap_new, HM.out]
    · intro i b hi e
      have := (HR.out.ent i b hi).typ.lt
      omega
theorem lead_some (B tb cap : Nat) (t : List (Option Ah)) (p : Nat → Nat) (to : Nat) (A : Option Addr) (c : Nat) (a was : Ah) (n m : Nat) (w : World) (hn : n = t.length) (hm : m = a.op.length) (hmax : n ≤ 9223372036854775807)
    (hr : TRep w B tb t p) (hB : B ≤ w.heap.size) (hto : t[to]? = some (some was)) (hb : BrAt w A a.op) (hc1 : a.op.length ≤ c) (hc2 : c ≤ 9223372036854775807) (hk : was.kind = a.kind) :
    Calls Try.prog 62 #[.slice (some ⟨tb, 0, none⟩) n cap, .int .i64 to, .agg #[.int .i64 a.kind, .slice A m c]] w fun e w' => e = .returned (.bool (decide (was.op = a.op))) ∧ Only [tb, p to] w w' ∧ ∃ p', TRep w' B tb t p' := by
  obtain ⟨tlt, tc, tf⟩ := hr.cell to _ hto
  have hlt : to < n := by rw [hn]; exact (List.getElem?_eq_some_iff.1 hto).1
  obtain ⟨A', c', hA', hbr', q1, q2⟩ := hr.ent to was hto
  simp only [ptrA] at tc
  have plt := heap_lt hA'
  have pc0 : w.cell? ⟨p to, 0, none⟩ = some (.int .i64 was.kind) := by rw [cell_of_heap hA']; rfl
  have pc1 : w.cell? ⟨p to, 1, none⟩ = some (.slice A' was.op.length c') := by rw [cell_of_heap hA']; rfl
  have hmm : m ≤ 9223372036854775807 := by omega
  have hmm' : was.op.length ≤ 9223372036854775807 := by omega
  have HM := hid hm
  have HR := hid hr
  have HT := hid hto
  have HB := hid hb
  have HB' := hid hbr'
  have HK := hid hk
  clear hn hm hr hto hb hbr' hA'
  rw [← HK.out]
  generalize p to = q at *
  go_enter Try.func62, Try.ntmps62
  go_wp2
  go_quiet (fail)
  go_wp2
  have hbq0 : Below w.heap.size w ((w.alloc (.cells #[.int .i64 was.kind, .slice A m c] 114)).drewN nq) := (by repeat (first | exact Below.refl _ _ | assumption | (with_reducible refine below_alloc' ?_ _) | (with_reducible refine below_drew' ?_) | (with_reducible refine below_drewN' ?_ _) | (with_reducible refine below_setCell' ?_ (by first | omega | (simp; omega) | (simp; done)) _) | (refine below_then' ?_ (by assumption))))
  have f0 : ((w.alloc (.cells #[.int .i64 a.kind, .slice A m c] 114)).drewN nq).cell? ⟨w.heap.size, 1, none⟩ = some (.slice A m c) := by simp [go_sem]
  have f1 := (hbq0.cell (p := ⟨q, 1, none⟩) plt).trans pc1
  have f2 : w.heap.size < ((w.alloc (.cells #[.int .i64 a.kind, .slice A m c] 114)).drewN nq).heap.size := by simp
  have f3 : q < ((w.alloc (.cells #[.int .i64 a.kind, .slice A m c] 114)).drewN nq).heap.size := by simp; omega
  rw [HK.out] at hbq0 f1
  generalize (w.alloc (.cells #[.int .i64 a.kind, .slice A m c] 114)).drewN nq = w1 at *
  have b1 := HB.out.below hbq0
  have b2 := HB'.out.below hbq0
  have HBQ := hid hbq0
  have HB1 := hid b1
  have HB2 := hid b2
  clear hbq0 b1 b2
  (refine quiet_all (fun X => Below (w1).heap.size (w1) X) (by kernel_rfl) (by kernel_rfl) (Below.refl _ _).drew ?_; (repeat (first | go_big_quiet_skip | (go_big_quiet_want; first | (go_big_quiet_op; go_big_quiet_on) | (apply Exists.intro; refine ⟨fun X hX => ?_, ?_⟩; · (have hbq := (bcell hX).1; (try simp only [World.size_alloc, World.size_setCell, World.size_drew] at hbq); unfold Oper.quietAt; go_simp; first | done | rfl | exact ⟨rfl, rfl⟩ | (go_at_call 102; refine (brEq_any _ _ _ _ _ _ was.op a.op _ rfl HM.out (HB2.out.below hX) (HB1.out.below hX) hmm' hmm).mono ?_; rintro e w' ⟨rfl, hb⟩; exact ⟨rfl, hX.trans (hb.mono hX.size)⟩))); go_big_quiet_on; simp only [Act.put, List.setIfInBounds_toArray, List.set_cons_zero, List.set_cons_succ]))); refine wpQuiet_nil ?_; intro X hX)
  go_wp2
  go_ret
  have hall : Below w.heap.size w X := below_then' HBQ.out hX
  exact ⟨rfl, Only.of_below hall, _, HR.out.below hall⟩
theorem lead_zero (B tb cap : Nat) (t : List (Option Ah)) (p : Nat → Nat) (to : Nat) (A : Option Addr) (c : Nat) (a was : Ah) (n m : Nat) (w : World) (hn : n = t.length) (hm : m = a.op.length) (hmax : n ≤ 9223372036854775807)
    (hr : TRep w B tb t p) (hB : B ≤ w.heap.size) (hto : t[to]? = some (some was)) (hb : BrAt w A a.op) (hc1 : a.op.length ≤ c) (hc2 : c ≤ 9223372036854775807) (hk : was.kind ≠ a.kind) :
    Calls Try.prog 62 #[.slice (some ⟨tb, 0, none⟩) n cap, .int .i64 to, .agg #[.int .i64 a.kind, .slice A m c]] w fun e w' => e = .returned (.bool (decide (was.op = a.op))) ∧ Only [tb, p to] w w' ∧ ∃ p', TRep w' B tb (t.set to (some ⟨0, was.op⟩)) p' := by
  obtain ⟨tlt, tc, tf⟩ := hr.cell to _ hto
  have hlt : to < n := by rw [hn]; exact (List.getElem?_eq_some_iff.1 hto).1
  obtain ⟨A', c', hA', hbr', q1, q2⟩ := hr.ent to was hto
  simp only [ptrA] at tc
  have plt := heap_lt hA'
  have pc0 : w.cell? ⟨p to, 0, none⟩ = some (.int .i64 was.kind) := by rw [cell_of_heap hA']; rfl
  have pc1 : w.cell? ⟨p to, 1, none⟩ = some (.slice A' was.op.length c') := by rw [cell_of_heap hA']; rfl
  have pf0 : w.frozen? ⟨p to, 0, none⟩ = false := frozen_of_heap hA' 0
  have pf1 : w.frozen? ⟨p to, 1, none⟩ = false := frozen_of_heap hA' 1
  have hmm : m ≤ 9223372036854775807 := by omega
  have hmm' : was.op.length ≤ 9223372036854775807 := by omega
  have hk' : (was.kind != a.kind) = true := by simp [hk]
  have HM := hid hm
  have HR := hid hr
  have HT := hid hto
  have HB := hid hb
  have HB' := hid hbr'
  have HA' := hid hA'
  clear hn hm hr hto hb hbr' hA' hk
  generalize hq : p to = q at *
  have HQ := hid hq
  clear hq
  have BB := HR.out.bp to was HT.out
  rw [HQ.out] at BB
  go_enter Try.func62, Try.ntmps62
  go_wp2
  go_quiet (fail)
  go_wp2_with fail
  refine (with_any _ _ _ _ _ _).mono ?_
  rintro e w2 ⟨rfl, hb2⟩
  have hbq0 : Below w.heap.size w ((w.alloc (.cells #[.int .i64 a.kind, .slice A m c] 114)).drewN nq) := (by repeat (first | exact Below.refl _ _ | assumption | (with_reducible refine below_alloc' ?_ _) | (with_reducible refine below_drew' ?_) | (with_reducible refine below_drewN' ?_ _) | (with_reducible refine below_setCell' ?_ (by first | omega | (simp; omega) | (simp; done)) _) | (refine below_then' ?_ (by assumption))))
  have hb3 : Below w.heap.size w w2 := below_then' hbq0 hb2
  have f0 : w2.cell? ⟨w.heap.size, 1, none⟩ = some (.slice A m c) := (hb2.cell (p := ⟨w.heap.size, 1, none⟩) (by simp)).trans (by simp [go_sem])
  have g0 := (hb3.cell (p := ⟨q, 0, none⟩) plt).trans pc0
  have g1 := (hb3.cell (p := ⟨q, 1, none⟩) plt).trans pc1
  have g2 := (hb3.frozen (p := ⟨q, 0, none⟩) plt).trans pf0
  have g3 := (hb3.frozen (p := ⟨q, 1, none⟩) plt).trans pf1
  have g4 : w.heap.size < w2.heap.size := by have := hb2.size; simp at this; omega
  have HB3 := hid hb3
  clear hbq0 hb2 hb3
  go_wp2
  have hr2 := (HR.out.below HB3.out).zero to was HT.out A' c' (by rw [HQ.out]; exact (HB3.out.block q plt).trans HA'.out)
  rw [HQ.out] at hr2
  have k0 : ((w2.setCell ⟨q, 0, none⟩ (.int .i64 0)).setCell ⟨q, 1, none⟩ (.slice A' was.op.length c')).cell? ⟨w.heap.size, 1, none⟩ = some (.slice A m c) := by
    rw [World.cell?_setCell_other _ _ _ _ (by first | (simp; done) | (simp; omega)), World.cell?_setCell_other _ _ _ _ (by first | (simp; done) | (simp; omega))]; exact f0
  have k1 : ((w2.setCell ⟨q, 0, none⟩ (.int .i64 0)).setCell ⟨q, 1, none⟩ (.slice A' was.op.length c')).cell? ⟨q, 1, none⟩ = some (.slice A' was.op.length c') :=
    World.cell?_setCell_same _ _ _ (by rw [World.cell?_setCell_other _ _ _ _ (by simp)]; exact g1)
  have k2 : w.heap.size < ((w2.setCell ⟨q, 0, none⟩ (.int .i64 0)).setCell ⟨q, 1, none⟩ (.slice A' was.op.length c')).heap.size := by simp; omega
  have k3 : q < ((w2.setCell ⟨q, 0, none⟩ (.int .i64 0)).setCell ⟨q, 1, none⟩ (.slice A' was.op.length c')).heap.size := by simp; omega
  have ty := (hr2.ent to _ (List.getElem?_set_self (List.getElem?_eq_some_iff.1 HT.out).1)).typ
  have ty0 : Typ w2 q 114 := ⟨_, _, (HB3.out.block q plt).trans HA'.out⟩
  have b1 := ((HB.out.below HB3.out).setCell ty0 (by decide) 0 (.int .i64 0)).setCell (ty0.setCell ⟨q, 0, none⟩ (.int .i64 0)) (by decide) 1 (.slice A' was.op.length c')
  have b2 := ((HB'.out.below HB3.out).setCell ty0 (by decide) 0 (.int .i64 0)).setCell (ty0.setCell ⟨q, 0, none⟩ (.int .i64 0)) (by decide) 1 (.slice A' was.op.length c')
  have hbB : Only [tb, q] w ((w2.setCell ⟨q, 0, none⟩ (.int .i64 0)).setCell ⟨q, 1, none⟩ (.slice A' was.op.length c')) := ((Only.of_below HB3.out).setCell (by simp) _).setCell (by simp) _
  have hsz : w.heap.size ≤ ((w2.setCell ⟨q, 0, none⟩ (.int .i64 0)).setCell ⟨q, 1, none⟩ (.slice A' was.op.length c')).heap.size := by simp; omega
  generalize (w2.setCell ⟨q, 0, none⟩ (.int .i64 0)).setCell ⟨q, 1, none⟩ (.slice A' was.op.length c') = w3 at *
  have HR2 := hid hr2
  have HB1 := hid b1
  have HB2 := hid b2
  have HBB := hid hbB
  clear hr2 b1 b2 hbB ty ty0 f0 g0 g1 g2 g3
  (refine quiet_all (fun X => Below (w3).heap.size (w3) X) (by kernel_rfl) (by kernel_rfl) (Below.refl _ _).drew ?_; (repeat (first | go_big_quiet_skip | (go_big_quiet_want; first | (go_big_quiet_op; go_big_quiet_on) | (apply Exists.intro; refine ⟨fun X hX => ?_, ?_⟩; · (have hbq := (bcell hX).1; (try simp only [World.size_alloc, World.size_setCell, World.size_drew] at hbq); unfold Oper.quietAt; go_simp; first | done | rfl | exact ⟨rfl, rfl⟩ | (go_at_call 102; refine (brEq_any _ _ _ _ _ _ was.op a.op _ rfl HM.out (HB2.out.below hX) (HB1.out.below hX) hmm' hmm).mono ?_; rintro e w' ⟨rfl, hb⟩; exact ⟨rfl, hX.trans (hb.mono hX.size)⟩))); go_big_quiet_on; simp only [Act.put, List.setIfInBounds_toArray, List.set_cons_zero, List.set_cons_succ]))); refine wpQuiet_nil ?_; intro X hX)
  go_wp2
  go_ret
  exact ⟨rfl, HBB.out.thenB hX, _, HR2.out.below hX⟩
/-- The blocks that 'lead' may write. -/
def leadBs (t : List (Option Ah)) (p : Nat → Nat) (tb to : Nat) : List Nat :=
  match t[to]? with
  | some (some _) => [tb, p to]
  | _ => [tb]
theorem TRep.bs {w : World} {B tb : Nat} {t : List (Option Ah)} {p : Nat → Nat} (h : TRep w B tb t p) (to : Nat) : ∀ x, x ∈ leadBs t p tb to → (Typ w x 111 ∨ Typ w x 114) := by
  intro x hx
  unfold leadBs at hx
  split at hx
  · rename_i a ha
    simp at hx
    rcases hx with rfl | rfl
    · exact Or.inl h.typ
    · exact Or.inr (h.ent to a ha).typ
  · simp at hx
    subst hx
    exact Or.inl h.typ
theorem TRep.br {w w' : World} {B tb : Nat} {t : List (Option Ah)} {p : Nat → Nat} (h : TRep w B tb t p) {to : Nat} (ho : Only (leadBs t p tb to) w w') {A : Option Addr} {l : List Br} (hb : BrAt w A l) : BrAt w' A l :=
  hb.only ho (fun x hx cs fr => by
    rcases h.bs to x hx with h' | h'
    · exact h'.ne (by decide) cs fr
    · exact h'.ne (by decide) cs fr)
theorem lead_any (B tb cap : Nat) (t : List (Option Ah)) (p : Nat → Nat) (to : Nat) (A : Option Addr) (c : Nat) (a : Ah) (n m : Nat) (w : World) (hn : n = t.length) (hm : m = a.op.length) (hmax : n ≤ 9223372036854775807)
    (hr : TRep w B tb t p) (hB : B ≤ w.heap.size) (hto : to < t.length) (hb : BrAt w A a.op) (hc1 : a.op.length ≤ c) (hc2 : c ≤ 9223372036854775807) (h8 : a.op.length ≤ 8) :
    Calls Try.prog 62 #[.slice (some ⟨tb, 0, none⟩) n cap, .int .i64 to, .agg #[.int .i64 a.kind, .slice A m c]] w fun e w' => e = .returned (.bool (leadB t to a)) ∧ Only (leadBs t p tb to) w w' ∧ ∃ p', TRep w' B tb (leadT t to a) p' := by
  cases h : t[to]? with
  | none => rw [List.getElem?_eq_none_iff] at h; omega
  | some x =>
    cases x with
    | none =>
      have e1 : leadB t to a = true := by simp only [leadB, h]
      have e2 : leadT t to a = t.set to (some a) := by simp only [leadT, h]
      have e3 : leadBs t p tb to = [tb] := by simp only [leadBs, h]
      rw [e1, e2, e3]
      exact lead_nil B tb cap t p to A c a n m w hn hm hmax hr hB h hb hc1 hc2 h8
    | some was =>
      have e1 : leadB t to a = decide (was.op = a.op) := by simp only [leadB, h]
      have e3 : leadBs t p tb to = [tb, p to] := by simp only [leadBs, h]
      rw [e1, e3]
      by_cases hk : was.kind = a.kind
      · have e2 : leadT t to a = t := by simp only [leadT, h]; rw [if_pos hk]
        rw [e2]
        exact lead_some B tb cap t p to A c a was n m w hn hm hmax hr hB h hb hc1 hc2 hk
      · have e2 : leadT t to a = t.set to (some ⟨0, was.op⟩) := by simp only [leadT, h]; rw [if_neg hk]
        rw [e2]
        exact lead_zero B tb cap t p to A c a was n m w hn hm hmax hr hB h hb hc1 hc2 hk
theorem lead_at (B tb cap : Nat) (t : List (Option Ah)) (p : Nat → Nat) (x : Int) (A : Option Addr) (c : Nat) (a : Ah) (n m : Nat) (w : World) (hx : 0 ≤ x) (hn : n = t.length) (hm : m = a.op.length) (hmax : n ≤ 9223372036854775807)
    (hr : TRep w B tb t p) (hB : B ≤ w.heap.size) (hto : x.toNat < t.length) (hb : BrAt w A a.op) (hc1 : a.op.length ≤ c) (hc2 : c ≤ 9223372036854775807) (h8 : a.op.length ≤ 8) :
    Calls Try.prog 62 #[.slice (some ⟨tb, 0, none⟩) n cap, .int .i64 x, .agg #[.int .i64 a.kind, .slice A m c]] w fun e w' => e = .returned (.bool (leadB t x.toNat a)) ∧ Only (leadBs t p tb x.toNat) w w' ∧ ∃ p', TRep w' B tb (leadT t x.toNat a) p' := by
  obtain ⟨to, rfl⟩ := Int.eq_ofNat_of_zero_le hx
  exact lead_any B tb cap t p to A c a n m w hn hm hmax hr hB (by simpa using hto) hb hc1 hc2 h8
end Go.Proofs.Ytkhnalboodkddaa
