import Derived.Test.YtkhnalboodkddaaVer9
set_option linter.unusedSimpArgs false
set_option linter.unusedVariables false
set_option maxRecDepth 100000
namespace Go.Proofs.Ytkhnalboodkddaa
open Go.RowKit
/-- A pointer to what is ahead, or none. -/
def ptrA (a : Option Ah) (p : Nat) : Value := match a with | none => .pointer none | some _ => .pointer (some ⟨p, 0, none⟩)
/-- What is ahead lies in a block of its own. -/
def AhAt (w : World) (p : Nat) (a : Ah) : Prop :=
  ∃ A c, w.heap[p]? = some (.cells #[.int .i64 a.kind, .slice A a.op.length c] 114 (0, 0)) ∧ BrAt w A a.op ∧ a.op.length ≤ c ∧ c ≤ 9223372036854775807
theorem AhAt.typ {w : World} {p : Nat} {a : Ah} (h : AhAt w p a) : Typ w p 114 := by
  obtain ⟨A, c, h, _⟩ := h
  exact ⟨_, _, h⟩
theorem AhAt.only {w w' : World} {p : Nat} {a : Ah} {bs : List Nat} (h : AhAt w p a) (ho : Only bs w w') (hn : p ∉ bs) (hb : ∀ x, x ∈ bs → ∀ cs fr, w.heap[x]? ≠ some (.cells cs 157 fr)) : AhAt w' p a := by
  obtain ⟨A, c, h, hbr, h1, h2⟩ := h
  exact ⟨A, c, (ho.block p (heap_lt h) hn).trans h, hbr.only ho hb, h1, h2⟩
/-- The table: a block of pointers, to blocks of their own. -/
structure TRep (w : World) (B tb : Nat) (t : List (Option Ah)) (p : Nat → Nat) : Prop where
  tab : ∃ cs, w.heap[tb]? = some (.cells cs 111 (0, 0)) ∧ cs.size = t.length ∧ ∀ i a, t[i]? = some a → cs[i]? = some (ptrA a (p i))
  ent : ∀ (i : Nat) (a : Ah), t[i]? = some (some a) → AhAt w (p i) a
  inj : ∀ i j a b, t[i]? = some (some a) → t[j]? = some (some b) → p i = p j → i = j
  bt : B ≤ tb
  bp : ∀ (i : Nat) (a : Ah), t[i]? = some (some a) → B ≤ p i
  b8 : ∀ (i : Nat) (a : Ah), t[i]? = some (some a) → a.op.length ≤ 8
theorem TRep.typ {w : World} {B tb : Nat} {t : List (Option Ah)} {p : Nat → Nat} (h : TRep w B tb t p) : Typ w tb 111 := by
  obtain ⟨cs, h, _⟩ := h.tab
  exact ⟨_, _, h⟩
theorem TRep.below {w w' : World} {B tb : Nat} {t : List (Option Ah)} {p : Nat → Nat} (h : TRep w B tb t p) (ho : Below w.heap.size w w') : TRep w' B tb t p := by
  obtain ⟨cs, h1, h2, h3⟩ := h.tab
  exact ⟨⟨cs, (ho.block tb (heap_lt h1)).trans h1, h2, h3⟩, fun i a hi => (h.ent i a hi).only (Only.of_below (bs := []) ho) (by simp) (by simp), h.inj, h.bt, h.bp, h.b8⟩
theorem TRep.cell {w : World} {B tb : Nat} {t : List (Option Ah)} {p : Nat → Nat} (h : TRep w B tb t p) (i : Nat) (a : Option Ah) (hi : t[i]? = some a) : tb < w.heap.size ∧ w.cell? ⟨tb, i, none⟩ = some (ptrA a (p i)) ∧ w.frozen? ⟨tb, i, none⟩ = false := by
  obtain ⟨cs, h1, h2, h3⟩ := h.tab
  exact ⟨heap_lt h1, by rw [cell_of_heap h1]; exact h3 i a hi, frozen_of_heap h1 i⟩
/-- A new one stands in the table. -/
theorem TRep.put {w : World} {B tb : Nat} {t : List (Option Ah)} {p : Nat → Nat} (h : TRep w B tb t p) (to q : Nat) (a : Ah) (hto : t[to]? = some none) (hq : AhAt w q a) (hB : B ≤ q) (hf : ∀ i b, t[i]? = some (some b) → p i ≠ q) (h8 : a.op.length ≤ 8) :
    TRep (w.setCell ⟨tb, to, none⟩ (.pointer (some ⟨q, 0, none⟩))) B tb (t.set to (some a)) (fun i => if i = to then q else p i) := by
  obtain ⟨cs, h1, h2, h3⟩ := h.tab
  have hlt : to < t.length := (List.getElem?_eq_some_iff.1 hto).1
  have ho : Only [tb] w (w.setCell ⟨tb, to, none⟩ (.pointer (some ⟨q, 0, none⟩))) := (Only.refl _ _).setCell (by simp) _
  have hty : ∀ x, x ∈ [tb] → ∀ cs fr, w.heap[x]? ≠ some (.cells cs 157 fr) := fun x hx cs fr => by
    simp at hx; subst hx; exact h.typ.ne (by decide) cs fr
  have hne : ∀ x b, AhAt w x b → x ∉ [tb] := fun x b hx hm => by
    simp at hm; subst hm
    obtain ⟨A, c, hx, _⟩ := hx
    exact h.typ.ne (by decide) _ _ hx
  have key : ∀ i b, (t.set to (some a))[i]? = some (some b) → (i = to ∧ b = a) ∨ (i ≠ to ∧ t[i]? = some (some b)) := by
    intro i b hi
    by_cases e : i = to
    · subst e
      rw [List.getElem?_set_self hlt] at hi
      injection hi with hi
      injection hi with hi
      exact Or.inl ⟨rfl, hi.symm⟩
    · rw [List.getElem?_set_ne (fun h => e h.symm)] at hi
      exact Or.inr ⟨e, hi⟩
  refine ⟨⟨cs.setIfInBounds to (.pointer (some ⟨q, 0, none⟩)), heap_setCell_same h1 to _, by simp [h2], fun i b hi => ?_⟩, fun i b hi => ?_, fun i j b c hi hj e => ?_, h.bt, fun i b hi => ?_, fun i b hi => ?_⟩
  · by_cases e : i = to
    · subst e
      rw [List.getElem?_set_self hlt] at hi
      injection hi with hi
      subst hi
      rw [Array.getElem?_setIfInBounds_self_of_lt (by omega)]
      simp [ptrA]
    · rw [List.getElem?_set_ne (fun h => e h.symm)] at hi
      rw [Array.getElem?_setIfInBounds_ne (fun h => e h.symm), if_neg e]
      exact h3 i b hi
  · rcases key i b hi with ⟨rfl, rfl⟩ | ⟨e, hi⟩
    · simp only [if_true]
      exact hq.only ho (hne _ _ hq) hty
    · simp only [if_neg e]
      exact (h.ent i b hi).only ho (hne _ _ (h.ent i b hi)) hty
  · rcases key i b hi with ⟨ei, _⟩ | ⟨ei, hi'⟩ <;> rcases key j c hj with ⟨ej, _⟩ | ⟨ej, hj'⟩
    · rw [ei, ej]
    · simp only [if_pos ei, if_neg ej] at e
      exact absurd e.symm (hf j c hj')
    · simp only [if_pos ej, if_neg ei] at e
      exact absurd e (hf i b hi')
    · simp only [if_neg ei, if_neg ej] at e
      exact h.inj i j b c hi' hj' e
  · rcases key i b hi with ⟨rfl, rfl⟩ | ⟨e, hi⟩
    · simp only [if_true]; exact hB
    · simp only [if_neg e]; exact h.bp i b hi
  · rcases key i b hi with ⟨rfl, rfl⟩ | ⟨e, hi⟩
    · exact h8
    · exact h.b8 i b hi
/-- One that stands in the table turns: its kind is 0. -/
theorem TRep.zero {w : World} {B tb : Nat} {t : List (Option Ah)} {p : Nat → Nat} (h : TRep w B tb t p) (to : Nat) (was : Ah) (hto : t[to]? = some (some was)) (A : Option Addr) (c : Nat)
    (hA : w.heap[p to]? = some (.cells #[.int .i64 was.kind, .slice A was.op.length c] 114 (0, 0))) :
    TRep ((w.setCell ⟨p to, 0, none⟩ (.int .i64 0)).setCell ⟨p to, 1, none⟩ (.slice A was.op.length c)) B tb (t.set to (some ⟨0, was.op⟩)) p := by
  obtain ⟨cs, h1, h2, h3⟩ := h.tab
  have hlt : to < t.length := (List.getElem?_eq_some_iff.1 hto).1
  have ho : Only [p to] w ((w.setCell ⟨p to, 0, none⟩ (.int .i64 0)).setCell ⟨p to, 1, none⟩ (.slice A was.op.length c)) := ((Only.refl _ _).setCell (by simp) _).setCell (by simp) _
  have hte := (h.ent to was hto).typ
  have hty : ∀ x, x ∈ [p to] → ∀ cs fr, w.heap[x]? ≠ some (.cells cs 157 fr) := fun x hx cs fr => by
    simp at hx; subst hx; exact hte.ne (by decide) cs fr
  have hnt : tb ∉ [p to] := fun hm => by
    simp at hm
    rw [hm] at h1
    rw [hA] at h1
    injection h1 with h1
    injection h1 with _ h1
    exact absurd h1 (by decide)
  have key : ∀ i b, (t.set to (some ⟨0, was.op⟩))[i]? = some (some b) → (i = to ∧ b = ⟨0, was.op⟩) ∨ (i ≠ to ∧ t[i]? = some (some b)) := by
    intro i b hi
    by_cases e : i = to
    · subst e
      rw [List.getElem?_set_self hlt] at hi
      injection hi with hi
      injection hi with hi
      exact Or.inl ⟨rfl, hi.symm⟩
    · rw [List.getElem?_set_ne (fun h => e h.symm)] at hi
      exact Or.inr ⟨e, hi⟩
  have old : ∀ (i : Nat) (b : Ah), (t.set to (some ⟨0, was.op⟩))[i]? = some (some b) → ∃ b', t[i]? = some (some b') := by
    intro i b hi
    rcases key i b hi with ⟨rfl, _⟩ | ⟨_, hi⟩
    · exact ⟨was, hto⟩
    · exact ⟨b, hi⟩
  refine ⟨⟨cs, (ho.block tb (heap_lt h1) hnt).trans h1, by simp [h2], fun i b hi => ?_⟩, fun i b hi => ?_, fun i j b c hi hj e => ?_, h.bt, fun i b hi => ?_, fun i b hi => ?_⟩
  · by_cases e : i = to
    · subst e
      rw [List.getElem?_set_self hlt] at hi
      injection hi with hi
      subst hi
      rw [h3 i _ hto]
      rfl
    · rw [List.getElem?_set_ne (fun h => e h.symm)] at hi
      exact h3 i b hi
  · rcases key i b hi with ⟨rfl, rfl⟩ | ⟨e, hi⟩
    · obtain ⟨A', c', hA', hbr, q1, q2⟩ := h.ent i was hto
      rw [hA] at hA'
      injection hA' with hA'
      injection hA' with hA' _
      simp at hA'
      obtain ⟨rfl, rfl⟩ := hA'
      refine ⟨A, c, ?_, hbr.only ho hty, q1, q2⟩
      have := heap_setCell_same (heap_setCell_same hA 0 (.int .i64 0)) 1 (.slice A was.op.length c)
      simpa using this
    · refine (h.ent i b hi).only ho (fun hm => ?_) hty
      simp at hm
      exact e (h.inj i to b was hi hto hm)
  · obtain ⟨b', hi⟩ := old i b hi
    obtain ⟨c', hj⟩ := old j c hj
    exact h.inj i j b' c' hi hj e
  · obtain ⟨b', hi⟩ := old i b hi
    exact h.bp i b' hi
  · rcases key i b hi with ⟨rfl, rfl⟩ | ⟨e, hi⟩
    · exact h.b8 i was hto
    · exact h.b8 i b hi
end Go.Proofs.Ytkhnalboodkddaa
