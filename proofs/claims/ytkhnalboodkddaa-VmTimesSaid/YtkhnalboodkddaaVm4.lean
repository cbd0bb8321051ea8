import Derived.Test.YtkhnalboodkddaaVm3
import Derived.BigGuardPart
set_option linter.unusedSimpArgs false
set_option linter.unusedVariables false
set_option maxRecDepth 100000
namespace Go.Proofs.Ytkhnalboodkddaa
open Go.RowKit
theorem putL2_length (l : List UInt8) (at_ k v : Int) (h : l.length = 64) : (putL2 l at_ k v).length = 64 := by
  unfold putL2
  split
  · rename_i ht
    simp [thereB] at ht
    have := ksize_range k
    rw [putL_length _ _ _ _ (by omega), h]
  · exact h
theorem RAt.put {w w' : World} {B r : Nat} {b c : Nat → Nat} {s : Rs} {V : Value} (h : RAt w B r b c s V) {a : Nat} (h1 : 1 ≤ a) (h4 : a ≤ 4) (at_ k v : Int) (ho : Only [b a] w w') (ha : Area w' (b a) (putL2 (s.ar a) at_ k v)) : RAt w' B r b c (putS s a at_ k v) V where
  blk := by
    rw [ho.block r h.lt (by simp; exact fun e => h.ne a h1 h4 e.symm)]
    exact h.blk
  own := by
    refine ⟨h.own.1, ?_⟩
    rcases h.own.2 with h' | ⟨g, cap, cur, e, e2, e3, e4⟩
    · exact Or.inl h'
    · refine Or.inr ⟨g, cap, cur, e, e2, ?_, e4⟩
      rw [ho.block g (heap_lt e3) (by simp; exact (h.sep g (by rw [e]; rfl)).2 a h1 h4)]
      exact e3
  sep := h.sep
  area := fun i i1 i4 => by
    by_cases e : i = a
    · subst e
      simpa [putS] using ha
    · have : Area w' (b i) (s.ar i) := (h.area i i1 i4).only ho (by simp; exact fun e' => e (h.inj i a i1 i4 h1 h4 e'))
      simpa [putS, e] using this
  len := fun i i1 i4 => by
    by_cases e : i = a
    · subst e
      simp [putS, putL2_length _ _ _ _ (h.len i i1 i4)]
    · simp [putS, e, h.len i i1 i4]
  ne := h.ne
  inj := h.inj
  base := h.base
theorem put_area (l : List UInt8) (b cap : Nat) (at_ k v : Int) (W : World) (ha : Area W b l) (hl : l.length = 64) :
    Calls Try.prog 109 #[.slice (some ⟨b, 0, none⟩) 64 cap, .int .i64 at_, .int .i64 k, .int .i64 v] W fun e w' => ∃ ok, e = .returned (.bool ok) ∧ Only [b] W w' ∧ Area w' b (putL2 l at_ k v) := by
  by_cases h : thereB 64 at_ k = true
  · have h2 := put_yes b cap l at_ k v W (by omega) (by rw [hl]; exact h) ha
    rw [hl] at h2
    refine h2.mono ?_
    rintro e w' ⟨rfl, h1, h2⟩
    exact ⟨true, rfl, h1, by simp only [putL2]; rw [if_pos h]; exact h2⟩
  · have h' : thereB 64 at_ k = false := by simpa using h
    have h2 := put_no b cap l at_ k v W (by omega) (by rw [hl]; exact h')
    rw [hl] at h2
    refine h2.mono ?_
    rintro e w' ⟨rfl, hb⟩
    exact ⟨false, rfl, Only.of_below hb, by simp only [putL2]; rw [if_neg h]; exact ha.below hb⟩
theorem RAt.slot {w : World} {B r : Nat} {b c : Nat → Nat} {s : Rs} {V : Value} (h : RAt w B r b c s V) {a : Nat} (h1 : 1 ≤ a) (h4 : a ≤ 4) : w.cell? ⟨r, a, none⟩ = some (.slice (some ⟨b a, 0, none⟩) 64 (c a)) := by
  rw [h.cell]
  have : a = 1 ∨ a = 2 ∨ a = 3 ∨ a = 4 := by omega
  rcases this with rfl | rfl | rfl | rfl <;> rfl
theorem rput_any (B r : Nat) (b c : Nat → Nat) (s : Rs) (V : Value) (area at_ k v : Int) (w : World) (h : RAt w B r b c s V) (h1 : 1 ≤ area) (h4 : area ≤ 4) :
    Calls Try.prog 71 #[.pointer (some ⟨r, 0, none⟩), .int .i64 area, .int .i64 at_, .int .i64 k, .int .i64 v] w fun e w' => e = .returned (.tuple #[]) ∧ Only [b area.toNat] w w' ∧ RAt w' B r b c (putS s area at_ k v) V := by
  obtain ⟨a, rfl⟩ : ∃ a : Nat, area = a := ⟨area.toNat, by omega⟩
  have hc := h.slot (a := a) (by omega) (by omega)
  have K := hid (put_area (s.ar a) (b a) (c a) at_ k v w (h.area a (by omega) (by omega)) (h.len a (by omega) (by omega)))
  have H := hid h
  have R := hid fun w' => h.put (w' := w') (a := a) (by omega) (by omega) at_ k v
  have h1' : 1 ≤ a := by omega
  have h4' : a ≤ 4 := by omega
  generalize putS s a at_ k v = s' at *
  generalize putL2 (s.ar a) at_ k v = l' at *
  clear h
  go_enter Try.func71, Try.ntmps71
  go_wp2_with (first | (go_at_call 109; refine K.out.mono ?_; rintro e w1 ⟨ok, rfl, ho, ha⟩))
  exact bodyPost_end (v := .tuple #[]) (by simp [results, Try.results71, go_sem]) rfl ⟨rfl, ho, R.out _ ho ha⟩
end Go.Proofs.Ytkhnalboodkddaa
