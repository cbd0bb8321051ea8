import Derived.Test.YtkhnalboodkddaaVm1
set_option linter.unusedSimpArgs false
set_option linter.unusedVariables false
set_option maxRecDepth 100000
namespace Go.Proofs.Ytkhnalboodkddaa
open Go.RowKit
def blankV : Img := fitV ⟨⟨#[]⟩, ⟨#[]⟩, ⟨#[]⟩, ⟨#[]⟩⟩
theorem blank_any (w : World) : Calls Try.prog 16 #[] w fun e w' => e = .returned blankV.val ∧ Below w.heap.size w w' := by
  have K : ∀ W : World, Calls Try.prog 13 #[.agg #[.string ⟨#[]⟩, .string ⟨#[]⟩, .string ⟨#[]⟩, .string ⟨#[]⟩]] W fun e w' => e = .returned blankV.val ∧ Below W.heap.size W w' := fun W =>
    fit_any ⟨⟨#[]⟩, ⟨#[]⟩, ⟨#[]⟩, ⟨#[]⟩⟩ W ⟨by decide, by decide, by decide, by decide⟩
  generalize blankV = v at K ⊢
  obtain ⟨i, q, m, r⟩ := v
  simp only [Img.val] at K ⊢
  have K := hid K
  go_enter Try.func16, Try.ntmps16
  go_wp2_with (first | (go_at_call 13; refine (K.out _).mono ?_; rintro e w1 ⟨rfl, hb⟩; have hbc := (bcell hb).1; have hbf := (bcell hb).2; have hlt : w.heap.size < w1.heap.size := by (have hsz := hb.size; simp only [World.size_alloc] at hsz; omega)))
  exact bodyPost_ret (v := .agg #[.string i, .string q, .string m, .string r]) (by simp [results, Try.results16, go_sem, *]) rfl ⟨rfl, (by repeat (first | exact Below.refl _ _ | assumption | (with_reducible refine below_alloc' ?_ _) | (with_reducible refine below_drew' ?_) | (with_reducible refine below_drewN' ?_ _) | (with_reducible refine below_setCell' ?_ (by first | omega | (simp; omega) | (simp; done)) _) | (refine below_then' ?_ (by assumption))))⟩
/-- A program in memory, of that code. -/
def PAt (w : World) (q : Nat) (code : List Ins) : Prop :=
  ∃ A c, q < w.heap.size ∧ w.cell? ⟨q, 0, none⟩ = some (.slice A code.length c) ∧ code.length ≤ c ∧ c ≤ 9223372036854775807 ∧ InsAt w A code
theorem PAt.below {w w' : World} {q : Nat} {code : List Ins} (h : PAt w q code) (hb : Below w.heap.size w w') : PAt w' q code := by
  obtain ⟨A, c, h1, h2, h3, h4, h5⟩ := h
  exact ⟨A, c, Nat.lt_of_lt_of_le h1 hb.size, (hb.cell h1).trans h2, h3, h4, h5.below hb⟩
theorem checkE_long {code : List Ins} (h : (checkE code).1 = 0) : code.length ≤ 200 := by
  by_cases h2 : 200 < code.length
  · unfold checkE verifyV at h
    rw [if_pos h2] at h
    simp at h
  · omega
/-- What Load answers. -/
def LoadRet (w : World) (code : List Ins) (e : Ending) (w' : World) : Prop :=
  if (checkE code).1 = 0 then ∃ q, e = .returned (.tuple #[.pointer (some ⟨q, 0, none⟩), .int .i64 0, .int .i64 0]) ∧ PAt w' q code ∧ w.heap.size ≤ q ∧ Below w.heap.size w w'
  else e = .returned (.tuple #[.pointer none, .int .i64 (checkE code).1, .int .i64 ((checkE code).2 : Int)]) ∧ Below w.heap.size w w'
theorem load_any (A : Option Addr) (n c : Nat) (code : List Ins) (w : World) (hn : n = code.length) (hmax : n ≤ 9223372036854775807) (hc : InsAt w A code) :
    Calls Try.prog 10 #[.slice A n c] w (LoadRet w code) := by
  have K := hid (fun W (h : Below w.heap.size w W) => check_any A n c code W hn hmax (hc.below h))
  unfold LoadRet
  by_cases h0 : (checkE code).1 = 0
  · simp only [if_pos h0]
    have h200 := checkE_long h0
    have K2 := hid (fun W (h : Below w.heap.size w W) => clone_any A n c code W hn (by omega) (hc.below h))
    have HN := hid hn
    clear hn hmax hc h200
    go_enter Try.func10, Try.ntmps10
    go_wp2_with (first
      | (go_at_call 24; refine (K.out _ (by repeat (first | exact Below.refl _ _ | assumption | (with_reducible refine below_alloc' ?_ _) | (with_reducible refine below_drew' ?_) | (with_reducible refine below_drewN' ?_ _) | (with_reducible refine below_setCell' ?_ (by first | omega | (simp; omega) | (simp; done)) _) | (refine below_then' ?_ (by assumption))))).mono ?_; rintro e w1 ⟨rfl, hb⟩)
      | (go_at_call 25; refine (K2.out _ (by repeat (first | exact Below.refl _ _ | assumption | (with_reducible refine below_alloc' ?_ _) | (with_reducible refine below_drew' ?_) | (with_reducible refine below_drewN' ?_ _) | (with_reducible refine below_setCell' ?_ (by first | omega | (simp; omega) | (simp; done)) _) | (refine below_then' ?_ (by assumption))))).mono ?_; rintro e w2 ⟨A', c', rfl, _, h1, h2, h3, h4, hb2⟩))
    have hB2 : Below w.heap.size w w2 := (by repeat (first | exact Below.refl _ _ | assumption | (with_reducible refine below_alloc' ?_ _) | (with_reducible refine below_drew' ?_) | (with_reducible refine below_drewN' ?_ _) | (with_reducible refine below_setCell' ?_ (by first | omega | (simp; omega) | (simp; done)) _) | (refine below_then' ?_ (by assumption))))
    refine bodyPost_ret (v := .tuple #[.pointer (some ⟨w2.heap.size, 0, none⟩), .int .i64 0, .int .i64 0]) (by simp [results, Try.results10, go_sem]) rfl ⟨w2.heap.size, rfl, ?_, hB2.size, (by repeat (first | exact Below.refl _ _ | assumption | (with_reducible refine below_alloc' ?_ _) | (with_reducible refine below_drew' ?_) | (with_reducible refine below_drewN' ?_ _) | (with_reducible refine below_setCell' ?_ (by first | omega | (simp; omega) | (simp; done)) _) | (refine below_then' ?_ (by assumption))))⟩
    rw [HN.out] at h1 ⊢
    exact ⟨A', c', by simp, by simp [go_sem], h1, h2, h3.below (by repeat (first | exact Below.refl _ _ | assumption | (with_reducible refine below_alloc' ?_ _) | (with_reducible refine below_drew' ?_) | (with_reducible refine below_drewN' ?_ _) | (with_reducible refine below_setCell' ?_ (by first | omega | (simp; omega) | (simp; done)) _) | (refine below_then' ?_ (by assumption))))⟩
  · simp only [if_neg h0]
    have h0' : ((checkE code).1 == 0) = false := by simp [h0]
    generalize (checkE code).1 = x at *
    generalize ((checkE code).2 : Int) = y at *
    clear hn hmax hc
    go_enter Try.func10, Try.ntmps10
    go_wp2_with (first
      | (go_at_call 24; refine (K.out _ (by repeat (first | exact Below.refl _ _ | assumption | (with_reducible refine below_alloc' ?_ _) | (with_reducible refine below_drew' ?_) | (with_reducible refine below_drewN' ?_ _) | (with_reducible refine below_setCell' ?_ (by first | omega | (simp; omega) | (simp; done)) _) | (refine below_then' ?_ (by assumption))))).mono ?_; rintro e w1 ⟨rfl, hb⟩))
    exact bodyPost_ret (v := .tuple #[.pointer none, .int .i64 x, .int .i64 y]) (by simp [results, Try.results10, go_sem]) rfl ⟨rfl, (by repeat (first | exact Below.refl _ _ | assumption | (with_reducible refine below_alloc' ?_ _) | (with_reducible refine below_drew' ?_) | (with_reducible refine below_drewN' ?_ _) | (with_reducible refine below_setCell' ?_ (by first | omega | (simp; omega) | (simp; done)) _) | (refine below_then' ?_ (by assumption))))⟩
theorem code_nil (w : World) : Calls Try.prog 18 #[.pointer none] w fun e w' => e = .returned (.slice none 0 0) ∧ w' = w := by
  go_enter Try.func18, Try.ntmps18
  go_wp2
  go_ret
  exact ⟨rfl, rfl⟩
theorem code_any (q : Nat) (code : List Ins) (w : World) (h : PAt w q code) (h200 : code.length ≤ 1048576) :
    Calls Try.prog 18 #[.pointer (some ⟨q, 0, none⟩)] w fun e w' => ∃ A' c', e = .returned (.slice A' code.length c') ∧ code.length ≤ c' ∧ c' ≤ 9223372036854775807 ∧ InsAt w' A' code ∧ (∀ b, A' = some b → w.heap.size ≤ b.block ∧ b.block < w'.heap.size) ∧ Below w.heap.size w w' := by
  obtain ⟨A, c, h1, h2, h3, h4, h5⟩ := h
  have K2 := hid (clone_any A code.length c code w rfl h200 h5)
  generalize code.length = n at *
  clear h5 h3 h4 h200
  go_enter Try.func18, Try.ntmps18
  go_wp2_with (first
      | (go_at_call 25; refine K2.out.mono ?_; rintro e w2 ⟨A', c', rfl, _, h1, h2, h3, h4, hb2⟩))
  go_ret
  exact ⟨A', c', rfl, h1, h2, h3, h4, hb2⟩
end Go.Proofs.Ytkhnalboodkddaa
