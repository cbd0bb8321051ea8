import Derived.Test.YtkhnalboodkddaaIec0
set_option linter.unusedSimpArgs false
set_option linter.unusedVariables false
namespace Go.Proofs.Ytkhnalboodkddaa
open Go.RowKit

theorem of_any (k : Int) (w : World) :
    Calls Try.prog 110 #[.int .i64 k] w fun e w' => e = .returned (.tuple #[(.agg #[.string (kname k), .int .i64 (ksize k), .bool (ksigned k), .bool (kbits k)]), .bool (isKind k)]) ∧ Below w.heap.size w w' := by
  by_cases h1 : 1 ≤ k
  · by_cases h2 : k ≤ 7
    · have n1 : ¬ k < 1 := by omega
      have n2 : ¬ 7 < k := by omega
      have hk : isKind k = true := by simp [isKind, h1, h2]
      go_enter Try.func110, Try.ntmps110
      go_wp2_with fail
      refine (kinds_b _).mono ?_
      rintro e w1 ⟨rfl, hb, hs, hc⟩
      obtain ⟨c0, c1, c2, c3⟩ := hc k h1 h2
      obtain ⟨hbc, hbf⟩ := bcell hb
      simp only [World.size_alloc] at hs c0 c1 c2 c3 hbc hbf
      have hsz : w.heap.size < w1.heap.size := by omega
      have HB := hid hb
      clear hc hb hs
      go_wp2
      exact bodyPost_ret (v := .tuple #[(.agg #[.string (kname k), .int .i64 (ksize k), .bool (ksigned k), .bool (kbits k)]), .bool (isKind k)]) (by simp [results, Try.results110, go_sem, hbc, hbf, hsz, hk]) rfl ⟨rfl, (((((((Below.refl _ _).alloc (Nat.le_refl _) _).trans (HB.out.mono (by simp))).setCell (by simp) _).setCell (by simp) _).setCell (by simp) _).setCell (by simp) _)⟩
    · have n1 : ¬ k < 1 := by omega
      have n2 : 7 < k := by omega
      have hk : isKind k = false := by simp [isKind]; omega
      have HK := hid hk
      clear hk
      have hv : (Value.agg #[.string (kname k), .int .i64 (ksize k), .bool (ksigned k), .bool (kbits k)]) = .agg #[.string ⟨#[]⟩, .int .i64 0, .bool false, .bool false] := by
        unfold kname ksize ksigned kbits
        repeat rw [if_neg (by omega)]
        rw [decide_eq_false (by omega), decide_eq_false (by omega)]
      have HV := hid hv
      clear hv
      go_enter Try.func110, Try.ntmps110
      go_wp2
      exact bodyPost_ret (v := .tuple #[(.agg #[.string (kname k), .int .i64 (ksize k), .bool (ksigned k), .bool (kbits k)]), .bool (isKind k)]) (by rw [HV.out, HK.out]; simp [results, Try.results110, go_sem]) rfl ⟨rfl, (Below.refl _ _).alloc (Nat.le_refl _) _⟩
  · have n1 : k < 1 := by omega
    have hk : isKind k = false := by simp [isKind]; omega
    have HK := hid hk
    clear hk
    have hv : (Value.agg #[.string (kname k), .int .i64 (ksize k), .bool (ksigned k), .bool (kbits k)]) = .agg #[.string ⟨#[]⟩, .int .i64 0, .bool false, .bool false] := by
      unfold kname ksize ksigned kbits
      repeat rw [if_neg (by omega)]
      rw [decide_eq_false (by omega), decide_eq_false (by omega)]
    have HV := hid hv
    clear hv
    go_enter Try.func110, Try.ntmps110
    go_wp2
    exact bodyPost_ret (v := .tuple #[(.agg #[.string (kname k), .int .i64 (ksize k), .bool (ksigned k), .bool (kbits k)]), .bool (isKind k)]) (by rw [HV.out, HK.out]; simp [results, Try.results110, go_sem]) rfl ⟨rfl, (Below.refl _ _).alloc (Nat.le_refl _) _⟩
end Go.Proofs.Ytkhnalboodkddaa
