import Derived.Test.YtkhnalboodkddaaVm6
set_option linter.unusedSimpArgs false
set_option linter.unusedVariables false
set_option maxRecDepth 100000
namespace Go.Proofs.Ytkhnalboodkddaa
open Go.RowKit
def counterN (s : Rs) (i : Ins) : Int := if risesB s i.area (i.at_ + 4) = true then min (getS s i.area i.at_ 7 + 1) i.n else getS s i.area i.at_ 7
def counterS (s : Rs) (i : Ins) : Rs :=
  { (if risesB s i.area (i.at_ + 4) = true then putS (putS s i.area (i.at_ + 4) 1 s.n) i.area i.at_ 7 (counterN s i) else putS s i.area (i.at_ + 4) 1 s.n) with kind := 1, n := truthN (decide (i.n ≤ counterN s i)) }
theorem counter_yes (B r : Nat) (b c : Nat → Nat) (s : Rs) (V : Value) (op kd ar at_ nn : Int) (w : World) (h : RAt w B r b c s V) (h1 : 1 ≤ ar) (h4 : ar ≤ 4) (a0 : 0 ≤ at_) (a1 : at_ ≤ 1000) (n0 : -9223372036854775808 ≤ nn) (n1 : nn ≤ 9223372036854775807) (hn : risesB s ar (at_ + 4) = true) :
    Calls Try.prog 75 #[.pointer (some ⟨r, 0, none⟩), .agg #[.int .i64 op, .int .i64 kd, .int .i64 ar, .int .i64 at_, .int .i64 nn]] w fun e w' => e = .returned (.tuple #[]) ∧ Only [r, b ar.toNat] w w' ∧ RAt w' B r b c (counterS s ⟨op, kd, ar, at_, nn⟩) V := by
  have g7 := getS7 s ar at_
  have G := hid fun W (hR : RAt W B r b c s V) => rget_any B r b c s V ar at_ 7 W hR h1 h4
  obtain ⟨N, hN⟩ : ∃ N, N = min (getS s ar at_ 7 + 1) nn := ⟨_, rfl⟩
  have eS : counterS s ⟨op, kd, ar, at_, nn⟩ = { putS (putS s ar (at_ + 4) 1 s.n) ar at_ 7 N with kind := 1, n := truthN (decide (nn ≤ N)) } := by rw [hN]; simp [counterS, counterN, hn]
  rw [eS]
  have hbs := h.bsize (a := ar.toNat) (by omega) (by omega)
  have R := hid fun W (hR : RAt W B r b c s V) => rises_any B r b c s V ar (at_ + 4) W hR h1 h4
  rw [hn] at R
  have P := hid fun W (hR : RAt W B r b c (putS s ar (at_ + 4) 1 s.n) V) => rput_any B r b c (putS s ar (at_ + 4) 1 s.n) V ar at_ 7 N W hR h1 h4
  have T := hid fun W x => truth_any x W
  have hrw := h.lt
  have hA := Below.alloc1 w (.cells #[.int .i64 op, .int .i64 kd, .int .i64 ar, .int .i64 at_, .int .i64 nn] 46)
  have HO := hid (Only.of_below (bs := [r, b ar.toNat]) hA)
  have HR := hid (h.below hA)
  have HY := hid (BoxAt.new w op kd ar at_ nn)
  obtain ⟨c5, c6, c12, f5, f6, hr⟩ := (h.facts : RFacts _ r s.kind s.n s.passed)
  clear h eS hA hn
  obtain ⟨g, hg⟩ : ∃ g, g = getS s ar at_ 7 := ⟨_, rfl⟩
  rw [← hg] at G g7 hN
  have HN := hid hN
  clear hN hg
  go_enter Try.func75, Try.ntmps75
  go_wp2_with (first
    | (go_at_call 108; refine (G.out _ HR.out).mono ?_; rintro e w1 ⟨rfl, hb⟩; (replace HO := hid (HO.out.thenB hb); replace HY := hid (HY.out.below hb); replace HR := hid (HR.out.below hb); obtain ⟨c5, c6, c12, f5, f6, hr⟩ := (HR.out.facts : RFacts _ r s.kind s.n s.passed); obtain ⟨y0, y1, y2, y3, y4, ysz⟩ := HY.out; clear hb))
    | (go_at_call 77; refine (R.out _ HR.out).mono ?_; rintro e w2 ⟨rfl, ho, hR⟩; (replace HO := hid (HO.out.then_ (ho.mono (by simp))); replace HY := hid (HY.out.only ho (by simp; omega)); replace HR := hid hR; obtain ⟨c5, c6, c12, f5, f6, hr⟩ := (HR.out.facts : RFacts _ r s.kind s.n s.passed); obtain ⟨y0, y1, y2, y3, y4, ysz⟩ := HY.out; clear ho hR))
    | (go_at_call 71; rw [← HN.out]; refine (P.out _ HR.out).mono ?_; rintro e w3 ⟨rfl, ho, hR⟩; (replace HO := hid (HO.out.then_ (ho.mono (by simp))); replace HY := hid (HY.out.only ho (by simp; omega)); replace HR := hid hR; obtain ⟨c5, c6, c12, f5, f6, hr⟩ := (HR.out.facts : RFacts _ r s.kind s.n s.passed); obtain ⟨y0, y1, y2, y3, y4, ysz⟩ := HY.out; clear ho hR))
    | (go_at_call 76; refine (T.out _ _).mono ?_; rintro e w4 ⟨rfl, hb⟩; (replace HO := hid (HO.out.thenB hb); replace HY := hid (HY.out.below hb); replace HR := hid (HR.out.below hb); obtain ⟨c5, c6, c12, f5, f6, hr⟩ := (HR.out.facts : RFacts _ r s.kind s.n s.passed); obtain ⟨y0, y1, y2, y3, y4, ysz⟩ := HY.out; clear hb)))
  have hfin := HR.out.setRes 1 (truthN (decide (nn ≤ N)))
  
  exact bodyPost_end (v := .tuple #[]) (by simp [results, Try.results75, go_sem]) rfl ⟨rfl, (HO.out.setCell (by simp) _).setCell (by simp) _, hfin⟩
theorem counter_no (B r : Nat) (b c : Nat → Nat) (s : Rs) (V : Value) (op kd ar at_ nn : Int) (w : World) (h : RAt w B r b c s V) (h1 : 1 ≤ ar) (h4 : ar ≤ 4) (a0 : 0 ≤ at_) (a1 : at_ ≤ 1000) (n0 : -9223372036854775808 ≤ nn) (n1 : nn ≤ 9223372036854775807) (hn : risesB s ar (at_ + 4) = false) :
    Calls Try.prog 75 #[.pointer (some ⟨r, 0, none⟩), .agg #[.int .i64 op, .int .i64 kd, .int .i64 ar, .int .i64 at_, .int .i64 nn]] w fun e w' => e = .returned (.tuple #[]) ∧ Only [r, b ar.toNat] w w' ∧ RAt w' B r b c (counterS s ⟨op, kd, ar, at_, nn⟩) V := by
  have g7 := getS7 s ar at_
  have G := hid fun W (hR : RAt W B r b c s V) => rget_any B r b c s V ar at_ 7 W hR h1 h4
  obtain ⟨N, hN⟩ : ∃ N, N = getS s ar at_ 7 := ⟨_, rfl⟩
  have eS : counterS s ⟨op, kd, ar, at_, nn⟩ = { putS s ar (at_ + 4) 1 s.n with kind := 1, n := truthN (decide (nn ≤ N)) } := by rw [hN]; simp [counterS, counterN, hn]
  rw [eS]
  have hbs := h.bsize (a := ar.toNat) (by omega) (by omega)
  have R := hid fun W (hR : RAt W B r b c s V) => rises_any B r b c s V ar (at_ + 4) W hR h1 h4
  rw [hn] at R
  have P := hid fun W (hR : RAt W B r b c (putS s ar (at_ + 4) 1 s.n) V) => rput_any B r b c (putS s ar (at_ + 4) 1 s.n) V ar at_ 7 N W hR h1 h4
  have T := hid fun W x => truth_any x W
  have hrw := h.lt
  have hA := Below.alloc1 w (.cells #[.int .i64 op, .int .i64 kd, .int .i64 ar, .int .i64 at_, .int .i64 nn] 46)
  have HO := hid (Only.of_below (bs := [r, b ar.toNat]) hA)
  have HR := hid (h.below hA)
  have HY := hid (BoxAt.new w op kd ar at_ nn)
  obtain ⟨c5, c6, c12, f5, f6, hr⟩ := (h.facts : RFacts _ r s.kind s.n s.passed)
  clear h eS hA hn
  obtain ⟨g, hg⟩ : ∃ g, g = getS s ar at_ 7 := ⟨_, rfl⟩
  rw [← hg] at G g7 hN
  have HN := hid hN
  clear hN hg
  go_enter Try.func75, Try.ntmps75
  go_wp2_with (first
    | (go_at_call 108; refine (G.out _ HR.out).mono ?_; rintro e w1 ⟨rfl, hb⟩; (replace HO := hid (HO.out.thenB hb); replace HY := hid (HY.out.below hb); replace HR := hid (HR.out.below hb); obtain ⟨c5, c6, c12, f5, f6, hr⟩ := (HR.out.facts : RFacts _ r s.kind s.n s.passed); obtain ⟨y0, y1, y2, y3, y4, ysz⟩ := HY.out; clear hb))
    | (go_at_call 77; refine (R.out _ HR.out).mono ?_; rintro e w2 ⟨rfl, ho, hR⟩; (replace HO := hid (HO.out.then_ (ho.mono (by simp))); replace HY := hid (HY.out.only ho (by simp; omega)); replace HR := hid hR; obtain ⟨c5, c6, c12, f5, f6, hr⟩ := (HR.out.facts : RFacts _ r s.kind s.n s.passed); obtain ⟨y0, y1, y2, y3, y4, ysz⟩ := HY.out; clear ho hR))
    | (go_at_call 71; rw [← HN.out]; refine (P.out _ HR.out).mono ?_; rintro e w3 ⟨rfl, ho, hR⟩; (replace HO := hid (HO.out.then_ (ho.mono (by simp))); replace HY := hid (HY.out.only ho (by simp; omega)); replace HR := hid hR; obtain ⟨c5, c6, c12, f5, f6, hr⟩ := (HR.out.facts : RFacts _ r s.kind s.n s.passed); obtain ⟨y0, y1, y2, y3, y4, ysz⟩ := HY.out; clear ho hR))
    | (go_at_call 76; refine (T.out _ _).mono ?_; rintro e w4 ⟨rfl, hb⟩; (replace HO := hid (HO.out.thenB hb); replace HY := hid (HY.out.below hb); replace HR := hid (HR.out.below hb); obtain ⟨c5, c6, c12, f5, f6, hr⟩ := (HR.out.facts : RFacts _ r s.kind s.n s.passed); obtain ⟨y0, y1, y2, y3, y4, ysz⟩ := HY.out; clear hb)))
  have hfin := HR.out.setRes 1 (truthN (decide (nn ≤ g)))
  rw [← HN.out] at hfin ⊢
  exact bodyPost_end (v := .tuple #[]) (by simp [results, Try.results75, go_sem]) rfl ⟨rfl, (HO.out.setCell (by simp) _).setCell (by simp) _, hfin⟩
theorem counter_any (B r : Nat) (b c : Nat → Nat) (s : Rs) (V : Value) (i : Ins) (w : World) (h : RAt w B r b c s V) (h1 : 1 ≤ i.area) (h4 : i.area ≤ 4) (a0 : 0 ≤ i.at_) (a1 : i.at_ ≤ 1000) (n0 : -9223372036854775808 ≤ i.n) (n1 : i.n ≤ 9223372036854775807) :
    Calls Try.prog 75 #[.pointer (some ⟨r, 0, none⟩), i.val] w fun e w' => e = .returned (.tuple #[]) ∧ Only [r, b i.area.toNat] w w' ∧ RAt w' B r b c (counterS s i) V := by
  obtain ⟨op, kd, ar, at_, nn⟩ := i
  cases hn : risesB s ar (at_ + 4)
  · exact counter_no B r b c s V op kd ar at_ nn w h h1 h4 a0 a1 n0 n1 hn
  · exact counter_yes B r b c s V op kd ar at_ nn w h h1 h4 a0 a1 n0 n1 hn
end Go.Proofs.Ytkhnalboodkddaa
