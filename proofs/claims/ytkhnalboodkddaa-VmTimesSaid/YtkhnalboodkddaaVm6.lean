import Derived.Test.YtkhnalboodkddaaVm5
import Derived.Test.YtkhnalboodkddaaQTail
set_option linter.unusedSimpArgs false
set_option linter.unusedVariables false
set_option maxRecDepth 100000
namespace Go.Proofs.Ytkhnalboodkddaa
open Go.RowKit
theorem RAt.c5 {w : World} {B r : Nat} {b c : Nat → Nat} {s : Rs} {V : Value} (h : RAt w B r b c s V) : w.cell? ⟨r, 5, none⟩ = some (.int .i64 s.kind) := h.cell 5
theorem RAt.c6 {w : World} {B r : Nat} {b c : Nat → Nat} {s : Rs} {V : Value} (h : RAt w B r b c s V) : w.cell? ⟨r, 6, none⟩ = some (.int .i64 s.n) := h.cell 6
theorem RAt.c7 {w : World} {B r : Nat} {b c : Nat → Nat} {s : Rs} {V : Value} (h : RAt w B r b c s V) : w.cell? ⟨r, 7, none⟩ = some V := h.cell 7
theorem RAt.c8 {w : World} {B r : Nat} {b c : Nat → Nat} {s : Rs} {V : Value} (h : RAt w B r b c s V) : w.cell? ⟨r, 8, none⟩ = some (.int .i64 s.steps) := h.cell 8
theorem RAt.c12 {w : World} {B r : Nat} {b c : Nat → Nat} {s : Rs} {V : Value} (h : RAt w B r b c s V) : w.cell? ⟨r, 12, none⟩ = some (.int .i64 s.passed) := h.cell 12
def risesB (s : Rs) (area at_ : Int) : Bool := isB s && decide (getS s area at_ 1 = 0)
theorem rises_any (B r : Nat) (b c : Nat → Nat) (s : Rs) (V : Value) (area at_ : Int) (w : World) (h : RAt w B r b c s V) (h1 : 1 ≤ area) (h4 : area ≤ 4) :
    Calls Try.prog 77 #[.pointer (some ⟨r, 0, none⟩), .int .i64 area, .int .i64 at_] w fun e w' => e = .returned (.bool (risesB s area at_)) ∧ Only [b area.toNat] w w' ∧ RAt w' B r b c (putS s area at_ 1 s.n) V := by
  have H := hid h
  have G := hid (rget_any B r b c s V area at_ 1 w h h1 h4)
  have P := hid fun W (hb : Below w.heap.size w W) => rput_any B r b c s V area at_ 1 s.n W (h.below hb) h1 h4
  have I := hid fun W => value_is s.kind s.n W
  obtain ⟨u, hu⟩ : ∃ u, u = risesB s area at_ := ⟨_, rfl⟩
  have HU := hid hu
  rw [← hu]
  clear hu
  obtain ⟨g, hg⟩ : ∃ g, g = getS s area at_ 1 := ⟨_, rfl⟩
  rw [← hg] at G
  have HG := hid hg
  clear hg
  have c6 := h.c6
  clear h
  go_enter Try.func77, Try.ntmps77
  go_wp2_with (first
    | (go_at_call 108; refine G.out.mono ?_; rintro e w1 ⟨rfl, hb1⟩; have d6 := (H.out.below hb1).c6; replace hb1 := hid hb1)
    | (go_at_call 71; refine (P.out _ hb1.out).mono ?_; rintro e w2 ⟨rfl, ho, hR⟩; have e5 : w2.cell? ⟨r, 5, none⟩ = some (.int .i64 s.kind) := hR.c5; have e6 : w2.cell? ⟨r, 6, none⟩ = some (.int .i64 s.n) := hR.c6; replace ho := hid ho; replace hR := hid hR)
    | (go_at_call 69; refine (I.out _).mono ?_; rintro e w3 ⟨rfl, hb3⟩; replace hb3 := hid hb3))
  all_goals
    go_ret
    refine ⟨ret_bool ?_, (((Only.of_below (bs := [b area.toNat]) hb1.out).then_ ho.out).thenB hb3.out), hR.out.below hb3.out⟩
    rw [HU.out, risesB, isB, ← HG.out, Bool.eq_iff_iff]
    simp
    first | done | omega
theorem wrapK7 (v : Int) : 0 ≤ wrapK 7 v ∧ wrapK 7 v < 4294967296 := by
  have e : wrapK 7 v = v % 4294967296 := rfl
  rw [e]
  omega
theorem getS7 (s : Rs) (area at_ : Int) : 0 ≤ getS s area at_ 7 ∧ getS s area at_ 7 < 4294967296 := by
  unfold getS getV
  split
  · exact wrapK7 _
  · omega
def timerN (s : Rs) (i : Ins) : Int := if isB s = true then min (getS s i.area i.at_ 7 + s.passed) i.n else 0
def timerS (s : Rs) (i : Ins) : Rs := { putS s i.area i.at_ 7 (timerN s i) with kind := 1, n := truthN (isB s && decide (timerN s i = i.n)) }
def BoxAt (X : World) (p : Nat) (i : Ins) : Prop :=
  X.cell? ⟨p, 0, none⟩ = some (.int .i64 i.op) ∧ X.cell? ⟨p, 1, none⟩ = some (.int .i64 i.kind) ∧ X.cell? ⟨p, 2, none⟩ = some (.int .i64 i.area) ∧ X.cell? ⟨p, 3, none⟩ = some (.int .i64 i.at_) ∧ X.cell? ⟨p, 4, none⟩ = some (.int .i64 i.n) ∧ p < X.heap.size
theorem BoxAt.only {X Y : World} {p : Nat} {i : Ins} {bs : List Nat} (h : BoxAt X p i) (ho : Only bs X Y) (hn : p ∉ bs) : BoxAt Y p i := by
  obtain ⟨h0, h1, h2, h3, h4, h5⟩ := h
  exact ⟨(ho.cell h5 hn 0).trans h0, (ho.cell h5 hn 1).trans h1, (ho.cell h5 hn 2).trans h2, (ho.cell h5 hn 3).trans h3, (ho.cell h5 hn 4).trans h4, Nat.lt_of_lt_of_le h5 ho.size⟩
theorem BoxAt.below {X Y : World} {p : Nat} {i : Ins} (h : BoxAt X p i) (hb : Below X.heap.size X Y) : BoxAt Y p i := h.only (Only.of_below (bs := []) hb) (by simp)
theorem BoxAt.new (w : World) (op kd ar at_ nn : Int) : BoxAt (w.alloc (.cells #[.int .i64 op, .int .i64 kd, .int .i64 ar, .int .i64 at_, .int .i64 nn] 46)) w.heap.size ⟨op, kd, ar, at_, nn⟩ :=
  ⟨by simp [go_sem], by simp [go_sem], by simp [go_sem], by simp [go_sem], by simp [go_sem], by simp⟩
/-- What a walk reads of a run. -/
def RFacts (X : World) (r : Nat) (k n p : Int) : Prop :=
  X.cell? ⟨r, 5, none⟩ = some (.int .i64 k) ∧ X.cell? ⟨r, 6, none⟩ = some (.int .i64 n) ∧ X.cell? ⟨r, 12, none⟩ = some (.int .i64 p) ∧ X.frozen? ⟨r, 5, none⟩ = false ∧ X.frozen? ⟨r, 6, none⟩ = false ∧ r < X.heap.size
theorem RAt.facts {w : World} {B r : Nat} {b c : Nat → Nat} {s : Rs} {V : Value} (h : RAt w B r b c s V) : RFacts w r s.kind s.n s.passed := ⟨h.c5, h.c6, h.c12, h.free 5, h.free 6, h.lt⟩
theorem Only.mono {bs cs : List Nat} {w w' : World} (h : Only bs w w') (hs : ∀ x, x ∈ bs → x ∈ cs) : Only cs w w' := ⟨h.os, h.tape, h.output, h.size, fun k hk hn => h.block k hk (fun hm => hn (hs k hm))⟩
theorem Below.alloc1 (w : World) (o : Obj) : Below w.heap.size w (w.alloc o) := (Below.refl _ _).alloc (Nat.le_refl _) o
theorem RAt.setRes {w : World} {B r : Nat} {b c : Nat → Nat} {s : Rs} {V : Value} (h : RAt w B r b c s V) (k n : Int) : RAt ((w.setCell ⟨r, 5, none⟩ (.int .i64 k)).setCell ⟨r, 6, none⟩ (.int .i64 n)) B r b c { s with kind := k, n := n } V :=
  h.set (((Only.refl [r] w).setCell (by simp) _).setCell (by simp) _) (heap_setCell_same (heap_setCell_same h.blk 5 _) 6 _) rfl rfl
theorem RAt.bsize {w : World} {B r : Nat} {b c : Nat → Nat} {s : Rs} {V : Value} (h : RAt w B r b c s V) {a : Nat} (h1 : 1 ≤ a) (h4 : a ≤ 4) : b a < w.heap.size := (h.area a h1 h4).lt
theorem timer_no (B r : Nat) (b c : Nat → Nat) (s : Rs) (V : Value) (op kd ar at_ nn : Int) (w : World) (h : RAt w B r b c s V) (h1 : 1 ≤ ar) (h4 : ar ≤ 4) (p0 : 0 ≤ s.passed) (p1 : s.passed ≤ 10000) (n0 : -9223372036854775808 ≤ nn) (n1 : nn ≤ 9223372036854775807) (hn : s.n ≠ 1) :
    Calls Try.prog 74 #[.pointer (some ⟨r, 0, none⟩), .agg #[.int .i64 op, .int .i64 kd, .int .i64 ar, .int .i64 at_, .int .i64 nn]] w fun e w' => e = .returned (.tuple #[]) ∧ Only [r, b ar.toNat] w w' ∧ RAt w' B r b c (timerS s ⟨op, kd, ar, at_, nn⟩) V := by
  have eS : timerS s ⟨op, kd, ar, at_, nn⟩ = { putS s ar at_ 7 0 with kind := 1, n := truthN false } := by simp [timerS, timerN, isB, hn]
  rw [eS]
  have hbs := h.bsize (a := ar.toNat) (by omega) (by omega)
  have P := hid fun W (hR : RAt W B r b c s V) => rput_any B r b c s V ar at_ 7 0 W hR h1 h4
  have I := hid fun W => value_is s.kind s.n W
  rw [(show decide (s.n = 1) = false by simp [hn])] at I
  have T := hid fun W => truth_any false W
  have hrw := h.lt
  have hA := Below.alloc1 w (.cells #[.int .i64 op, .int .i64 kd, .int .i64 ar, .int .i64 at_, .int .i64 nn] 46)
  have HO := hid (Only.of_below (bs := [r, b ar.toNat]) hA)
  have HR := hid (h.below hA)
  have HY := hid (BoxAt.new w op kd ar at_ nn)
  obtain ⟨c5, c6, c12, f5, f6, hr⟩ := (h.facts : RFacts _ r s.kind s.n s.passed)
  clear h eS hA
  go_enter Try.func74, Try.ntmps74
  go_wp2_with (first
    | (go_at_call 69; refine (I.out _).mono ?_; rintro e w1 ⟨rfl, hb⟩; (replace HO := hid (HO.out.thenB hb); replace HY := hid (HY.out.below hb); replace HR := hid (HR.out.below hb); obtain ⟨c5, c6, c12, f5, f6, hr⟩ := (HR.out.facts : RFacts _ r s.kind s.n s.passed); obtain ⟨y0, y1, y2, y3, y4, ysz⟩ := HY.out; clear hb))
    | (go_at_call 71; refine (P.out _ HR.out).mono ?_; rintro e w2 ⟨rfl, ho, hR⟩; (replace HO := hid (HO.out.then_ (ho.mono (by simp))); replace HY := hid (HY.out.only ho (by simp; omega)); replace HR := hid hR; obtain ⟨c5, c6, c12, f5, f6, hr⟩ := (HR.out.facts : RFacts _ r s.kind s.n s.passed); obtain ⟨y0, y1, y2, y3, y4, ysz⟩ := HY.out; clear ho hR))
    | (go_at_call 76; refine (T.out _).mono ?_; rintro e w4 ⟨rfl, hb⟩; (replace HO := hid (HO.out.thenB hb); replace HY := hid (HY.out.below hb); replace HR := hid (HR.out.below hb); obtain ⟨c5, c6, c12, f5, f6, hr⟩ := (HR.out.facts : RFacts _ r s.kind s.n s.passed); obtain ⟨y0, y1, y2, y3, y4, ysz⟩ := HY.out; clear hb)))
  exact bodyPost_end (v := .tuple #[]) (by simp [results, Try.results74, go_sem]) rfl ⟨rfl, (HO.out.setCell (by simp) _).setCell (by simp) _, HR.out.setRes 1 (truthN false)⟩
theorem timer_yes (B r : Nat) (b c : Nat → Nat) (s : Rs) (V : Value) (op kd ar at_ nn : Int) (w : World) (h : RAt w B r b c s V) (h1 : 1 ≤ ar) (h4 : ar ≤ 4) (p0 : 0 ≤ s.passed) (p1 : s.passed ≤ 10000) (n0 : -9223372036854775808 ≤ nn) (n1 : nn ≤ 9223372036854775807) (hn : s.n = 1) :
    Calls Try.prog 74 #[.pointer (some ⟨r, 0, none⟩), .agg #[.int .i64 op, .int .i64 kd, .int .i64 ar, .int .i64 at_, .int .i64 nn]] w fun e w' => e = .returned (.tuple #[]) ∧ Only [r, b ar.toNat] w w' ∧ RAt w' B r b c (timerS s ⟨op, kd, ar, at_, nn⟩) V := by
  have g7 := getS7 s ar at_
  have G := hid fun W (hR : RAt W B r b c s V) => rget_any B r b c s V ar at_ 7 W hR h1 h4
  obtain ⟨N, hN⟩ : ∃ N, N = min (getS s ar at_ 7 + s.passed) nn := ⟨_, rfl⟩
  obtain ⟨T0, hT⟩ : ∃ T0, T0 = decide (N = nn) := ⟨_, rfl⟩
  have eS : timerS s ⟨op, kd, ar, at_, nn⟩ = { putS s ar at_ 7 N with kind := 1, n := truthN T0 } := by rw [hT, hN]; simp [timerS, timerN, isB, hn]
  rw [eS]
  have hbs := h.bsize (a := ar.toNat) (by omega) (by omega)
  have P := hid fun W (hR : RAt W B r b c s V) => rput_any B r b c s V ar at_ 7 N W hR h1 h4
  have I := hid fun W => value_is s.kind s.n W
  rw [(show decide (s.n = 1) = true by simp [hn])] at I
  have T := hid fun W x => truth_any x W
  have hrw := h.lt
  have hA := Below.alloc1 w (.cells #[.int .i64 op, .int .i64 kd, .int .i64 ar, .int .i64 at_, .int .i64 nn] 46)
  have HO := hid (Only.of_below (bs := [r, b ar.toNat]) hA)
  have HR := hid (h.below hA)
  have HY := hid (BoxAt.new w op kd ar at_ nn)
  obtain ⟨c5, c6, c12, f5, f6, hr⟩ := (h.facts : RFacts _ r s.kind s.n s.passed)
  clear h eS hA hn
  obtain ⟨g, hg⟩ : ∃ g, g = getS s ar at_ 7 := ⟨_, rfl⟩
  rw [← hg] at G g7 hN
  have ew : IntKind.i64.wrap (g + s.passed) = g + s.passed := by simp only [IntKind.wrap, IntKind.bits, IntKind.signed]; simp; omega
  have HN := hid hN
  have HT := hid hT
  clear hN hT hg
  go_enter Try.func74, Try.ntmps74
  go_wp2_with (first
    | (go_at_call 69; refine (I.out _).mono ?_; rintro e w1 ⟨rfl, hb⟩; (replace HO := hid (HO.out.thenB hb); replace HY := hid (HY.out.below hb); replace HR := hid (HR.out.below hb); obtain ⟨c5, c6, c12, f5, f6, hr⟩ := (HR.out.facts : RFacts _ r s.kind s.n s.passed); obtain ⟨y0, y1, y2, y3, y4, ysz⟩ := HY.out; clear hb))
    | (go_at_call 71; refine (P.out _ HR.out).mono ?_; rintro e w2 ⟨rfl, ho, hR⟩; (replace HO := hid (HO.out.then_ (ho.mono (by simp))); replace HY := hid (HY.out.only ho (by simp; omega)); replace HR := hid hR; obtain ⟨c5, c6, c12, f5, f6, hr⟩ := (HR.out.facts : RFacts _ r s.kind s.n s.passed); obtain ⟨y0, y1, y2, y3, y4, ysz⟩ := HY.out; clear ho hR))
    | (go_at_call 76; refine (T.out _).mono ?_; rintro e w4 ⟨rfl, hb⟩; (replace HO := hid (HO.out.thenB hb); replace HY := hid (HY.out.below hb); replace HR := hid (HR.out.below hb); obtain ⟨c5, c6, c12, f5, f6, hr⟩ := (HR.out.facts : RFacts _ r s.kind s.n s.passed); obtain ⟨y0, y1, y2, y3, y4, ysz⟩ := HY.out; clear hb)))
  (refine quiet_all (fun X => Below (w1).heap.size (w1) X) (by kernel_rfl) (by kernel_rfl) (Below.refl _ _).drew ?_; (repeat (first | go_big_quiet_skip | (go_big_quiet_want; first | (go_big_quiet_op; go_big_quiet_on) | (apply Exists.intro; refine ⟨fun X hX => ?_, ?_⟩; · (have hbq := (bcell hX).1; (try simp only [World.size_alloc, World.size_setCell, World.size_drew] at hbq); unfold Oper.quietAt; go_simp; first | done | rfl | exact ⟨rfl, rfl⟩ | (go_at_call 108; refine (G.out _ (HR.out.below hX)).mono ?_; rintro e w' ⟨rfl, hb'⟩; exact ⟨rfl, hX.trans (hb'.mono hX.size)⟩))); go_big_quiet_on; simp only [Act.put, List.setIfInBounds_toArray, List.set_cons_zero, List.set_cons_succ]))); refine wpQuiet_nil ?_; intro X hX)
  have hb : Below w1.heap.size w1 X := hX
  (replace HO := hid (HO.out.thenB hb); replace HY := hid (HY.out.below hb); replace HR := hid (HR.out.below hb); obtain ⟨c5, c6, c12, f5, f6, hr⟩ := (HR.out.facts : RFacts _ r s.kind s.n s.passed); obtain ⟨y0, y1, y2, y3, y4, ysz⟩ := HY.out; clear hb)
  rw [← HN.out]
  clear hX
  go_wp2_with (first
    | (go_at_call 69; refine (I.out _).mono ?_; rintro e w1 ⟨rfl, hb⟩; (replace HO := hid (HO.out.thenB hb); replace HY := hid (HY.out.below hb); replace HR := hid (HR.out.below hb); obtain ⟨c5, c6, c12, f5, f6, hr⟩ := (HR.out.facts : RFacts _ r s.kind s.n s.passed); obtain ⟨y0, y1, y2, y3, y4, ysz⟩ := HY.out; clear hb))
    | (go_at_call 71; refine (P.out _ HR.out).mono ?_; rintro e w2 ⟨rfl, ho, hR⟩; (replace HO := hid (HO.out.then_ (ho.mono (by simp))); replace HY := hid (HY.out.only ho (by simp; omega)); replace HR := hid hR; obtain ⟨c5, c6, c12, f5, f6, hr⟩ := (HR.out.facts : RFacts _ r s.kind s.n s.passed); obtain ⟨y0, y1, y2, y3, y4, ysz⟩ := HY.out; clear ho hR))
    | (go_at_call 76; refine (T.out _ _).mono ?_; rintro e w4 ⟨rfl, hb⟩; (replace HO := hid (HO.out.thenB hb); replace HY := hid (HY.out.below hb); replace HR := hid (HR.out.below hb); obtain ⟨c5, c6, c12, f5, f6, hr⟩ := (HR.out.facts : RFacts _ r s.kind s.n s.passed); obtain ⟨y0, y1, y2, y3, y4, ysz⟩ := HY.out; clear hb)))
  have hfin := HR.out.setRes 1 (truthN (N == nn))
  have eT : (N == nn) = T0 := by rw [HT.out]; rfl
  rw [eT] at hfin ⊢
  exact bodyPost_end (v := .tuple #[]) (by simp [results, Try.results74, go_sem]) rfl ⟨rfl, (HO.out.setCell (by simp) _).setCell (by simp) _, hfin⟩
theorem timer_any (B r : Nat) (b c : Nat → Nat) (s : Rs) (V : Value) (i : Ins) (w : World) (h : RAt w B r b c s V) (h1 : 1 ≤ i.area) (h4 : i.area ≤ 4) (p0 : 0 ≤ s.passed) (p1 : s.passed ≤ 10000) (n0 : -9223372036854775808 ≤ i.n) (n1 : i.n ≤ 9223372036854775807) :
    Calls Try.prog 74 #[.pointer (some ⟨r, 0, none⟩), i.val] w fun e w' => e = .returned (.tuple #[]) ∧ Only [r, b i.area.toNat] w w' ∧ RAt w' B r b c (timerS s i) V := by
  obtain ⟨op, kd, ar, at_, nn⟩ := i
  by_cases hn : s.n = 1
  · exact timer_yes B r b c s V op kd ar at_ nn w h h1 h4 p0 p1 n0 n1 hn
  · exact timer_no B r b c s V op kd ar at_ nn w h h1 h4 p0 p1 n0 n1 hn
end Go.Proofs.Ytkhnalboodkddaa
