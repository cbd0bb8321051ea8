import Derived.Test.YtkhnalboodkddaaVmT0
import Derived.Deep.CutBlock
set_option linter.unusedSimpArgs false
set_option linter.unusedVariables false
set_option maxRecDepth 100000
namespace Go.Proofs.Ytkhnalboodkddaa
open Go.RowKit
/-- Bytes that a slice reads. -/
def BytesAt (w : World) (A : Option Addr) (n : Nat) (f : Nat → Int) : Prop :=
  ∀ i, i < n → ∃ b o, A = some ⟨b, o, none⟩ ∧ b < w.heap.size ∧ w.cell? ⟨b, o + i, none⟩ = some (.int .u8 (f i)) ∧ 0 ≤ f i ∧ f i < 256
theorem BytesAt.below {w w' : World} {A : Option Addr} {n : Nat} {f : Nat → Int} (h : BytesAt w A n f) (hb : Below w.heap.size w w') : BytesAt w' A n f := by
  intro i hi
  obtain ⟨b, o, e, hlt, hc, h0, h1⟩ := h i hi
  exact ⟨b, o, e, Nat.lt_of_lt_of_le hlt hb.size, (hb.cell hlt).trans hc, h0, h1⟩
theorem img_fit_ok (x : Img) (h1 : x.I.size ≤ 64) (h2 : x.Q.size ≤ 64) (h3 : x.M.size ≤ 64) (h4 : x.R.size ≤ 64) : imgOk x := ⟨by omega, by omega, by omega, by omega⟩
/-- One round of VmTimes: u is what goes up and down. -/
theorem times_round {y : Img} {sum ups prev m : Int} (h : TInv y sum ups prev m) (I : ByteArray) (hI : I.size < 64) (d i0 up : Int) (h1 : 1 ≤ m) (h2 : m ≤ 500) (d0 : 0 ≤ d) (d1 : d ≤ 10000) (s0 : 0 ≤ sum) (u0 : 0 ≤ ups) (p01 : prev = 0 ∨ prev = 1)
    (hi : i0 = 0 ∨ i0 = 1) (hup : up = 0 ∨ up = 1) (g0 : (((listOf I ++ List.replicate (64 - I.size) 0).getD 0 0).toNat : Int) = i0) (g1 : (((listOf I ++ List.replicate (64 - I.size) 0).getD 1 0).toNat : Int) = up) (hpu : ¬ (prev = 1 ∧ up = 1)) :
    ∃ s, goS (timesCode m) 10 0 (startS (fitV ⟨I, y.Q, y.M, y.R⟩) (clampT d)) = some s ∧ (s.ar 2).length = 64 ∧ (s.ar 3).length = 64 ∧ (s.ar 4).length = 64 ∧
      beI ((s.ar 3).take 4) = (if i0 = 1 then min (sum + d) m else 0) ∧ (s.ar 3).take 4 = toBE 4 (if i0 = 1 then min (sum + d) m else 0) ∧ (((s.ar 3).getD 9 0).toNat : Int) = up ∧ beI ((s.ar 4).take 4) = min (ups + up) m ∧ (((s.ar 4).getD 4 0).toNat : Int) = up ∧
      (((s.ar 2).getD 0 0).toNat : Int) = truthN (decide (i0 = 1 ∧ m ≤ sum + d)) ∧ (((s.ar 2).getD 1 0).toNat : Int) = truthN (decide (m ≤ ups + up)) ∧ (((s.ar 2).getD 2 0).toNat : Int) = up := by
  have e : clampT d = d := by unfold clampT; omega
  rw [e]
  have lI : (listOf I ++ List.replicate (64 - I.size) 0).length = 64 := by simp [listOf_len]; omega
  refine times_bytes (listOf y.Q) (listOf y.M) (listOf y.R) (listOf I ++ List.replicate (64 - I.size) 0) m d sum ups prev i0 up (by rw [listOf_len, h.q]) (by rw [listOf_len, h.mm]) (by rw [listOf_len, h.r]) lI h.tm h.tp h.cm h.cp h1 h2 d0 d1 s0 u0 p01 hi hup g0 g1 hpu _ ?_ ?_ ?_ ?_
  · exact (areaV_short I hI)
  · show listOf (areaV y.Q) = _
    rw [areaV_full _ h.q]
  · show listOf (areaV y.M) = _
    rw [areaV_full _ h.mm]
  · show listOf (areaV y.R) = _
    rw [areaV_full _ h.r]
theorem TInv.blank (m : Int) (h : 1 ≤ m) : TInv blankV 0 0 0 m := by
  have z := areaV_size ⟨#[]⟩
  refine ⟨z, z, z, ?_, rfl, ?_, rfl⟩
  · rw [show min 0 m = 0 by omega]; rfl
  · rw [show min 0 m = 0 by omega]; rfl
theorem two_bytes (W : World) (up : Int) (u : UInt8) (hu : (u.toNat : Int) = up) : (convert 37 9 (.slice (some ⟨W.heap.size, 0, none⟩) 2 2)).run Try.prog (W.alloc (.cells #[.int .u8 1, .int .u8 up] 5)) = .ok (.string ⟨#[1, u]⟩) (W.alloc (.cells #[.int .u8 1, .int .u8 up] 5)) := by
  have hb : Lib.Bytes (W.alloc (.cells #[.int .u8 1, .int .u8 up] 5)) W.heap.size 0 ⟨#[1, u]⟩ := by
    intro i hi
    have hi' : i < 2 := hi
    rw [cell_of_heap (heap_new _ _)]
    match i, hi' with
    | 0, _ => rfl
    | 1, _ => rw [← hu]; rfl
  exact Lib.run_convert_whole _ 37 5 9 Try.underlying37 Try.underlying5 Try.underlying9 W.heap.size 0 _ hb 2
theorem ba_get (Q : ByteArray) (l : List UInt8) (hQ : Q = ⟨l.toArray⟩) (i : Nat) (h : i < Q.size) : ((Q[i]'h).toNat : Int) = ((l.getD i 0).toNat : Int) := by
  subst hQ
  have h' : i < l.length := h
  rw [List.getD_eq_getElem?_getD, List.getElem?_eq_getElem h']
  rfl
theorem truthN_eq1 (b : Bool) : (truthN b == 1) = b := by cases b <;> rfl
set_option maxHeartbeats 2000000 in
theorem times_law (A : Option Addr) (n cp : Nat) (f : Nat → Int) (v : Int) (w : World) (hb : BytesAt w A n f) (hn : n ≤ 40) (v0 : 0 ≤ v) (v1 : v ≤ 65535) :
    Calls Try.prog 4 #[.slice A n cp, .int .u16 v] w fun e w' => e = .returned (.bool true) ∧ Below w.heap.size w w' := by
  have A15 := hid fun W => awake15_any W
  obtain ⟨m, hm⟩ : ∃ m, m = 1 + v % 500 := ⟨_, rfl⟩
  have m1 : 1 ≤ m := by omega
  have m2 : m ≤ 500 := by omega
  have L := hid fun (W : World) (q : Nat) (hW : InsAt W (some ⟨q, 0, none⟩) (timesCode m)) => load_any (some ⟨q, 0, none⟩) 9 9 (timesCode m) W rfl (by omega) hW
  have B := hid fun W => blank_any W
  have hL : ∀ W e w', LoadRet W (timesCode m) e w' → ∃ q, e = .returned (.tuple #[.pointer (some ⟨q, 0, none⟩), .int .i64 0, .int .i64 0]) ∧ PAt w' q (timesCode m) ∧ W.heap.size ≤ q ∧ Below W.heap.size W w' := by
    intro W e w' h
    unfold LoadRet at h
    rw [if_pos (times_check m m1 m2)] at h
    exact h
  have HL := hid hL
  obtain ⟨y0, hy0⟩ : ∃ y, y = blankV := ⟨_, rfl⟩
  have hT0 := TInv.blank m m1
  rw [← hy0] at hT0 B
  obtain ⟨i0, q0, m0, r0⟩ := y0
  simp only [Img.val] at B
  have HT0 := hid hT0
  have HB := hid hb
  clear hb hL hT0 hy0
  go_enter Try.func4, Try.ntmps4
  go_wp2_with (first
    | (go_at_call 8; refine (A15.out _).mono ?_; rintro e w1 ⟨rfl, hb1⟩)
    | (go_at_call 10; rw [← hm]; refine (L.out _ _ (InsAt.lit (heap_new w1 _))).mono ?_; intro e w2 hl; obtain ⟨q, rfl, hq, hqw, hb2⟩ := HL.out _ _ _ hl; replace hq := hid hq; clear hl)
    | (go_at_call 16; refine (B.out _).mono ?_; rintro e w3 ⟨rfl, hb3⟩))
  rw [← hm]
  have hD : decide (40 < (n : Int)) = false := by simp; omega
  rw [hD]
  obtain ⟨g, hg⟩ : ∃ g, g = w3.heap.size := ⟨_, rfl⟩
  obtain ⟨W, hW⟩ : ∃ W, W = w3.alloc (.cells #[.string i0, .string q0, .string m0, .string r0] 24) := ⟨_, rfl⟩
  have hI0 : W.heap[g]? = some (.cells #[.string i0, .string q0, .string m0, .string r0] 24 (0, 0)) := by subst hW; subst hg; exact heap_new _ _
  have hBW : Below w.heap.size w W := by subst hW; exact (by repeat (first | exact Below.refl _ _ | assumption | (with_reducible refine below_alloc' ?_ _) | (with_reducible refine below_drew' ?_) | (with_reducible refine below_drewN' ?_ _) | (with_reducible refine below_setCell' ?_ (by first | omega | (simp; omega) | (simp; done)) _) | (refine below_then' ?_ (by assumption))))
  have hQ : ∀ X, Below g w3 X → PAt X q (timesCode m) := by intro X hX; subst hg; exact (hq.out.below hb3).below hX
  have hB3 : Below g w3 W := by subst hW; subst hg; exact Below.alloc1 _ _
  have hqg : q < g := by subst hg; obtain ⟨_, _, h, _⟩ := hq.out.below hb3; exact h
  have hgw : w.heap.size < g := by subst hg; have h1 := hb1.size; have h2 := hb2.size; have h3 := hb3.size; simp only [World.size_alloc] at h1 h2 h3; omega
  rw [← hW, ← hg]
  have HI0 := hid hI0
  have HBW := hid hBW
  have HQ := hid hQ
  have HB3 := hid hB3
  clear hW hg hI0 hBW hQ hB3 hq hb1 hb2 hb3 hm hD v1 v0 hqw L B A15 HL
  go_loopw [11, 12, 48] (fun sm up ix wr => ∃ (k : Nat) (y : Img) (S U : Int), k ≤ n ∧ ix = .int .i64 k ∧ sm = .int .i64 S ∧ up = .int .i64 U ∧ 0 ≤ S ∧ S ≤ 255 * k ∧ 0 ≤ U ∧ U ≤ k ∧ TInv y S U (k % 2 : Nat) m ∧ wr.heap[g]? = some (.cells #[.string y.I, .string y.Q, .string y.M, .string y.R] 24 (0, 0)) ∧ Below w.heap.size w wr ∧ Below g w3 wr) (fun _ _ i _ => n - (intOf i).toNat)
  case atStart => exact ⟨0, ⟨i0, q0, m0, r0⟩, 0, 0, by omega, rfl, rfl, rfl, by omega, by omega, by omega, by omega, HT0.out, HI0.out, HBW.out, HB3.out⟩
  case round =>
    obtain ⟨k, y, S, U, hk, rfl, rfl, rfl, S0, S1, U0, U1, hT, hG, hBr, hP⟩ := hrel
    obtain ⟨yi, yq, ym, yr⟩ := y
    simp only at hG
    have c0 : wr.cell? ⟨g, 0, none⟩ = some (.string yi) := cell_of_heap hG 0
    have c1 : wr.cell? ⟨g, 1, none⟩ = some (.string yq) := cell_of_heap hG 1
    have c2 : wr.cell? ⟨g, 2, none⟩ = some (.string ym) := cell_of_heap hG 2
    have c3 : wr.cell? ⟨g, 3, none⟩ = some (.string yr) := cell_of_heap hG 3
    have f0 := frozen_of_heap hG 0
    have f1 := frozen_of_heap hG 1
    have f2 := frozen_of_heap hG 2
    have f3 := frozen_of_heap hG 3
    have hgl := heap_lt hG
    have HG := hid hG
    have HT := hid hT
    have HBr := hid hBr
    have HP := hid hP
    clear hG hT hBr hP
    by_cases hlt : k < n
    · obtain ⟨b, o, rfl, hbl, hc, z0, z1⟩ := (HB.out.below HBr.out) k hlt
      obtain ⟨d, hd⟩ : ∃ d, d = f k := ⟨_, rfl⟩
      rw [← hd] at hc z0 z1
      obtain ⟨up, hup⟩ : ∃ up : Int, up = ((k : Int) + 1) % 2 := ⟨_, rfl⟩
      have u01 : up = 0 ∨ up = 1 := by omega
      obtain ⟨u, hu⟩ : ∃ u : UInt8, (u.toNat : Int) = up := ⟨bitB up, bitB_01 u01⟩
      have kc := two_bytes wr _ u (hu.trans hup)
      have g0 : (((listOf ⟨#[1, u]⟩ ++ List.replicate (64 - (⟨#[1, u]⟩ : ByteArray).size) 0).getD 0 0).toNat : Int) = 1 := rfl
      have g1 : (((listOf ⟨#[1, u]⟩ ++ List.replicate (64 - (⟨#[1, u]⟩ : ByteArray).size) 0).getD 1 0).toNat : Int) = up := hu
      have hz2 : (⟨#[1, u]⟩ : ByteArray).size < 64 := by show 2 < 64; omega
      obtain ⟨s', hs', l2, l3, l4, t3, _, p3, t4, p4, y0, y1, y2⟩ := times_round HT.out ⟨#[1, u]⟩ hz2 d 1 up m1 m2 z0 (by omega) S0 U0 (by omega) (Or.inr rfl) u01 g0 g1 (by omega)
      have hx : imgOk ⟨⟨#[1, u]⟩, yq, ym, yr⟩ := by
        have q1 := HT.out.q
        have q2 := HT.out.mm
        have q3 := HT.out.r
        simp only at q1 q2 q3
        exact ⟨by show 2 ≤ _; decide, by simp only; omega, by simp only; omega, by simp only; omega⟩
      have R := hid fun W (hq : PAt W q (timesCode m)) => run_some q (timesCode m) ⟨⟨#[1, u]⟩, yq, ym, yr⟩ d W 10 s' hq hx (by show 9 ≤ _; omega) hs'
      simp only [Img.val, outImg, scanVal] at R
      have HU := hid hu
      have HUP := hid hup
      have HD := hid hd
      have HS := hid (And.intro l2 (And.intro l3 (And.intro l4 (And.intro t3 (And.intro p3 (And.intro t4 p4))))))
      have HY0 := hid y0
      have HY1 := hid y1
      have HY2 := hid y2
      clear hu hup hd g0 g1 hs' l2 l3 l4 t3 p3 t4 p4 y0 y1 y2 hx
      generalize (fitV ⟨⟨#[1, u]⟩, yq, ym, yr⟩).I = ni at *
      obtain ⟨Q2, hQ2⟩ : ∃ Q : ByteArray, Q = ⟨(s'.ar 2).toArray⟩ := ⟨_, rfl⟩
      rw [← hQ2] at R
      have HQ2 := hid hQ2
      clear hQ2
      obtain ⟨X, hX⟩ : ∃ X, X = (wr.setCell ⟨g, 0, none⟩ (.string ⟨#[1, u]⟩)).alloc (.cells #[.int .u8 1, .int .u8 (((k : Int) + 1) % 2)] 5) := ⟨_, rfl⟩
      have hXg : X.heap[g]? = some (.cells #[.string ⟨#[1, u]⟩, .string yq, .string ym, .string yr] 24 (0, 0)) := by
        rw [hX, heap_alloc_old _ _ (by simp; exact hgl), heap_setCell_same HG.out 0 _]
        rfl
      have hXq : PAt X q (timesCode m) := HQ.out X (by rw [hX]; exact (HP.out.setCell (p := ⟨g, 0, none⟩) (Nat.le_refl _) _).alloc (by simp; have := HP.out.size; exact Nat.le_of_lt hgl) _)
      have hXb : Below w.heap.size w X := by
        rw [hX]
        have h := HBr.out.setCell (p := ⟨g, 0, none⟩) (Nat.le_of_lt hgw) (.string ⟨#[1, u]⟩)
        exact h.alloc h.size _
      have hX3 : Below g w3 X := by rw [hX]; exact (HP.out.setCell (p := ⟨g, 0, none⟩) (Nat.le_refl _) _).alloc (by simp; exact Nat.le_of_lt hgl) _
      have HX := hid (And.intro hXg (And.intro hXb hX3))
      have R2 := hid (R.out X hXq)
      rw [hX] at R2
      have HXe := hid hX
      clear hX hXg hXq hXb hX3 R
      go_upto_region 20 with (first
        | (go_at_call 14; refine R2.out.mono ?_; rw [← HXe.out]; rintro e w5 ⟨rfl, hb5⟩; have hG5 := (hb5.block g (heap_lt HX.out.1)).trans HX.out.1; have d0 := cell_of_heap hG5 0; have d1 := cell_of_heap hG5 1; have d2 := cell_of_heap hG5 2; have d3 := cell_of_heap hG5 3; have g0 := frozen_of_heap hG5 0; have g1 := frozen_of_heap hG5 1; have g2 := frozen_of_heap hG5 2; have g3 := frozen_of_heap hG5 3; have hl5 := heap_lt hG5; simp only [List.getElem?_toArray, List.getElem?_cons_zero, List.getElem?_cons_succ] at d0 d1 d2 d3; replace hG5 := hid hG5; replace hb5 := hid hb5))
      obtain ⟨Y, hY⟩ : ∃ Y, Y = ((((w5.setCell ⟨g, 0, none⟩ (.string ni)).setCell ⟨g, 1, none⟩ (.string Q2)).setCell ⟨g, 2, none⟩ (.string ⟨(s'.ar 3).toArray⟩)).setCell ⟨g, 3, none⟩ (.string ⟨(s'.ar 4).toArray⟩)) := ⟨_, rfl⟩
      have hYg : Y.heap[g]? = some (.cells #[.string ni, .string Q2, .string ⟨(s'.ar 3).toArray⟩, .string ⟨(s'.ar 4).toArray⟩] 24 (0, 0)) := by
        rw [hY, heap_setCell_same (heap_setCell_same (heap_setCell_same (heap_setCell_same hG5.out 0 _) 1 _) 2 _) 3 _]
        rfl
      have hb5X : Below w.heap.size w w5 := HX.out.2.1.trans (hb5.out.mono HX.out.2.1.size)
      have hb5g : Below g w3 w5 := HX.out.2.2.trans (hb5.out.mono (Nat.le_of_lt (heap_lt HX.out.1)))
      have hYb : Below w.heap.size w Y := by
        rw [hY]
        exact (((hb5X.setCell (p := ⟨g, 0, none⟩) (Nat.le_of_lt hgw) _).setCell (p := ⟨g, 1, none⟩) (Nat.le_of_lt hgw) _).setCell (p := ⟨g, 2, none⟩) (Nat.le_of_lt hgw) _).setCell (p := ⟨g, 3, none⟩) (Nat.le_of_lt hgw) _
      have hY3 : Below g w3 Y := by
        rw [hY]
        exact (((hb5g.setCell (p := ⟨g, 0, none⟩) (Nat.le_refl _) _).setCell (p := ⟨g, 1, none⟩) (Nat.le_refl _) _).setCell (p := ⟨g, 2, none⟩) (Nat.le_refl _) _).setCell (p := ⟨g, 3, none⟩) (Nat.le_refl _) _
      rw [← hY]
      have HYf := hid (And.intro hYg (And.intro hYb hY3))
      have v1 : Y.cell? ⟨g, 1, none⟩ = some (.string Q2) := cell_of_heap hYg 1
      have hz : Q2.size = 64 := by rw [HQ2.out]; exact HS.out.1
      have hz0 : (0 : Nat) < Q2.size := by omega
      have hz1 : (1 : Nat) < Q2.size := by omega
      have hz3 : (2 : Nat) < Q2.size := by omega
      have e0 : (((Q2[0]'hz0).toNat : Int) == 1) = decide (m ≤ S + d) := by
        rw [ba_get Q2 _ HQ2.out 0 hz0, HY0.out, truthN_eq1]
        simp
      have e1 : (((Q2[1]'hz1).toNat : Int) == 1) = decide (m ≤ U + ((k : Int) + 1) % 2) := by
        rw [ba_get Q2 _ HQ2.out 1 hz1, HY1.out, truthN_eq1, HUP.out]
      have e2 : (((Q2[2]'hz3).toNat : Int) != ((k : Int) + 1) % 2) = false := by
        rw [ba_get Q2 _ HQ2.out 2 hz3, HY2.out, HUP.out]
        simp
      have y0 : (0 : Int) < (Q2.size : Int) := by omega
      have y1 : (1 : Int) < (Q2.size : Int) := by omega
      have y2 : (2 : Int) < (Q2.size : Int) := by omega
      clear hY hYg hb5X hb5g hYb hY3 d0 d1 d2 d3 g0 g1 g2 g3 hl5 c0 c1 c2 c3 f0 f1 f2 f3 kc HXe R2 hz
      go_wp2
      go_roundw
      case rel =>
        have hup2 : up = ((k : Int) + 1) % 2 := HUP.out
        refine ⟨k + 1, ⟨ni, Q2, ⟨(s'.ar 3).toArray⟩, ⟨(s'.ar 4).toArray⟩⟩, S + d, U + ((k : Int) + 1) % 2, by omega, by go_num, rfl, rfl, by omega, by omega, by omega, by omega, ?_, HYf.out⟩
        obtain ⟨l2, l3, l4, t3, p3, t4, p4⟩ := HS.out
        have hk2 : (((k + 1) % 2 : Nat) : Int) = up := by omega
        refine ⟨?_, ?_, ?_, ?_, ?_, ?_, ?_⟩
        · show Q2.size = 64
          rw [HQ2.out]; exact l2
        · exact l3
        · exact l4
        · rw [listOf_mk, t3]; simp
        · rw [listOf_mk, hk2]; exact p3
        · rw [listOf_mk, t4, hup2]
        · rw [listOf_mk, hk2]; exact p4
      case measure => simp [intOf]; omega
    · obtain rfl : k = n := by omega
      have g0 : (((listOf ⟨#[]⟩ ++ List.replicate (64 - (⟨#[]⟩ : ByteArray).size) 0).getD 0 0).toNat : Int) = 0 := rfl
      have g1 : (((listOf ⟨#[]⟩ ++ List.replicate (64 - (⟨#[]⟩ : ByteArray).size) 0).getD 1 0).toNat : Int) = 0 := rfl
      have hz2 : (⟨#[]⟩ : ByteArray).size < 64 := by show 0 < 64; omega
      obtain ⟨s', hs', l2, l3, l4, _, t3, _, _, _, y0, y1, _⟩ := times_round HT.out ⟨#[]⟩ hz2 1 0 0 m1 m2 (by omega) (by omega) S0 U0 (by omega) (Or.inl rfl) (Or.inl rfl) g0 g1 (by omega)
      have hx : imgOk ⟨⟨#[]⟩, yq, ym, yr⟩ := by
        have q1 := HT.out.q
        have q2 := HT.out.mm
        have q3 := HT.out.r
        simp only at q1 q2 q3
        exact ⟨by show 0 ≤ _; omega, by simp only; omega, by simp only; omega, by simp only; omega⟩
      have R := hid fun W (hq : PAt W q (timesCode m)) => run_some q (timesCode m) ⟨⟨#[]⟩, yq, ym, yr⟩ 1 W 10 s' hq hx (by show 9 ≤ _; omega) hs'
      simp only [Img.val, outImg, scanVal] at R
      have HS := hid (And.intro l2 (And.intro l3 l4))
      have HY0 := hid y0
      have HY1 := hid y1
      have HT3 := hid t3
      clear g0 g1 hs' l2 l3 l4 t3 y0 y1 hx hz2
      generalize (fitV ⟨⟨#[]⟩, yq, ym, yr⟩).I = ni at *
      obtain ⟨Q2, hQ2⟩ : ∃ Q : ByteArray, Q = ⟨(s'.ar 2).toArray⟩ := ⟨_, rfl⟩
      obtain ⟨M2, hM2⟩ : ∃ Q : ByteArray, Q = ⟨(s'.ar 3).toArray⟩ := ⟨_, rfl⟩
      rw [← hQ2, ← hM2] at R
      have HQ2 := hid hQ2
      have HM2 := hid hM2
      clear hQ2 hM2
      obtain ⟨X, hX⟩ : ∃ X, X = wr.setCell ⟨g, 0, none⟩ (.string ⟨#[]⟩) := ⟨_, rfl⟩
      have hXg : X.heap[g]? = some (.cells #[.string ⟨#[]⟩, .string yq, .string ym, .string yr] 24 (0, 0)) := by
        rw [hX, heap_setCell_same HG.out 0 _]
        rfl
      have hXq : PAt X q (timesCode m) := HQ.out X (by rw [hX]; exact HP.out.setCell (p := ⟨g, 0, none⟩) (Nat.le_refl _) _)
      have hXb : Below w.heap.size w X := by
        rw [hX]
        exact HBr.out.setCell (p := ⟨g, 0, none⟩) (Nat.le_of_lt hgw) (.string ⟨#[]⟩)
      have HX := hid (And.intro hXg hXb)
      have R2 := hid (R.out X hXq)
      rw [hX] at R2
      have HXe := hid hX
      clear hX hXg hXq hXb R
      go_upto_region 25 with (first
        | (go_at_call 14; refine R2.out.mono ?_; rw [← HXe.out]; rintro e w5 ⟨rfl, hb5⟩; have hG5 := (hb5.block g (heap_lt HX.out.1)).trans HX.out.1; have d0 := cell_of_heap hG5 0; have d1 := cell_of_heap hG5 1; have d2 := cell_of_heap hG5 2; have d3 := cell_of_heap hG5 3; have g0 := frozen_of_heap hG5 0; have g1 := frozen_of_heap hG5 1; have g2 := frozen_of_heap hG5 2; have g3 := frozen_of_heap hG5 3; have hl5 := heap_lt hG5; simp only [List.getElem?_toArray, List.getElem?_cons_zero, List.getElem?_cons_succ] at d0 d1 d2 d3; replace hG5 := hid hG5; replace hb5 := hid hb5))
      obtain ⟨Y, hY⟩ : ∃ Y, Y = ((((w5.setCell ⟨g, 0, none⟩ (.string ni)).setCell ⟨g, 1, none⟩ (.string Q2)).setCell ⟨g, 2, none⟩ (.string M2)).setCell ⟨g, 3, none⟩ (.string ⟨(s'.ar 4).toArray⟩)) := ⟨_, rfl⟩
      have hYg : Y.heap[g]? = some (.cells #[.string ni, .string Q2, .string M2, .string ⟨(s'.ar 4).toArray⟩] 24 (0, 0)) := by
        rw [hY, heap_setCell_same (heap_setCell_same (heap_setCell_same (heap_setCell_same hG5.out 0 _) 1 _) 2 _) 3 _]
        rfl
      have hb5X : Below w.heap.size w w5 := HX.out.2.trans (hb5.out.mono HX.out.2.size)
      have hYb : Below w.heap.size w Y := by
        rw [hY]
        exact (((hb5X.setCell (p := ⟨g, 0, none⟩) (Nat.le_of_lt hgw) _).setCell (p := ⟨g, 1, none⟩) (Nat.le_of_lt hgw) _).setCell (p := ⟨g, 2, none⟩) (Nat.le_of_lt hgw) _).setCell (p := ⟨g, 3, none⟩) (Nat.le_of_lt hgw) _
      rw [← hY]
      have v1 : Y.cell? ⟨g, 1, none⟩ = some (.string Q2) := cell_of_heap hYg 1
      have v2 : Y.cell? ⟨g, 2, none⟩ = some (.string M2) := cell_of_heap hYg 2
      have hz : Q2.size = 64 := by rw [HQ2.out]; exact HS.out.1
      have hzm : M2.size = 64 := by rw [HM2.out]; exact HS.out.2.1
      have hz0 : (0 : Nat) < Q2.size := by omega
      have hz1 : (1 : Nat) < Q2.size := by omega
      have HYb := hid hYb
      clear hY hYg hb5X hYb d0 d1 d2 d3 g0 g1 g2 g3 hl5 c0 c1 c2 c3 f0 f1 f2 f3 HXe R2
      have e0 : (((Q2[0]'hz0).toNat : Int) == 0) = true := by
        rw [ba_get Q2 _ HQ2.out 0 hz0, HY0.out]
        simp [truthN]
      have e1 : (((Q2[1]'hz1).toNat : Int) == 1) = decide (m ≤ U) := by
        rw [ba_get Q2 _ HQ2.out 1 hz1, HY1.out, truthN_eq1]
        simp
      have e2 : M2.extract 0 4 = ⟨#[0, 0, 0, 0]⟩ := by
        have h := extract_list (s'.ar 3) 0 4 (by rw [HS.out.2.1]; omega)
        rw [← HM2.out] at h
        apply ByteArray.ext
        apply Array.toList_inj.1
        rw [h]
        have := HT3.out
        simp only [List.drop_zero]
        rw [show 4 - 0 = 4 from rfl, this]
        rfl
      have y0 : (0 : Int) < (Q2.size : Int) := by omega
      have y1 : (1 : Int) < (Q2.size : Int) := by omega
      have y2 : (4 : Int) ≤ (M2.size : Int) := by omega
      clear hz hzm
      go_wp2
      all_goals go_ret
      all_goals refine ⟨ret_bool ?_, HYb.out⟩
      all_goals first | rfl | (simp; done) | (simp [*]; done)
theorem times_long (A : Option Addr) (n cp : Nat) (v : Int) (w : World) (hn : 40 < n) (hmax : n ≤ 9223372036854775807) :
    Calls Try.prog 4 #[.slice A n cp, .int .u16 v] w fun e w' => e = .returned (.bool true) ∧ Below w.heap.size w w' := by
  have A15 := hid fun W => awake15_any W
  go_enter Try.func4, Try.ntmps4
  go_wp2_with (first
    | (go_at_call 8; refine (A15.out _).mono ?_; rintro e w1 ⟨rfl, hb1⟩))
  go_ret
  exact ⟨rfl, hb1⟩
theorem times_any (A : Option Addr) (n cp : Nat) (f : Nat → Int) (v : Int) (w : World) (hb : BytesAt w A n f) (hmax : n ≤ 9223372036854775807) (v0 : 0 ≤ v) (v1 : v ≤ 65535) :
    Calls Try.prog 4 #[.slice A n cp, .int .u16 v] w fun e w' => e = .returned (.bool true) ∧ Below w.heap.size w w' := by
  by_cases h : n ≤ 40
  · exact times_law A n cp f v w hb h v0 v1
  · exact times_long A n cp v w (by omega) hmax
end Go.Proofs.Ytkhnalboodkddaa
