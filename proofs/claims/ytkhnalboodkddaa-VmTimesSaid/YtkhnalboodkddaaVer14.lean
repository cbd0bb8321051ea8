import Derived.Test.YtkhnalboodkddaaVer13
import Derived.Deep.OwnRows
set_option linter.unusedSimpArgs false
set_option linter.unusedVariables false
set_option maxRecDepth 100000
namespace Go.Proofs.Ytkhnalboodkddaa
open Go.RowKit
theorem info_pa : (Try.prog.info? 111).map (fun i => (i.zero, i.size, i.bytes)) = some (some (.pointer none), 1, 8) := by kernel_rfl
theorem all_long (A : Option Addr) (n c : Nat) (code : List Ins) (w : World) (hn : n = code.length) (hmax : n ≤ 9223372036854775807) (h : 200 < n) :
    Calls Try.prog 38 #[.slice A n c] w (AllRet w code) := by
  have hR : ∀ e w', e = .returned (.tuple #[.slice none 0 0, .int .i64 2, .int .i64 200]) → Below w.heap.size w w' → AllRet w code e w' := by
    intro e w' h1 h2
    rw [hn] at h
    simp only [AllRet, verifyV, if_pos h]
    exact ⟨h1, h2⟩
  generalize AllRet w code = R at *
  have HR := hid hR
  clear hR hn
  go_enter Try.func38, Try.ntmps38
  go_wp2
  go_ret3
  exact HR.out _ _ rfl (by repeat (first | exact Below.refl _ _ | assumption | (with_reducible refine below_alloc' ?_ _) | (with_reducible refine below_drew' ?_) | (with_reducible refine below_drewN' ?_ _) | (with_reducible refine below_setCell' ?_ (by first | omega | (simp; omega) | (simp; done)) _) | (refine below_then' ?_ (by assumption))))
set_option maxHeartbeats 3000000 in
theorem all_short (A : Option Addr) (n c : Nat) (code : List Ins) (w : World) (hn : n = code.length) (h : n ≤ 200) (hc : InsAt w A code) :
    Calls Try.prog 38 #[.slice A n c] w (AllRet w code) := by
  obtain ⟨R, hR⟩ : ∃ R, R = AllRet w code := ⟨_, rfl⟩
  rw [← hR]
  have HR := hid hR
  have HN := hid hn
  have HC := hid hc
  have hmk : ∀ W : World, (Instr.makeSlice 91 (.int .i64 ((n : Int) + 1)) (.int .i64 ((n : Int) + 1))).run Try.prog W = .ok (.slice (some ⟨W.heap.size, 0, none⟩) (n + 1) (n + 1)) (W.alloc (.cells (madeCells #[.pointer none] (n + 1)) 111)) := by
    intro W
    have := run_make_row' (P := Try.prog) 91 111 (.pointer none) 8 (by kernel_rfl) info_pa rfl .i64 .i64 (n + 1) (by omega) (by omega) W
    simpa using this
  have hm0 : (madeCells #[Value.pointer none] (n + 1))[0]? = some (.pointer none) := by simp [madeCells]
  have hd : decide (200 < (n : Int)) = false := by simp; omega
  clear hR hn hc
  go_enter Try.func38, Try.ntmps38
  go_wp2
  go_loopw [24] (fun i wr => ∃ (k : Nat) (t : Tab) (p : Nat → Nat), k ≤ n ∧ i = .int .i64 k ∧ TRep wr w.heap.size w.heap.size t p ∧ t.length = n + 1 ∧ Below w.heap.size w wr ∧ endV n (runV n k (code.drop k) t) = verifyV code) (fun i _ => n - (intOf i).toNat)
  case atStart =>
    refine ⟨0, startV n, _, by omega, rfl, TRep.start (q := w.heap.size + 1) (cs := (madeCells #[.pointer none] (n + 1)).setIfInBounds 0 (.pointer (some ⟨w.heap.size + 1, 0, none⟩))) ?_ ?_ ?_ ?_ ?_ (Nat.le_refl _) (by omega), by simp [startV], (by repeat (first | exact Below.refl _ _ | assumption | (with_reducible refine below_alloc' ?_ _) | (with_reducible refine below_drew' ?_) | (with_reducible refine below_drewN' ?_ _) | (with_reducible refine below_setCell' ?_ (by first | omega | (simp; omega) | (simp; done)) _) | (refine below_then' ?_ (by assumption)))), ?_⟩
    · rw [Below.heap_alloc _ _ _ (by simp), heap_new]
    · simp [madeCells]
    · simp [madeCells]
    · intro i h0 h1
      rw [Array.getElem?_setIfInBounds_ne (by omega)]
      simp [madeCells, h1, Nat.mod_one]
    · have := heap_new (w.alloc (.cells ((madeCells #[.pointer none] (n + 1)).setIfInBounds 0 (.pointer (some ⟨w.heap.size + 1, 0, none⟩))) 111)) (.cells #[.int .i64 0, .slice none 0 0] 114)
      simpa using this
    · rw [verifyV, if_neg (by rw [← HN.out]; omega), ← HN.out]
      rfl
  case round =>
    obtain ⟨k, t, p, hk, rfl, hr, ht, hbw, hrun⟩ := hrel
    by_cases hlt : k < n
    · have hkc : k < code.length := by rw [← HN.out]; exact hlt
      rw [runV_step hkc] at hrun
      obtain ⟨b, o, rfl, hbl, hcells⟩ := (HC.out.below hbw) (by intro e; subst e; simp at hkc)
      obtain ⟨x0, x1, x2, x3, x4⟩ := hcells k hkc
      clear hcells
      generalize hi : code.getD k ⟨0, 0, 0, 0, 0⟩ = ins at *
      have HI := hid hi
      clear hi
      obtain ⟨op, kd, ar, at_, nn⟩ := ins
      simp only at x0 x1 x2 x3 x4
      have HRUN := hid hrun
      have HBW := hid hbw
      have HREP := hid hr
      have HT := hid ht
      clear hrun hbw hr ht
      cases hri : rightB ⟨op, kd, ar, at_, nn⟩
      · go_wp2_with (first | (go_at_call 58; refine (right_any _ _ _ _ _ _).mono ?_; rintro e w1 ⟨rfl, hb⟩; have hbc := (bcell hb).1; have hbf := (bcell hb).2; try simp only [World.size_alloc, World.size_setCell] at hbc hbf; try (have hlt : wr.heap.size < w1.heap.size := by (have hsz := hb.size; simp only [World.size_alloc, World.size_setCell] at hsz; omega))))
        go_ret3
        rw [HR.out, AllRet, ← HRUN.out, stepV, if_pos hri]
        have hbw := HBW.out
        exact ⟨rfl, (by repeat (first | exact Below.refl _ _ | assumption | (with_reducible refine below_alloc' ?_ _) | (with_reducible refine below_drew' ?_) | (with_reducible refine below_drewN' ?_ _) | (with_reducible refine below_setCell' ?_ (by first | omega | (simp; omega) | (simp; done)) _) | (refine below_then' ?_ (by assumption))))⟩
      · have hg : ∃ x, t[k]? = some x := ⟨_, List.getElem?_eq_getElem (by rw [HT.out]; omega)⟩
        obtain ⟨x, hx⟩ := hg
        have hgd : t.getD k none = x := by rw [List.getD_eq_getElem?_getD, hx]; rfl
        obtain ⟨tlt, tc, tf⟩ := HREP.out.cell k x hx
        have tlt' : w.heap.size < wr.heap.size + 1 := by omega
        cases x with
        | none =>
          simp only [ptrA] at tc
          have HG := hid hgd
          clear hx hgd
          go_wp2_with (first | (go_at_call 58; refine (right_any _ _ _ _ _ _).mono ?_; rintro e w1 ⟨rfl, hb⟩; have hbc := (bcell hb).1; have hbf := (bcell hb).2; try simp only [World.size_alloc, World.size_setCell] at hbc hbf; try (have hlt : wr.heap.size < w1.heap.size := by (have hsz := hb.size; simp only [World.size_alloc, World.size_setCell] at hsz; omega))))
          have hbr : Below wr.heap.size wr w1 := below_of_alloc hb
          clear hbc hbf hb
          go_roundw
          case rel => exact ⟨k + 1, t, p, by omega, by go_num, HREP.out.below hbr, HT.out, HBW.out.trans (hbr.mono HBW.out.size), by
            have := HRUN.out
            rw [stepV, if_neg (by rw [hri]; simp), HG.out] at this
            exact this⟩
          case measure => simp [intOf]; omega
        | some a =>
          obtain ⟨A', c', hA', hbr', q1, q2⟩ := HREP.out.ent k a hx
          have h8 := HREP.out.b8 k a hx
          have plt := heap_lt hA'
          have pc0 : wr.cell? ⟨p k, 0, none⟩ = some (.int .i64 a.kind) := by rw [cell_of_heap hA']; rfl
          have pc1 : wr.cell? ⟨p k, 1, none⟩ = some (.slice A' a.op.length c') := by rw [cell_of_heap hA']; rfl
          simp only [ptrA] at tc
          generalize p k = q at *
          have plt' : q < wr.heap.size + 1 := by omega
          have HG := hid hgd
          have H8 := hid h8
          have HBR := hid hbr'
          have Q1 := hid q1
          have Q2 := hid q2
          clear hx hgd h8 hbr' hA' q1 q2
          by_cases hj : jumpsB op = true ∧ (at_ ≤ k ∨ (n : Int) < at_)
          · obtain ⟨hj1, hj2⟩ := hj
            by_cases hj3 : at_ ≤ k
            · go_wp2_with (first | (go_at_call 58; refine (right_any _ _ _ _ _ _).mono ?_; rintro e w1 ⟨rfl, hb⟩; have hbc := (bcell hb).1; have hbf := (bcell hb).2; try simp only [World.size_alloc, World.size_setCell] at hbc hbf; try (have hlt : wr.heap.size < w1.heap.size := by (have hsz := hb.size; simp only [World.size_alloc, World.size_setCell] at hsz; omega))) | (go_at_call 59; refine (jumps_any _ _ _ _ _ _).mono ?_; rintro e w1 ⟨rfl, hb⟩; have hbc := (bcell hb).1; have hbf := (bcell hb).2; try simp only [World.size_alloc, World.size_setCell] at hbc hbf; try (have hlt : wr.heap.size < w1.heap.size := by (have hsz := hb.size; simp only [World.size_alloc, World.size_setCell] at hsz; omega))))
              go_ret3
              rw [HR.out, AllRet, ← HRUN.out, stepV, if_neg (by rw [hri]; simp), HG.out]
              simp only
              rw [if_pos ⟨hj1, Or.inl hj3⟩]
              have hbw := HBW.out
              exact ⟨rfl, (by repeat (first | exact Below.refl _ _ | assumption | (with_reducible refine below_alloc' ?_ _) | (with_reducible refine below_drew' ?_) | (with_reducible refine below_drewN' ?_ _) | (with_reducible refine below_setCell' ?_ (by first | omega | (simp; omega) | (simp; done)) _) | (refine below_then' ?_ (by assumption))))⟩
            · have hj4 : (n : Int) < at_ := by omega
              go_wp2_with (first | (go_at_call 58; refine (right_any _ _ _ _ _ _).mono ?_; rintro e w1 ⟨rfl, hb⟩; have hbc := (bcell hb).1; have hbf := (bcell hb).2; try simp only [World.size_alloc, World.size_setCell] at hbc hbf; try (have hlt : wr.heap.size < w1.heap.size := by (have hsz := hb.size; simp only [World.size_alloc, World.size_setCell] at hsz; omega))) | (go_at_call 59; refine (jumps_any _ _ _ _ _ _).mono ?_; rintro e w1 ⟨rfl, hb⟩; have hbc := (bcell hb).1; have hbf := (bcell hb).2; try simp only [World.size_alloc, World.size_setCell] at hbc hbf; try (have hlt : wr.heap.size < w1.heap.size := by (have hsz := hb.size; simp only [World.size_alloc, World.size_setCell] at hsz; omega))))
              go_ret3
              rw [HR.out, AllRet, ← HRUN.out, stepV, if_neg (by rw [hri]; simp), HG.out]
              simp only
              rw [if_pos ⟨hj1, hj2⟩]
              have hbw := HBW.out
              exact ⟨rfl, (by repeat (first | exact Below.refl _ _ | assumption | (with_reducible refine below_alloc' ?_ _) | (with_reducible refine below_drew' ?_) | (with_reducible refine below_drewN' ?_ _) | (with_reducible refine below_setCell' ?_ (by first | omega | (simp; omega) | (simp; done)) _) | (refine below_then' ?_ (by assumption))))⟩
          · have HJ := hid hj
            clear hj
            have Y0 := Yb.start (a := a) tlt plt tc pc0 pc1 op kd ar at_ nn
            by_cases he : behE ⟨op, kd, ar, at_, nn⟩ a = 0
            · have he0 : (behE ⟨op, kd, ar, at_, nn⟩ a != 0) = false := by simp [he]
              have HE := hid he
              clear he
              cases hjb : jumpsB op
              · cases hon : onB op
                · as_aux_lemma =>
                  go_wp2_with (first | (go_at_call 58; refine (right_any _ _ _ _ _ _).mono ?_; rintro e w1 ⟨rfl, hb⟩; have Y1 := Yb.below (by assumption) hb; obtain ⟨y0, y1, y2, y3, y4, y5⟩ := And.intro Y1.y0 (And.intro Y1.y1 (And.intro Y1.y2 (And.intro Y1.y3 (And.intro Y1.y4 Y1.y5))))) | (go_at_call 59; refine (jumps_any _ _ _ _ _ _).mono ?_; rintro e w1 ⟨rfl, hb⟩; have Y1 := Yb.below (by assumption) hb; obtain ⟨y0, y1, y2, y3, y4, y5⟩ := And.intro Y1.y0 (And.intro Y1.y1 (And.intro Y1.y2 (And.intro Y1.y3 (And.intro Y1.y4 Y1.y5))))))
                  have hs1 := Y1.sz
                  have hki : (k : Int) < (n : Int) + 1 := by omega
                  have hki' : k < n + 1 := by omega
                  have Y2 := Y1.drew
                  go_region_held3 (fun X => X.cell? ⟨w.heap.size, k, none⟩ = some (.pointer (some ⟨q, 0, none⟩)) ∧ X.cell? ⟨q, 0, none⟩ = some (.int .i64 a.kind) ∧ X.cell? ⟨q, 1, none⟩ = some (.slice A' a.op.length c') ∧ X.cell? ⟨wr.heap.size, 0, none⟩ = some (.int .i64 op) ∧ X.cell? ⟨wr.heap.size, 1, none⟩ = some (.int .i64 kd) ∧ X.cell? ⟨wr.heap.size, 2, none⟩ = some (.int .i64 ar) ∧ X.cell? ⟨wr.heap.size, 3, none⟩ = some (.int .i64 at_) ∧ X.cell? ⟨wr.heap.size, 4, none⟩ = some (.int .i64 nn))
                    (exact Yb.s (by repeat (first | assumption | (with_reducible refine Yb.drew ?_) | (with_reducible refine Yb.alloc ?_ _) | (with_reducible refine Yb.set ?_ (by first | omega | (simp; omega)) _ _))))
                    (first | (go_at_call 60; (with_reducible refine (behind_box a.kind A' a.op.length c' op kd ar at_ nn a.op w1 rfl Q1.out Q2.out (HBR.out.below Y1.bel) H8.out).mono ?_); rintro e w' ⟨⟨A2, c2, rfl, hb, hbr2, q12, q22⟩, hbox⟩; have Y3 : Yb wr w.heap.size k q a A' c' op kd ar at_ nn w' := Yb.below (by repeat (first | assumption | (with_reducible refine Yb.drew ?_) | (with_reducible refine Yb.alloc ?_ _) | (with_reducible refine Yb.set ?_ (by first | omega | (simp; omega)) _ _))) hb; have hs3 := Y3.sz; have z0 : w'.cell? ⟨w1.heap.size, 0, none⟩ = some (.int .i64 0) := cell_of_heap hbox 0; have z1 : w'.cell? ⟨w1.heap.size, 1, none⟩ = some (.slice none 0 0) := cell_of_heap hbox 1; have z2 := frozen_of_heap hbox 0; have z3 := frozen_of_heap hbox 1; have hty : Typ w' w1.heap.size 114 := ⟨_, _, hbox⟩; clear hbox) | (go_at_call 60; refine (behind_any a.kind A' a.op.length c' op kd ar at_ nn a.op _ rfl Q1.out Q2.out (HBR.out.below (Yb.bel (tb := w.heap.size) (k := k) (q := q) (a := a) (A := A') (c := c') (op := op) (kd := kd) (ar := ar) (at_ := at_) (nn := nn) (by repeat (first | assumption | (with_reducible refine Yb.drew ?_) | (with_reducible refine Yb.alloc ?_ _) | (with_reducible refine Yb.set ?_ (by first | omega | (simp; omega)) _ _))))) H8.out).mono ?_; rintro e w' ⟨A2, c2, rfl, hb, hbr2, q12, q22⟩; have Y3 : Yb wr w.heap.size k q a A' c' op kd ar at_ nn w' := Yb.below (by repeat (first | assumption | (with_reducible refine Yb.drew ?_) | (with_reducible refine Yb.alloc ?_ _) | (with_reducible refine Yb.set ?_ (by first | omega | (simp; omega)) _ _))) hb; have hs3 := Y3.sz))
                  · go_wp2_with fail
                    have YW : Yb wr w.heap.size k q a A' c' op kd ar at_ nn (w'.alloc (.cells #[.int .i64 (behA ⟨op, kd, ar, at_, nn⟩ a).kind, .slice A2 (behA ⟨op, kd, ar, at_, nn⟩ a).op.length c2] 114)) := (by repeat (first | assumption | (with_reducible refine Yb.drew ?_) | (with_reducible refine Yb.alloc ?_ _) | (with_reducible refine Yb.set ?_ (by first | omega | (simp; omega)) _ _)))
                    have G0 : Gb wr w'.heap.size op kd ar at_ nn (behA ⟨op, kd, ar, at_, nn⟩ a) A2 c2 (w'.alloc (.cells #[.int .i64 (behA ⟨op, kd, ar, at_, nn⟩ a).kind, .slice A2 (behA ⟨op, kd, ar, at_, nn⟩ a).op.length c2] 114)) := ⟨YW.y0, YW.y1, YW.y2, YW.y3, YW.y4, by simp [go_sem], by simp [go_sem], hbr2.below ((Below.refl _ _).alloc (Nat.le_refl _) _), hs3, by simp⟩
                    have hbel0 := YW.bel
                    have q12' := q12
                    obtain ⟨r, hrr⟩ : ∃ r, r = (behA ⟨op, kd, ar, at_, nn⟩ a) := ⟨_, rfl⟩
                    have HRR := hid hrr
                    have hR8 : r.op.length ≤ 8 := by rw [hrr]; exact behA_len _ _ H8.out HE.out
                    have R8 := hid hR8
                    generalize w'.alloc (.cells #[.int .i64 (behA ⟨op, kd, ar, at_, nn⟩ a).kind, .slice A2 (behA ⟨op, kd, ar, at_, nn⟩ a).op.length c2] 114) = wc at *
                    rw [← hrr] at G0 q12
                    clear YW hb hbr2 Y0 Y1 Y2 Y3 hrr hR8 q12'
                    obtain ⟨y0, y1, y2, y3, y4, g0, g1⟩ := And.intro G0.y0 (And.intro G0.y1 (And.intro G0.y2 (And.intro G0.y3 (And.intro G0.y4 (And.intro G0.g0 G0.g1)))))
                    go_wp2_with (first | (go_at_call 61; refine (on_any _ _ _ _ _ _).mono ?_; rintro e w3 ⟨rfl, hb⟩; have G' := Gb.below (by assumption) hb; have hbel' := below_then' (w := wr) (by assumption) hb; obtain ⟨y0, y1, y2, y3, y4, g0, g1⟩ := And.intro G'.y0 (And.intro G'.y1 (And.intro G'.y2 (And.intro G'.y3 (And.intro G'.y4 (And.intro G'.g0 G'.g1)))))) | (go_at_call 59; refine (jumps_any _ _ _ _ _ _).mono ?_; rintro e w3 ⟨rfl, hb⟩; have G' := Gb.below (by assumption) hb; have hbel' := below_then' (w := wr) (by assumption) hb; obtain ⟨y0, y1, y2, y3, y4, g0, g1⟩ := And.intro G'.y0 (And.intro G'.y1 (And.intro G'.y2 (And.intro G'.y3 (And.intro G'.y4 (And.intro G'.g0 G'.g1)))))))
                    go_roundw
                    case rel =>
                      refine ⟨k + 1, t, p, by omega, by go_num, HREP.out.below hbel', HT.out, HBW.out.trans (hbel'.mono (Nat.le_of_lt tlt)), ?_⟩
                      have this := HRUN.out
                      rw [stepV, if_neg (by rw [hri]; simp), HG.out] at this
                      simp only at this
                      rw [if_neg HJ.out, if_neg (by rw [HE.out]; simp)] at this
                      rw [if_neg (by rw [hon]; simp), if_neg (by rw [hjb]; simp), hon, hjb] at this
                      exact this
                    case measure => simp [intOf]; omega
                  · go_wp2_with fail
                    have YW : Yb wr w.heap.size k q a A' c' op kd ar at_ nn ((w'.setCell ⟨w1.heap.size, 0, none⟩ (.int .i64 (behA ⟨op, kd, ar, at_, nn⟩ a).kind)).setCell ⟨w1.heap.size, 1, none⟩ (.slice A2 (behA ⟨op, kd, ar, at_, nn⟩ a).op.length c2)) := (by repeat (first | assumption | (with_reducible refine Yb.drew ?_) | (with_reducible refine Yb.alloc ?_ _) | (with_reducible refine Yb.set ?_ (by first | omega | (simp; omega)) _ _)))
                    have G0 : Gb wr w1.heap.size op kd ar at_ nn (behA ⟨op, kd, ar, at_, nn⟩ a) A2 c2 ((w'.setCell ⟨w1.heap.size, 0, none⟩ (.int .i64 (behA ⟨op, kd, ar, at_, nn⟩ a).kind)).setCell ⟨w1.heap.size, 1, none⟩ (.slice A2 (behA ⟨op, kd, ar, at_, nn⟩ a).op.length c2)) := ⟨YW.y0, YW.y1, YW.y2, YW.y3, YW.y4, (World.cell?_setCell_other _ _ _ _ (by simp)).trans (World.cell?_setCell_same _ _ _ z0), World.cell?_setCell_same _ _ _ ((World.cell?_setCell_other _ _ _ _ (by simp)).trans z1), (hbr2.setCell hty (by decide) _ _).setCell (hty.setCell _ _) (by decide) _ _, hs1, by simp; exact hty.lt⟩
                    have hbel0 := YW.bel
                    have q12' := q12
                    obtain ⟨r, hrr⟩ : ∃ r, r = (behA ⟨op, kd, ar, at_, nn⟩ a) := ⟨_, rfl⟩
                    have HRR := hid hrr
                    have hR8 : r.op.length ≤ 8 := by rw [hrr]; exact behA_len _ _ H8.out HE.out
                    have R8 := hid hR8
                    generalize (w'.setCell ⟨w1.heap.size, 0, none⟩ (.int .i64 (behA ⟨op, kd, ar, at_, nn⟩ a).kind)).setCell ⟨w1.heap.size, 1, none⟩ (.slice A2 (behA ⟨op, kd, ar, at_, nn⟩ a).op.length c2) = wc at *
                    rw [← hrr] at G0 q12
                    clear YW hb hbr2 Y0 Y1 Y2 Y3 hrr hR8 q12'
                    obtain ⟨y0, y1, y2, y3, y4, g0, g1⟩ := And.intro G0.y0 (And.intro G0.y1 (And.intro G0.y2 (And.intro G0.y3 (And.intro G0.y4 (And.intro G0.g0 G0.g1)))))
                    go_wp2_with (first | (go_at_call 61; refine (on_any _ _ _ _ _ _).mono ?_; rintro e w3 ⟨rfl, hb⟩; have G' := Gb.below (by assumption) hb; have hbel' := below_then' (w := wr) (by assumption) hb; obtain ⟨y0, y1, y2, y3, y4, g0, g1⟩ := And.intro G'.y0 (And.intro G'.y1 (And.intro G'.y2 (And.intro G'.y3 (And.intro G'.y4 (And.intro G'.g0 G'.g1)))))) | (go_at_call 59; refine (jumps_any _ _ _ _ _ _).mono ?_; rintro e w3 ⟨rfl, hb⟩; have G' := Gb.below (by assumption) hb; have hbel' := below_then' (w := wr) (by assumption) hb; obtain ⟨y0, y1, y2, y3, y4, g0, g1⟩ := And.intro G'.y0 (And.intro G'.y1 (And.intro G'.y2 (And.intro G'.y3 (And.intro G'.y4 (And.intro G'.g0 G'.g1)))))))
                    go_roundw
                    case rel =>
                      refine ⟨k + 1, t, p, by omega, by go_num, HREP.out.below hbel', HT.out, HBW.out.trans (hbel'.mono (Nat.le_of_lt tlt)), ?_⟩
                      have this := HRUN.out
                      rw [stepV, if_neg (by rw [hri]; simp), HG.out] at this
                      simp only at this
                      rw [if_neg HJ.out, if_neg (by rw [HE.out]; simp)] at this
                      rw [if_neg (by rw [hon]; simp), if_neg (by rw [hjb]; simp), hon, hjb] at this
                      exact this
                    case measure => simp [intOf]; omega
                · as_aux_lemma =>
                  go_wp2_with (first | (go_at_call 58; refine (right_any _ _ _ _ _ _).mono ?_; rintro e w1 ⟨rfl, hb⟩; have Y1 := Yb.below (by assumption) hb; obtain ⟨y0, y1, y2, y3, y4, y5⟩ := And.intro Y1.y0 (And.intro Y1.y1 (And.intro Y1.y2 (And.intro Y1.y3 (And.intro Y1.y4 Y1.y5))))) | (go_at_call 59; refine (jumps_any _ _ _ _ _ _).mono ?_; rintro e w1 ⟨rfl, hb⟩; have Y1 := Yb.below (by assumption) hb; obtain ⟨y0, y1, y2, y3, y4, y5⟩ := And.intro Y1.y0 (And.intro Y1.y1 (And.intro Y1.y2 (And.intro Y1.y3 (And.intro Y1.y4 Y1.y5))))))
                  have hs1 := Y1.sz
                  have hki : (k : Int) < (n : Int) + 1 := by omega
                  have hki' : k < n + 1 := by omega
                  have Y2 := Y1.drew
                  go_region_held3 (fun X => X.cell? ⟨w.heap.size, k, none⟩ = some (.pointer (some ⟨q, 0, none⟩)) ∧ X.cell? ⟨q, 0, none⟩ = some (.int .i64 a.kind) ∧ X.cell? ⟨q, 1, none⟩ = some (.slice A' a.op.length c') ∧ X.cell? ⟨wr.heap.size, 0, none⟩ = some (.int .i64 op) ∧ X.cell? ⟨wr.heap.size, 1, none⟩ = some (.int .i64 kd) ∧ X.cell? ⟨wr.heap.size, 2, none⟩ = some (.int .i64 ar) ∧ X.cell? ⟨wr.heap.size, 3, none⟩ = some (.int .i64 at_) ∧ X.cell? ⟨wr.heap.size, 4, none⟩ = some (.int .i64 nn))
                    (exact Yb.s (by repeat (first | assumption | (with_reducible refine Yb.drew ?_) | (with_reducible refine Yb.alloc ?_ _) | (with_reducible refine Yb.set ?_ (by first | omega | (simp; omega)) _ _))))
                    (first | (go_at_call 60; (with_reducible refine (behind_box a.kind A' a.op.length c' op kd ar at_ nn a.op w1 rfl Q1.out Q2.out (HBR.out.below Y1.bel) H8.out).mono ?_); rintro e w' ⟨⟨A2, c2, rfl, hb, hbr2, q12, q22⟩, hbox⟩; have Y3 : Yb wr w.heap.size k q a A' c' op kd ar at_ nn w' := Yb.below (by repeat (first | assumption | (with_reducible refine Yb.drew ?_) | (with_reducible refine Yb.alloc ?_ _) | (with_reducible refine Yb.set ?_ (by first | omega | (simp; omega)) _ _))) hb; have hs3 := Y3.sz; have z0 : w'.cell? ⟨w1.heap.size, 0, none⟩ = some (.int .i64 0) := cell_of_heap hbox 0; have z1 : w'.cell? ⟨w1.heap.size, 1, none⟩ = some (.slice none 0 0) := cell_of_heap hbox 1; have z2 := frozen_of_heap hbox 0; have z3 := frozen_of_heap hbox 1; have hty : Typ w' w1.heap.size 114 := ⟨_, _, hbox⟩; clear hbox) | (go_at_call 60; refine (behind_any a.kind A' a.op.length c' op kd ar at_ nn a.op _ rfl Q1.out Q2.out (HBR.out.below (Yb.bel (tb := w.heap.size) (k := k) (q := q) (a := a) (A := A') (c := c') (op := op) (kd := kd) (ar := ar) (at_ := at_) (nn := nn) (by repeat (first | assumption | (with_reducible refine Yb.drew ?_) | (with_reducible refine Yb.alloc ?_ _) | (with_reducible refine Yb.set ?_ (by first | omega | (simp; omega)) _ _))))) H8.out).mono ?_; rintro e w' ⟨A2, c2, rfl, hb, hbr2, q12, q22⟩; have Y3 : Yb wr w.heap.size k q a A' c' op kd ar at_ nn w' := Yb.below (by repeat (first | assumption | (with_reducible refine Yb.drew ?_) | (with_reducible refine Yb.alloc ?_ _) | (with_reducible refine Yb.set ?_ (by first | omega | (simp; omega)) _ _))) hb; have hs3 := Y3.sz))
                  · go_wp2_with fail
                    have YW : Yb wr w.heap.size k q a A' c' op kd ar at_ nn (w'.alloc (.cells #[.int .i64 (behA ⟨op, kd, ar, at_, nn⟩ a).kind, .slice A2 (behA ⟨op, kd, ar, at_, nn⟩ a).op.length c2] 114)) := (by repeat (first | assumption | (with_reducible refine Yb.drew ?_) | (with_reducible refine Yb.alloc ?_ _) | (with_reducible refine Yb.set ?_ (by first | omega | (simp; omega)) _ _)))
                    have G0 : Gb wr w'.heap.size op kd ar at_ nn (behA ⟨op, kd, ar, at_, nn⟩ a) A2 c2 (w'.alloc (.cells #[.int .i64 (behA ⟨op, kd, ar, at_, nn⟩ a).kind, .slice A2 (behA ⟨op, kd, ar, at_, nn⟩ a).op.length c2] 114)) := ⟨YW.y0, YW.y1, YW.y2, YW.y3, YW.y4, by simp [go_sem], by simp [go_sem], hbr2.below ((Below.refl _ _).alloc (Nat.le_refl _) _), hs3, by simp⟩
                    have hbel0 := YW.bel
                    have q12' := q12
                    obtain ⟨r, hrr⟩ : ∃ r, r = (behA ⟨op, kd, ar, at_, nn⟩ a) := ⟨_, rfl⟩
                    have HRR := hid hrr
                    have hR8 : r.op.length ≤ 8 := by rw [hrr]; exact behA_len _ _ H8.out HE.out
                    have R8 := hid hR8
                    generalize w'.alloc (.cells #[.int .i64 (behA ⟨op, kd, ar, at_, nn⟩ a).kind, .slice A2 (behA ⟨op, kd, ar, at_, nn⟩ a).op.length c2] 114) = wc at *
                    rw [← hrr] at G0 q12
                    clear YW hb hbr2 Y0 Y1 Y2 Y3 hrr hR8 q12'
                    obtain ⟨y0, y1, y2, y3, y4, g0, g1⟩ := And.intro G0.y0 (And.intro G0.y1 (And.intro G0.y2 (And.intro G0.y3 (And.intro G0.y4 (And.intro G0.g0 G0.g1)))))
                    cases hl1 : leadB t (k + 1) r
                    · have hl1' : leadB t ((k : Int) + 1).toNat r = false := by rw [show ((k : Int) + 1).toNat = k + 1 by omega]; exact hl1
                      go_wp2_with (first | (go_at_call 61; refine (on_any _ _ _ _ _ _).mono ?_; rintro e w3 ⟨rfl, hb⟩; have G' := Gb.below (by assumption) hb; have hbel' := below_then' (w := wr) (by assumption) hb; obtain ⟨y0, y1, y2, y3, y4, g0, g1⟩ := And.intro G'.y0 (And.intro G'.y1 (And.intro G'.y2 (And.intro G'.y3 (And.intro G'.y4 (And.intro G'.g0 G'.g1)))))) | (go_at_call 62; refine (lead_at w.heap.size w.heap.size (n + 1) t p ((k : Int) + 1) A2 c2 r (n + 1) r.op.length _ (by omega) HT.out.symm rfl (by omega) (HREP.out.below (by assumption)) (Nat.le_trans (Nat.le_of_lt tlt) (Below.size (by assumption : Below wr.heap.size wr _))) (by rw [HT.out]; omega) (Gb.br (by assumption)) q12 q22 R8.out).mono ?_; rintro e w4 ⟨rfl, ho, p2, hr2⟩; have hra := HREP.out.below (by assumption : Below wr.heap.size wr w3); have G' := Gb.lead (by assumption) HREP.out hra ho; have hbel2 := HBW.out.trans (((by assumption : Below wr.heap.size wr w3).mono (Nat.le_of_lt tlt)).trans (hra.lead_below ho (Nat.le_trans (Nat.le_of_lt tlt) (Below.size (by assumption : Below wr.heap.size wr w3))))); have hsz2 : w.heap.size ≤ w4.heap.size := hbel2.size; obtain ⟨y0, y1, y2, y3, y4, g0, g1⟩ := And.intro G'.y0 (And.intro G'.y1 (And.intro G'.y2 (And.intro G'.y3 (And.intro G'.y4 (And.intro G'.g0 G'.g1)))))))
                      go_ret3
                      rw [HR.out, AllRet, ← HRUN.out, stepV, if_neg (by rw [hri]; simp), HG.out]
                      simp only
                      rw [if_neg HJ.out, if_neg (by rw [HE.out]; simp), if_pos ⟨hon, by rw [← HRR.out]; exact hl1⟩]
                      have hbw := HBW.out
                      exact ⟨rfl, hbel2⟩
                    · have hl1' : leadB t ((k : Int) + 1).toNat r = true := by rw [show ((k : Int) + 1).toNat = k + 1 by omega]; exact hl1
                      go_wp2_with (first | (go_at_call 61; refine (on_any _ _ _ _ _ _).mono ?_; rintro e w3 ⟨rfl, hb⟩; have G' := Gb.below (by assumption) hb; have hbel' := below_then' (w := wr) (by assumption) hb; obtain ⟨y0, y1, y2, y3, y4, g0, g1⟩ := And.intro G'.y0 (And.intro G'.y1 (And.intro G'.y2 (And.intro G'.y3 (And.intro G'.y4 (And.intro G'.g0 G'.g1)))))) | (go_at_call 62; refine (lead_at w.heap.size w.heap.size (n + 1) t p ((k : Int) + 1) A2 c2 r (n + 1) r.op.length _ (by omega) HT.out.symm rfl (by omega) (HREP.out.below (by assumption)) (Nat.le_trans (Nat.le_of_lt tlt) (Below.size (by assumption : Below wr.heap.size wr _))) (by rw [HT.out]; omega) (Gb.br (by assumption)) q12 q22 R8.out).mono ?_; rintro e w4 ⟨rfl, ho, p2, hr2⟩; have hra := HREP.out.below (by assumption : Below wr.heap.size wr w3); have G' := Gb.lead (by assumption) HREP.out hra ho; have hbel2 := HBW.out.trans (((by assumption : Below wr.heap.size wr w3).mono (Nat.le_of_lt tlt)).trans (hra.lead_below ho (Nat.le_trans (Nat.le_of_lt tlt) (Below.size (by assumption : Below wr.heap.size wr w3))))); have hsz2 : w.heap.size ≤ w4.heap.size := hbel2.size; obtain ⟨y0, y1, y2, y3, y4, g0, g1⟩ := And.intro G'.y0 (And.intro G'.y1 (And.intro G'.y2 (And.intro G'.y3 (And.intro G'.y4 (And.intro G'.g0 G'.g1)))))) | (go_at_call 59; refine (jumps_any _ _ _ _ _ _).mono ?_; rintro e w3 ⟨rfl, hb⟩; have G' := Gb.below (by assumption) hb; have hbel2' := hbel2.trans (hb.mono hsz2); have hr3 := hr2.below hb; have hsz3 : w.heap.size ≤ w3.heap.size := Nat.le_trans hsz2 hb.size; obtain ⟨y0, y1, y2, y3, y4, g0, g1⟩ := And.intro G'.y0 (And.intro G'.y1 (And.intro G'.y2 (And.intro G'.y3 (And.intro G'.y4 (And.intro G'.g0 G'.g1)))))))
                      go_roundw
                      case rel =>
                        refine ⟨k + 1, _, _, by omega, by go_num, hr3, by rw [leadT_length]; exact HT.out, hbel2', ?_⟩
                        have this := HRUN.out
                        rw [stepV, if_neg (by rw [hri]; simp), HG.out] at this
                        simp only at this
                        rw [if_neg HJ.out, if_neg (by rw [HE.out]; simp)] at this
                        rw [if_neg (by rw [← HRR.out, hl1]; simp), if_neg (by rw [hjb]; simp), hon, hjb, ← HRR.out] at this
                        simp only [if_true, Bool.false_eq_true, if_false] at this
                        rw [show ((k : Int) + 1).toNat = k + 1 by omega]
                        exact this
                      case measure => simp [intOf]; omega
                  · go_wp2_with fail
                    have YW : Yb wr w.heap.size k q a A' c' op kd ar at_ nn ((w'.setCell ⟨w1.heap.size, 0, none⟩ (.int .i64 (behA ⟨op, kd, ar, at_, nn⟩ a).kind)).setCell ⟨w1.heap.size, 1, none⟩ (.slice A2 (behA ⟨op, kd, ar, at_, nn⟩ a).op.length c2)) := (by repeat (first | assumption | (with_reducible refine Yb.drew ?_) | (with_reducible refine Yb.alloc ?_ _) | (with_reducible refine Yb.set ?_ (by first | omega | (simp; omega)) _ _)))
                    have G0 : Gb wr w1.heap.size op kd ar at_ nn (behA ⟨op, kd, ar, at_, nn⟩ a) A2 c2 ((w'.setCell ⟨w1.heap.size, 0, none⟩ (.int .i64 (behA ⟨op, kd, ar, at_, nn⟩ a).kind)).setCell ⟨w1.heap.size, 1, none⟩ (.slice A2 (behA ⟨op, kd, ar, at_, nn⟩ a).op.length c2)) := ⟨YW.y0, YW.y1, YW.y2, YW.y3, YW.y4, (World.cell?_setCell_other _ _ _ _ (by simp)).trans (World.cell?_setCell_same _ _ _ z0), World.cell?_setCell_same _ _ _ ((World.cell?_setCell_other _ _ _ _ (by simp)).trans z1), (hbr2.setCell hty (by decide) _ _).setCell (hty.setCell _ _) (by decide) _ _, hs1, by simp; exact hty.lt⟩
                    have hbel0 := YW.bel
                    have q12' := q12
                    obtain ⟨r, hrr⟩ : ∃ r, r = (behA ⟨op, kd, ar, at_, nn⟩ a) := ⟨_, rfl⟩
                    have HRR := hid hrr
                    have hR8 : r.op.length ≤ 8 := by rw [hrr]; exact behA_len _ _ H8.out HE.out
                    have R8 := hid hR8
                    generalize (w'.setCell ⟨w1.heap.size, 0, none⟩ (.int .i64 (behA ⟨op, kd, ar, at_, nn⟩ a).kind)).setCell ⟨w1.heap.size, 1, none⟩ (.slice A2 (behA ⟨op, kd, ar, at_, nn⟩ a).op.length c2) = wc at *
                    rw [← hrr] at G0 q12
                    clear YW hb hbr2 Y0 Y1 Y2 Y3 hrr hR8 q12'
                    obtain ⟨y0, y1, y2, y3, y4, g0, g1⟩ := And.intro G0.y0 (And.intro G0.y1 (And.intro G0.y2 (And.intro G0.y3 (And.intro G0.y4 (And.intro G0.g0 G0.g1)))))
                    cases hl1 : leadB t (k + 1) r
                    · have hl1' : leadB t ((k : Int) + 1).toNat r = false := by rw [show ((k : Int) + 1).toNat = k + 1 by omega]; exact hl1
                      go_wp2_with (first | (go_at_call 61; refine (on_any _ _ _ _ _ _).mono ?_; rintro e w3 ⟨rfl, hb⟩; have G' := Gb.below (by assumption) hb; have hbel' := below_then' (w := wr) (by assumption) hb; obtain ⟨y0, y1, y2, y3, y4, g0, g1⟩ := And.intro G'.y0 (And.intro G'.y1 (And.intro G'.y2 (And.intro G'.y3 (And.intro G'.y4 (And.intro G'.g0 G'.g1)))))) | (go_at_call 62; refine (lead_at w.heap.size w.heap.size (n + 1) t p ((k : Int) + 1) A2 c2 r (n + 1) r.op.length _ (by omega) HT.out.symm rfl (by omega) (HREP.out.below (by assumption)) (Nat.le_trans (Nat.le_of_lt tlt) (Below.size (by assumption : Below wr.heap.size wr _))) (by rw [HT.out]; omega) (Gb.br (by assumption)) q12 q22 R8.out).mono ?_; rintro e w4 ⟨rfl, ho, p2, hr2⟩; have hra := HREP.out.below (by assumption : Below wr.heap.size wr w3); have G' := Gb.lead (by assumption) HREP.out hra ho; have hbel2 := HBW.out.trans (((by assumption : Below wr.heap.size wr w3).mono (Nat.le_of_lt tlt)).trans (hra.lead_below ho (Nat.le_trans (Nat.le_of_lt tlt) (Below.size (by assumption : Below wr.heap.size wr w3))))); have hsz2 : w.heap.size ≤ w4.heap.size := hbel2.size; obtain ⟨y0, y1, y2, y3, y4, g0, g1⟩ := And.intro G'.y0 (And.intro G'.y1 (And.intro G'.y2 (And.intro G'.y3 (And.intro G'.y4 (And.intro G'.g0 G'.g1)))))))
                      go_ret3
                      rw [HR.out, AllRet, ← HRUN.out, stepV, if_neg (by rw [hri]; simp), HG.out]
                      simp only
                      rw [if_neg HJ.out, if_neg (by rw [HE.out]; simp), if_pos ⟨hon, by rw [← HRR.out]; exact hl1⟩]
                      have hbw := HBW.out
                      exact ⟨rfl, hbel2⟩
                    · have hl1' : leadB t ((k : Int) + 1).toNat r = true := by rw [show ((k : Int) + 1).toNat = k + 1 by omega]; exact hl1
                      go_wp2_with (first | (go_at_call 61; refine (on_any _ _ _ _ _ _).mono ?_; rintro e w3 ⟨rfl, hb⟩; have G' := Gb.below (by assumption) hb; have hbel' := below_then' (w := wr) (by assumption) hb; obtain ⟨y0, y1, y2, y3, y4, g0, g1⟩ := And.intro G'.y0 (And.intro G'.y1 (And.intro G'.y2 (And.intro G'.y3 (And.intro G'.y4 (And.intro G'.g0 G'.g1)))))) | (go_at_call 62; refine (lead_at w.heap.size w.heap.size (n + 1) t p ((k : Int) + 1) A2 c2 r (n + 1) r.op.length _ (by omega) HT.out.symm rfl (by omega) (HREP.out.below (by assumption)) (Nat.le_trans (Nat.le_of_lt tlt) (Below.size (by assumption : Below wr.heap.size wr _))) (by rw [HT.out]; omega) (Gb.br (by assumption)) q12 q22 R8.out).mono ?_; rintro e w4 ⟨rfl, ho, p2, hr2⟩; have hra := HREP.out.below (by assumption : Below wr.heap.size wr w3); have G' := Gb.lead (by assumption) HREP.out hra ho; have hbel2 := HBW.out.trans (((by assumption : Below wr.heap.size wr w3).mono (Nat.le_of_lt tlt)).trans (hra.lead_below ho (Nat.le_trans (Nat.le_of_lt tlt) (Below.size (by assumption : Below wr.heap.size wr w3))))); have hsz2 : w.heap.size ≤ w4.heap.size := hbel2.size; obtain ⟨y0, y1, y2, y3, y4, g0, g1⟩ := And.intro G'.y0 (And.intro G'.y1 (And.intro G'.y2 (And.intro G'.y3 (And.intro G'.y4 (And.intro G'.g0 G'.g1)))))) | (go_at_call 59; refine (jumps_any _ _ _ _ _ _).mono ?_; rintro e w3 ⟨rfl, hb⟩; have G' := Gb.below (by assumption) hb; have hbel2' := hbel2.trans (hb.mono hsz2); have hr3 := hr2.below hb; have hsz3 : w.heap.size ≤ w3.heap.size := Nat.le_trans hsz2 hb.size; obtain ⟨y0, y1, y2, y3, y4, g0, g1⟩ := And.intro G'.y0 (And.intro G'.y1 (And.intro G'.y2 (And.intro G'.y3 (And.intro G'.y4 (And.intro G'.g0 G'.g1)))))))
                      go_roundw
                      case rel =>
                        refine ⟨k + 1, _, _, by omega, by go_num, hr3, by rw [leadT_length]; exact HT.out, hbel2', ?_⟩
                        have this := HRUN.out
                        rw [stepV, if_neg (by rw [hri]; simp), HG.out] at this
                        simp only at this
                        rw [if_neg HJ.out, if_neg (by rw [HE.out]; simp)] at this
                        rw [if_neg (by rw [← HRR.out, hl1]; simp), if_neg (by rw [hjb]; simp), hon, hjb, ← HRR.out] at this
                        simp only [if_true, Bool.false_eq_true, if_false] at this
                        rw [show ((k : Int) + 1).toNat = k + 1 by omega]
                        exact this
                      case measure => simp [intOf]; omega
              · have a1 : (k : Int) < at_ := by have := HJ.out; rw [hjb] at this; simp at this; omega
                have a2 : at_ ≤ (n : Int) := by have := HJ.out; rw [hjb] at this; simp at this; omega
                have a3 : ¬ (n : Int) < at_ := by omega
                have a4 : decide ((n : Int) < at_) = false := by simp; omega
                have a5 : decide (at_ ≤ (k : Int)) = false := by simp; omega
                cases hon : onB op
                · as_aux_lemma =>
                  go_wp2_with (first | (go_at_call 58; refine (right_any _ _ _ _ _ _).mono ?_; rintro e w1 ⟨rfl, hb⟩; have Y1 := Yb.below (by assumption) hb; obtain ⟨y0, y1, y2, y3, y4, y5⟩ := And.intro Y1.y0 (And.intro Y1.y1 (And.intro Y1.y2 (And.intro Y1.y3 (And.intro Y1.y4 Y1.y5))))) | (go_at_call 59; refine (jumps_any _ _ _ _ _ _).mono ?_; rintro e w1 ⟨rfl, hb⟩; have Y1 := Yb.below (by assumption) hb; obtain ⟨y0, y1, y2, y3, y4, y5⟩ := And.intro Y1.y0 (And.intro Y1.y1 (And.intro Y1.y2 (And.intro Y1.y3 (And.intro Y1.y4 Y1.y5))))))
                  have hs1 := Y1.sz
                  have hki : (k : Int) < (n : Int) + 1 := by omega
                  have hki' : k < n + 1 := by omega
                  have Y2 := Y1.drew
                  go_region_held3 (fun X => X.cell? ⟨w.heap.size, k, none⟩ = some (.pointer (some ⟨q, 0, none⟩)) ∧ X.cell? ⟨q, 0, none⟩ = some (.int .i64 a.kind) ∧ X.cell? ⟨q, 1, none⟩ = some (.slice A' a.op.length c') ∧ X.cell? ⟨wr.heap.size, 0, none⟩ = some (.int .i64 op) ∧ X.cell? ⟨wr.heap.size, 1, none⟩ = some (.int .i64 kd) ∧ X.cell? ⟨wr.heap.size, 2, none⟩ = some (.int .i64 ar) ∧ X.cell? ⟨wr.heap.size, 3, none⟩ = some (.int .i64 at_) ∧ X.cell? ⟨wr.heap.size, 4, none⟩ = some (.int .i64 nn))
                    (exact Yb.s (by repeat (first | assumption | (with_reducible refine Yb.drew ?_) | (with_reducible refine Yb.alloc ?_ _) | (with_reducible refine Yb.set ?_ (by first | omega | (simp; omega)) _ _))))
                    (first | (go_at_call 60; (with_reducible refine (behind_box a.kind A' a.op.length c' op kd ar at_ nn a.op w1 rfl Q1.out Q2.out (HBR.out.below Y1.bel) H8.out).mono ?_); rintro e w' ⟨⟨A2, c2, rfl, hb, hbr2, q12, q22⟩, hbox⟩; have Y3 : Yb wr w.heap.size k q a A' c' op kd ar at_ nn w' := Yb.below (by repeat (first | assumption | (with_reducible refine Yb.drew ?_) | (with_reducible refine Yb.alloc ?_ _) | (with_reducible refine Yb.set ?_ (by first | omega | (simp; omega)) _ _))) hb; have hs3 := Y3.sz; have z0 : w'.cell? ⟨w1.heap.size, 0, none⟩ = some (.int .i64 0) := cell_of_heap hbox 0; have z1 : w'.cell? ⟨w1.heap.size, 1, none⟩ = some (.slice none 0 0) := cell_of_heap hbox 1; have z2 := frozen_of_heap hbox 0; have z3 := frozen_of_heap hbox 1; have hty : Typ w' w1.heap.size 114 := ⟨_, _, hbox⟩; clear hbox) | (go_at_call 60; refine (behind_any a.kind A' a.op.length c' op kd ar at_ nn a.op _ rfl Q1.out Q2.out (HBR.out.below (Yb.bel (tb := w.heap.size) (k := k) (q := q) (a := a) (A := A') (c := c') (op := op) (kd := kd) (ar := ar) (at_ := at_) (nn := nn) (by repeat (first | assumption | (with_reducible refine Yb.drew ?_) | (with_reducible refine Yb.alloc ?_ _) | (with_reducible refine Yb.set ?_ (by first | omega | (simp; omega)) _ _))))) H8.out).mono ?_; rintro e w' ⟨A2, c2, rfl, hb, hbr2, q12, q22⟩; have Y3 : Yb wr w.heap.size k q a A' c' op kd ar at_ nn w' := Yb.below (by repeat (first | assumption | (with_reducible refine Yb.drew ?_) | (with_reducible refine Yb.alloc ?_ _) | (with_reducible refine Yb.set ?_ (by first | omega | (simp; omega)) _ _))) hb; have hs3 := Y3.sz))
                  · go_wp2_with fail
                    have YW : Yb wr w.heap.size k q a A' c' op kd ar at_ nn (w'.alloc (.cells #[.int .i64 (behA ⟨op, kd, ar, at_, nn⟩ a).kind, .slice A2 (behA ⟨op, kd, ar, at_, nn⟩ a).op.length c2] 114)) := (by repeat (first | assumption | (with_reducible refine Yb.drew ?_) | (with_reducible refine Yb.alloc ?_ _) | (with_reducible refine Yb.set ?_ (by first | omega | (simp; omega)) _ _)))
                    have G0 : Gb wr w'.heap.size op kd ar at_ nn (behA ⟨op, kd, ar, at_, nn⟩ a) A2 c2 (w'.alloc (.cells #[.int .i64 (behA ⟨op, kd, ar, at_, nn⟩ a).kind, .slice A2 (behA ⟨op, kd, ar, at_, nn⟩ a).op.length c2] 114)) := ⟨YW.y0, YW.y1, YW.y2, YW.y3, YW.y4, by simp [go_sem], by simp [go_sem], hbr2.below ((Below.refl _ _).alloc (Nat.le_refl _) _), hs3, by simp⟩
                    have hbel0 := YW.bel
                    have q12' := q12
                    obtain ⟨r, hrr⟩ : ∃ r, r = (behA ⟨op, kd, ar, at_, nn⟩ a) := ⟨_, rfl⟩
                    have HRR := hid hrr
                    have hR8 : r.op.length ≤ 8 := by rw [hrr]; exact behA_len _ _ H8.out HE.out
                    have R8 := hid hR8
                    generalize w'.alloc (.cells #[.int .i64 (behA ⟨op, kd, ar, at_, nn⟩ a).kind, .slice A2 (behA ⟨op, kd, ar, at_, nn⟩ a).op.length c2] 114) = wc at *
                    rw [← hrr] at G0 q12
                    clear YW hb hbr2 Y0 Y1 Y2 Y3 hrr hR8 q12'
                    obtain ⟨y0, y1, y2, y3, y4, g0, g1⟩ := And.intro G0.y0 (And.intro G0.y1 (And.intro G0.y2 (And.intro G0.y3 (And.intro G0.y4 (And.intro G0.g0 G0.g1)))))
                    cases hl1 : leadB t at_.toNat r
                    · go_wp2_with (first | (go_at_call 61; refine (on_any _ _ _ _ _ _).mono ?_; rintro e w3 ⟨rfl, hb⟩; have G' := Gb.below (by assumption) hb; have hbel' := below_then' (w := wr) (by assumption) hb; obtain ⟨y0, y1, y2, y3, y4, g0, g1⟩ := And.intro G'.y0 (And.intro G'.y1 (And.intro G'.y2 (And.intro G'.y3 (And.intro G'.y4 (And.intro G'.g0 G'.g1)))))) | (go_at_call 59; refine (jumps_any _ _ _ _ _ _).mono ?_; rintro e w3 ⟨rfl, hb⟩; have G' := Gb.below (by assumption) hb; have hbel' := below_then' (w := wr) (by assumption) hb; obtain ⟨y0, y1, y2, y3, y4, g0, g1⟩ := And.intro G'.y0 (And.intro G'.y1 (And.intro G'.y2 (And.intro G'.y3 (And.intro G'.y4 (And.intro G'.g0 G'.g1)))))) | (go_at_call 62; refine (lead_at w.heap.size w.heap.size (n + 1) t p (at_) A2 c2 r (n + 1) r.op.length _ (by omega) HT.out.symm rfl (by omega) (HREP.out.below (by assumption)) (Nat.le_trans (Nat.le_of_lt tlt) (Below.size (by assumption : Below wr.heap.size wr _))) (by rw [HT.out]; omega) (Gb.br (by assumption)) q12 q22 R8.out).mono ?_; rintro e w4 ⟨rfl, ho, p2, hr2⟩; have hra := HREP.out.below (by assumption : Below wr.heap.size wr w3); have G' := Gb.lead (by assumption) HREP.out hra ho; have hbel2 := HBW.out.trans (((by assumption : Below wr.heap.size wr w3).mono (Nat.le_of_lt tlt)).trans (hra.lead_below ho (Nat.le_trans (Nat.le_of_lt tlt) (Below.size (by assumption : Below wr.heap.size wr w3))))); have hsz2 : w.heap.size ≤ w4.heap.size := hbel2.size; obtain ⟨y0, y1, y2, y3, y4, g0, g1⟩ := And.intro G'.y0 (And.intro G'.y1 (And.intro G'.y2 (And.intro G'.y3 (And.intro G'.y4 (And.intro G'.g0 G'.g1)))))))
                      go_ret3
                      rw [HR.out, AllRet, ← HRUN.out, stepV, if_neg (by rw [hri]; simp), HG.out]
                      simp only
                      rw [if_neg HJ.out, if_neg (by rw [HE.out]; simp), if_neg (by rw [hon]; simp), if_pos ⟨hjb, by rw [hon, ← HRR.out]; exact hl1⟩]
                      have hbw := HBW.out
                      exact ⟨rfl, hbel2⟩
                    · go_wp2_with (first | (go_at_call 61; refine (on_any _ _ _ _ _ _).mono ?_; rintro e w3 ⟨rfl, hb⟩; have G' := Gb.below (by assumption) hb; have hbel' := below_then' (w := wr) (by assumption) hb; obtain ⟨y0, y1, y2, y3, y4, g0, g1⟩ := And.intro G'.y0 (And.intro G'.y1 (And.intro G'.y2 (And.intro G'.y3 (And.intro G'.y4 (And.intro G'.g0 G'.g1)))))) | (go_at_call 59; refine (jumps_any _ _ _ _ _ _).mono ?_; rintro e w3 ⟨rfl, hb⟩; have G' := Gb.below (by assumption) hb; have hbel' := below_then' (w := wr) (by assumption) hb; obtain ⟨y0, y1, y2, y3, y4, g0, g1⟩ := And.intro G'.y0 (And.intro G'.y1 (And.intro G'.y2 (And.intro G'.y3 (And.intro G'.y4 (And.intro G'.g0 G'.g1)))))) | (go_at_call 62; refine (lead_at w.heap.size w.heap.size (n + 1) t p (at_) A2 c2 r (n + 1) r.op.length _ (by omega) HT.out.symm rfl (by omega) (HREP.out.below (by assumption)) (Nat.le_trans (Nat.le_of_lt tlt) (Below.size (by assumption : Below wr.heap.size wr _))) (by rw [HT.out]; omega) (Gb.br (by assumption)) q12 q22 R8.out).mono ?_; rintro e w4 ⟨rfl, ho, p2, hr2⟩; have hra := HREP.out.below (by assumption : Below wr.heap.size wr w3); have G' := Gb.lead (by assumption) HREP.out hra ho; have hbel2 := HBW.out.trans (((by assumption : Below wr.heap.size wr w3).mono (Nat.le_of_lt tlt)).trans (hra.lead_below ho (Nat.le_trans (Nat.le_of_lt tlt) (Below.size (by assumption : Below wr.heap.size wr w3))))); have hsz2 : w.heap.size ≤ w4.heap.size := hbel2.size; obtain ⟨y0, y1, y2, y3, y4, g0, g1⟩ := And.intro G'.y0 (And.intro G'.y1 (And.intro G'.y2 (And.intro G'.y3 (And.intro G'.y4 (And.intro G'.g0 G'.g1)))))))
                      go_roundw
                      case rel =>
                        refine ⟨k + 1, _, _, by omega, by go_num, hr2, by rw [leadT_length]; exact HT.out, hbel2, ?_⟩
                        have this := HRUN.out
                        rw [stepV, if_neg (by rw [hri]; simp), HG.out] at this
                        simp only at this
                        rw [if_neg HJ.out, if_neg (by rw [HE.out]; simp)] at this
                        rw [if_neg (by rw [hon]; simp), if_neg (by rw [hon, ← HRR.out]; simp only [Bool.false_eq_true, if_false]; rw [hl1]; simp), hon, hjb, ← HRR.out] at this
                        exact this
                      case measure => simp [intOf]; omega
                  · go_wp2_with fail
                    have YW : Yb wr w.heap.size k q a A' c' op kd ar at_ nn ((w'.setCell ⟨w1.heap.size, 0, none⟩ (.int .i64 (behA ⟨op, kd, ar, at_, nn⟩ a).kind)).setCell ⟨w1.heap.size, 1, none⟩ (.slice A2 (behA ⟨op, kd, ar, at_, nn⟩ a).op.length c2)) := (by repeat (first | assumption | (with_reducible refine Yb.drew ?_) | (with_reducible refine Yb.alloc ?_ _) | (with_reducible refine Yb.set ?_ (by first | omega | (simp; omega)) _ _)))
                    have G0 : Gb wr w1.heap.size op kd ar at_ nn (behA ⟨op, kd, ar, at_, nn⟩ a) A2 c2 ((w'.setCell ⟨w1.heap.size, 0, none⟩ (.int .i64 (behA ⟨op, kd, ar, at_, nn⟩ a).kind)).setCell ⟨w1.heap.size, 1, none⟩ (.slice A2 (behA ⟨op, kd, ar, at_, nn⟩ a).op.length c2)) := ⟨YW.y0, YW.y1, YW.y2, YW.y3, YW.y4, (World.cell?_setCell_other _ _ _ _ (by simp)).trans (World.cell?_setCell_same _ _ _ z0), World.cell?_setCell_same _ _ _ ((World.cell?_setCell_other _ _ _ _ (by simp)).trans z1), (hbr2.setCell hty (by decide) _ _).setCell (hty.setCell _ _) (by decide) _ _, hs1, by simp; exact hty.lt⟩
                    have hbel0 := YW.bel
                    have q12' := q12
                    obtain ⟨r, hrr⟩ : ∃ r, r = (behA ⟨op, kd, ar, at_, nn⟩ a) := ⟨_, rfl⟩
                    have HRR := hid hrr
                    have hR8 : r.op.length ≤ 8 := by rw [hrr]; exact behA_len _ _ H8.out HE.out
                    have R8 := hid hR8
                    generalize (w'.setCell ⟨w1.heap.size, 0, none⟩ (.int .i64 (behA ⟨op, kd, ar, at_, nn⟩ a).kind)).setCell ⟨w1.heap.size, 1, none⟩ (.slice A2 (behA ⟨op, kd, ar, at_, nn⟩ a).op.length c2) = wc at *
                    rw [← hrr] at G0 q12
                    clear YW hb hbr2 Y0 Y1 Y2 Y3 hrr hR8 q12'
                    obtain ⟨y0, y1, y2, y3, y4, g0, g1⟩ := And.intro G0.y0 (And.intro G0.y1 (And.intro G0.y2 (And.intro G0.y3 (And.intro G0.y4 (And.intro G0.g0 G0.g1)))))
                    cases hl1 : leadB t at_.toNat r
                    · go_wp2_with (first | (go_at_call 61; refine (on_any _ _ _ _ _ _).mono ?_; rintro e w3 ⟨rfl, hb⟩; have G' := Gb.below (by assumption) hb; have hbel' := below_then' (w := wr) (by assumption) hb; obtain ⟨y0, y1, y2, y3, y4, g0, g1⟩ := And.intro G'.y0 (And.intro G'.y1 (And.intro G'.y2 (And.intro G'.y3 (And.intro G'.y4 (And.intro G'.g0 G'.g1)))))) | (go_at_call 59; refine (jumps_any _ _ _ _ _ _).mono ?_; rintro e w3 ⟨rfl, hb⟩; have G' := Gb.below (by assumption) hb; have hbel' := below_then' (w := wr) (by assumption) hb; obtain ⟨y0, y1, y2, y3, y4, g0, g1⟩ := And.intro G'.y0 (And.intro G'.y1 (And.intro G'.y2 (And.intro G'.y3 (And.intro G'.y4 (And.intro G'.g0 G'.g1)))))) | (go_at_call 62; refine (lead_at w.heap.size w.heap.size (n + 1) t p (at_) A2 c2 r (n + 1) r.op.length _ (by omega) HT.out.symm rfl (by omega) (HREP.out.below (by assumption)) (Nat.le_trans (Nat.le_of_lt tlt) (Below.size (by assumption : Below wr.heap.size wr _))) (by rw [HT.out]; omega) (Gb.br (by assumption)) q12 q22 R8.out).mono ?_; rintro e w4 ⟨rfl, ho, p2, hr2⟩; have hra := HREP.out.below (by assumption : Below wr.heap.size wr w3); have G' := Gb.lead (by assumption) HREP.out hra ho; have hbel2 := HBW.out.trans (((by assumption : Below wr.heap.size wr w3).mono (Nat.le_of_lt tlt)).trans (hra.lead_below ho (Nat.le_trans (Nat.le_of_lt tlt) (Below.size (by assumption : Below wr.heap.size wr w3))))); have hsz2 : w.heap.size ≤ w4.heap.size := hbel2.size; obtain ⟨y0, y1, y2, y3, y4, g0, g1⟩ := And.intro G'.y0 (And.intro G'.y1 (And.intro G'.y2 (And.intro G'.y3 (And.intro G'.y4 (And.intro G'.g0 G'.g1)))))))
                      go_ret3
                      rw [HR.out, AllRet, ← HRUN.out, stepV, if_neg (by rw [hri]; simp), HG.out]
                      simp only
                      rw [if_neg HJ.out, if_neg (by rw [HE.out]; simp), if_neg (by rw [hon]; simp), if_pos ⟨hjb, by rw [hon, ← HRR.out]; exact hl1⟩]
                      have hbw := HBW.out
                      exact ⟨rfl, hbel2⟩
                    · go_wp2_with (first | (go_at_call 61; refine (on_any _ _ _ _ _ _).mono ?_; rintro e w3 ⟨rfl, hb⟩; have G' := Gb.below (by assumption) hb; have hbel' := below_then' (w := wr) (by assumption) hb; obtain ⟨y0, y1, y2, y3, y4, g0, g1⟩ := And.intro G'.y0 (And.intro G'.y1 (And.intro G'.y2 (And.intro G'.y3 (And.intro G'.y4 (And.intro G'.g0 G'.g1)))))) | (go_at_call 59; refine (jumps_any _ _ _ _ _ _).mono ?_; rintro e w3 ⟨rfl, hb⟩; have G' := Gb.below (by assumption) hb; have hbel' := below_then' (w := wr) (by assumption) hb; obtain ⟨y0, y1, y2, y3, y4, g0, g1⟩ := And.intro G'.y0 (And.intro G'.y1 (And.intro G'.y2 (And.intro G'.y3 (And.intro G'.y4 (And.intro G'.g0 G'.g1)))))) | (go_at_call 62; refine (lead_at w.heap.size w.heap.size (n + 1) t p (at_) A2 c2 r (n + 1) r.op.length _ (by omega) HT.out.symm rfl (by omega) (HREP.out.below (by assumption)) (Nat.le_trans (Nat.le_of_lt tlt) (Below.size (by assumption : Below wr.heap.size wr _))) (by rw [HT.out]; omega) (Gb.br (by assumption)) q12 q22 R8.out).mono ?_; rintro e w4 ⟨rfl, ho, p2, hr2⟩; have hra := HREP.out.below (by assumption : Below wr.heap.size wr w3); have G' := Gb.lead (by assumption) HREP.out hra ho; have hbel2 := HBW.out.trans (((by assumption : Below wr.heap.size wr w3).mono (Nat.le_of_lt tlt)).trans (hra.lead_below ho (Nat.le_trans (Nat.le_of_lt tlt) (Below.size (by assumption : Below wr.heap.size wr w3))))); have hsz2 : w.heap.size ≤ w4.heap.size := hbel2.size; obtain ⟨y0, y1, y2, y3, y4, g0, g1⟩ := And.intro G'.y0 (And.intro G'.y1 (And.intro G'.y2 (And.intro G'.y3 (And.intro G'.y4 (And.intro G'.g0 G'.g1)))))))
                      go_roundw
                      case rel =>
                        refine ⟨k + 1, _, _, by omega, by go_num, hr2, by rw [leadT_length]; exact HT.out, hbel2, ?_⟩
                        have this := HRUN.out
                        rw [stepV, if_neg (by rw [hri]; simp), HG.out] at this
                        simp only at this
                        rw [if_neg HJ.out, if_neg (by rw [HE.out]; simp)] at this
                        rw [if_neg (by rw [hon]; simp), if_neg (by rw [hon, ← HRR.out]; simp only [Bool.false_eq_true, if_false]; rw [hl1]; simp), hon, hjb, ← HRR.out] at this
                        exact this
                      case measure => simp [intOf]; omega
                · as_aux_lemma =>
                  go_wp2_with (first | (go_at_call 58; refine (right_any _ _ _ _ _ _).mono ?_; rintro e w1 ⟨rfl, hb⟩; have Y1 := Yb.below (by assumption) hb; obtain ⟨y0, y1, y2, y3, y4, y5⟩ := And.intro Y1.y0 (And.intro Y1.y1 (And.intro Y1.y2 (And.intro Y1.y3 (And.intro Y1.y4 Y1.y5))))) | (go_at_call 59; refine (jumps_any _ _ _ _ _ _).mono ?_; rintro e w1 ⟨rfl, hb⟩; have Y1 := Yb.below (by assumption) hb; obtain ⟨y0, y1, y2, y3, y4, y5⟩ := And.intro Y1.y0 (And.intro Y1.y1 (And.intro Y1.y2 (And.intro Y1.y3 (And.intro Y1.y4 Y1.y5))))))
                  have hs1 := Y1.sz
                  have hki : (k : Int) < (n : Int) + 1 := by omega
                  have hki' : k < n + 1 := by omega
                  have Y2 := Y1.drew
                  go_region_held3 (fun X => X.cell? ⟨w.heap.size, k, none⟩ = some (.pointer (some ⟨q, 0, none⟩)) ∧ X.cell? ⟨q, 0, none⟩ = some (.int .i64 a.kind) ∧ X.cell? ⟨q, 1, none⟩ = some (.slice A' a.op.length c') ∧ X.cell? ⟨wr.heap.size, 0, none⟩ = some (.int .i64 op) ∧ X.cell? ⟨wr.heap.size, 1, none⟩ = some (.int .i64 kd) ∧ X.cell? ⟨wr.heap.size, 2, none⟩ = some (.int .i64 ar) ∧ X.cell? ⟨wr.heap.size, 3, none⟩ = some (.int .i64 at_) ∧ X.cell? ⟨wr.heap.size, 4, none⟩ = some (.int .i64 nn))
                    (exact Yb.s (by repeat (first | assumption | (with_reducible refine Yb.drew ?_) | (with_reducible refine Yb.alloc ?_ _) | (with_reducible refine Yb.set ?_ (by first | omega | (simp; omega)) _ _))))
                    (first | (go_at_call 60; (with_reducible refine (behind_box a.kind A' a.op.length c' op kd ar at_ nn a.op w1 rfl Q1.out Q2.out (HBR.out.below Y1.bel) H8.out).mono ?_); rintro e w' ⟨⟨A2, c2, rfl, hb, hbr2, q12, q22⟩, hbox⟩; have Y3 : Yb wr w.heap.size k q a A' c' op kd ar at_ nn w' := Yb.below (by repeat (first | assumption | (with_reducible refine Yb.drew ?_) | (with_reducible refine Yb.alloc ?_ _) | (with_reducible refine Yb.set ?_ (by first | omega | (simp; omega)) _ _))) hb; have hs3 := Y3.sz; have z0 : w'.cell? ⟨w1.heap.size, 0, none⟩ = some (.int .i64 0) := cell_of_heap hbox 0; have z1 : w'.cell? ⟨w1.heap.size, 1, none⟩ = some (.slice none 0 0) := cell_of_heap hbox 1; have z2 := frozen_of_heap hbox 0; have z3 := frozen_of_heap hbox 1; have hty : Typ w' w1.heap.size 114 := ⟨_, _, hbox⟩; clear hbox) | (go_at_call 60; refine (behind_any a.kind A' a.op.length c' op kd ar at_ nn a.op _ rfl Q1.out Q2.out (HBR.out.below (Yb.bel (tb := w.heap.size) (k := k) (q := q) (a := a) (A := A') (c := c') (op := op) (kd := kd) (ar := ar) (at_ := at_) (nn := nn) (by repeat (first | assumption | (with_reducible refine Yb.drew ?_) | (with_reducible refine Yb.alloc ?_ _) | (with_reducible refine Yb.set ?_ (by first | omega | (simp; omega)) _ _))))) H8.out).mono ?_; rintro e w' ⟨A2, c2, rfl, hb, hbr2, q12, q22⟩; have Y3 : Yb wr w.heap.size k q a A' c' op kd ar at_ nn w' := Yb.below (by repeat (first | assumption | (with_reducible refine Yb.drew ?_) | (with_reducible refine Yb.alloc ?_ _) | (with_reducible refine Yb.set ?_ (by first | omega | (simp; omega)) _ _))) hb; have hs3 := Y3.sz))
                  · go_wp2_with fail
                    have YW : Yb wr w.heap.size k q a A' c' op kd ar at_ nn (w'.alloc (.cells #[.int .i64 (behA ⟨op, kd, ar, at_, nn⟩ a).kind, .slice A2 (behA ⟨op, kd, ar, at_, nn⟩ a).op.length c2] 114)) := (by repeat (first | assumption | (with_reducible refine Yb.drew ?_) | (with_reducible refine Yb.alloc ?_ _) | (with_reducible refine Yb.set ?_ (by first | omega | (simp; omega)) _ _)))
                    have G0 : Gb wr w'.heap.size op kd ar at_ nn (behA ⟨op, kd, ar, at_, nn⟩ a) A2 c2 (w'.alloc (.cells #[.int .i64 (behA ⟨op, kd, ar, at_, nn⟩ a).kind, .slice A2 (behA ⟨op, kd, ar, at_, nn⟩ a).op.length c2] 114)) := ⟨YW.y0, YW.y1, YW.y2, YW.y3, YW.y4, by simp [go_sem], by simp [go_sem], hbr2.below ((Below.refl _ _).alloc (Nat.le_refl _) _), hs3, by simp⟩
                    have hbel0 := YW.bel
                    have q12' := q12
                    obtain ⟨r, hrr⟩ : ∃ r, r = (behA ⟨op, kd, ar, at_, nn⟩ a) := ⟨_, rfl⟩
                    have HRR := hid hrr
                    have hR8 : r.op.length ≤ 8 := by rw [hrr]; exact behA_len _ _ H8.out HE.out
                    have R8 := hid hR8
                    generalize w'.alloc (.cells #[.int .i64 (behA ⟨op, kd, ar, at_, nn⟩ a).kind, .slice A2 (behA ⟨op, kd, ar, at_, nn⟩ a).op.length c2] 114) = wc at *
                    rw [← hrr] at G0 q12
                    clear YW hb hbr2 Y0 Y1 Y2 Y3 hrr hR8 q12'
                    obtain ⟨y0, y1, y2, y3, y4, g0, g1⟩ := And.intro G0.y0 (And.intro G0.y1 (And.intro G0.y2 (And.intro G0.y3 (And.intro G0.y4 (And.intro G0.g0 G0.g1)))))
                    cases hl1 : leadB t (k + 1) r
                    · have hl1' : leadB t ((k : Int) + 1).toNat r = false := by rw [show ((k : Int) + 1).toNat = k + 1 by omega]; exact hl1
                      go_wp2_with (first | (go_at_call 61; refine (on_any _ _ _ _ _ _).mono ?_; rintro e w3 ⟨rfl, hb⟩; have G' := Gb.below (by assumption) hb; have hbel' := below_then' (w := wr) (by assumption) hb; obtain ⟨y0, y1, y2, y3, y4, g0, g1⟩ := And.intro G'.y0 (And.intro G'.y1 (And.intro G'.y2 (And.intro G'.y3 (And.intro G'.y4 (And.intro G'.g0 G'.g1)))))) | (go_at_call 62; refine (lead_at w.heap.size w.heap.size (n + 1) t p ((k : Int) + 1) A2 c2 r (n + 1) r.op.length _ (by omega) HT.out.symm rfl (by omega) (HREP.out.below (by assumption)) (Nat.le_trans (Nat.le_of_lt tlt) (Below.size (by assumption : Below wr.heap.size wr _))) (by rw [HT.out]; omega) (Gb.br (by assumption)) q12 q22 R8.out).mono ?_; rintro e w4 ⟨rfl, ho, p2, hr2⟩; have hra := HREP.out.below (by assumption : Below wr.heap.size wr w3); have G' := Gb.lead (by assumption) HREP.out hra ho; have hbel2 := HBW.out.trans (((by assumption : Below wr.heap.size wr w3).mono (Nat.le_of_lt tlt)).trans (hra.lead_below ho (Nat.le_trans (Nat.le_of_lt tlt) (Below.size (by assumption : Below wr.heap.size wr w3))))); have hsz2 : w.heap.size ≤ w4.heap.size := hbel2.size; obtain ⟨y0, y1, y2, y3, y4, g0, g1⟩ := And.intro G'.y0 (And.intro G'.y1 (And.intro G'.y2 (And.intro G'.y3 (And.intro G'.y4 (And.intro G'.g0 G'.g1)))))))
                      go_ret3
                      rw [HR.out, AllRet, ← HRUN.out, stepV, if_neg (by rw [hri]; simp), HG.out]
                      simp only
                      rw [if_neg HJ.out, if_neg (by rw [HE.out]; simp), if_pos ⟨hon, by rw [← HRR.out]; exact hl1⟩]
                      have hbw := HBW.out
                      exact ⟨rfl, hbel2⟩
                    · have hl1' : leadB t ((k : Int) + 1).toNat r = true := by rw [show ((k : Int) + 1).toNat = k + 1 by omega]; exact hl1
                      cases hl2 : leadB (leadT t (k + 1) r) at_.toNat r
                      · have hl2' : leadB (leadT t ((k : Int) + 1).toNat r) at_.toNat r = false := by rw [show ((k : Int) + 1).toNat = k + 1 by omega]; exact hl2
                        go_wp2_with (first | (go_at_call 61; refine (on_any _ _ _ _ _ _).mono ?_; rintro e w3 ⟨rfl, hb⟩; have G' := Gb.below (by assumption) hb; have hbel' := below_then' (w := wr) (by assumption) hb; obtain ⟨y0, y1, y2, y3, y4, g0, g1⟩ := And.intro G'.y0 (And.intro G'.y1 (And.intro G'.y2 (And.intro G'.y3 (And.intro G'.y4 (And.intro G'.g0 G'.g1)))))) | (go_at_call_of 62 (at_); refine (lead_at w.heap.size w.heap.size (n + 1) (leadT t ((k : Int) + 1).toNat r) p2 at_ A2 c2 r (n + 1) r.op.length _ (by omega) (by rw [leadT_length]; exact HT.out.symm) rfl (by omega) hr3 hsz3 (by rw [leadT_length, HT.out]; omega) (Gb.br (by assumption)) q12 q22 R8.out).mono ?_; rintro e w5 ⟨rfl, ho5, p5, hr5⟩; have hbel5 := hbel2'.trans (hr3.lead_below ho5 hsz3)) | (go_at_call 62; refine (lead_at w.heap.size w.heap.size (n + 1) t p ((k : Int) + 1) A2 c2 r (n + 1) r.op.length _ (by omega) HT.out.symm rfl (by omega) (HREP.out.below (by assumption)) (Nat.le_trans (Nat.le_of_lt tlt) (Below.size (by assumption : Below wr.heap.size wr _))) (by rw [HT.out]; omega) (Gb.br (by assumption)) q12 q22 R8.out).mono ?_; rintro e w4 ⟨rfl, ho, p2, hr2⟩; have hra := HREP.out.below (by assumption : Below wr.heap.size wr w3); have G' := Gb.lead (by assumption) HREP.out hra ho; have hbel2 := HBW.out.trans (((by assumption : Below wr.heap.size wr w3).mono (Nat.le_of_lt tlt)).trans (hra.lead_below ho (Nat.le_trans (Nat.le_of_lt tlt) (Below.size (by assumption : Below wr.heap.size wr w3))))); have hsz2 : w.heap.size ≤ w4.heap.size := hbel2.size; obtain ⟨y0, y1, y2, y3, y4, g0, g1⟩ := And.intro G'.y0 (And.intro G'.y1 (And.intro G'.y2 (And.intro G'.y3 (And.intro G'.y4 (And.intro G'.g0 G'.g1)))))) | (go_at_call 59; refine (jumps_any _ _ _ _ _ _).mono ?_; rintro e w3 ⟨rfl, hb⟩; have G' := Gb.below (by assumption) hb; have hbel2' := hbel2.trans (hb.mono hsz2); have hr3 := hr2.below hb; have hsz3 : w.heap.size ≤ w3.heap.size := Nat.le_trans hsz2 hb.size; obtain ⟨y0, y1, y2, y3, y4, g0, g1⟩ := And.intro G'.y0 (And.intro G'.y1 (And.intro G'.y2 (And.intro G'.y3 (And.intro G'.y4 (And.intro G'.g0 G'.g1)))))))
                        go_ret3
                        rw [HR.out, AllRet, ← HRUN.out, stepV, if_neg (by rw [hri]; simp), HG.out]
                        simp only
                        rw [if_neg HJ.out, if_neg (by rw [HE.out]; simp), if_neg (by rw [← HRR.out, hl1]; simp), if_pos ⟨hjb, by rw [hon, ← HRR.out, if_pos rfl]; exact hl2⟩]
                        have hbw := HBW.out
                        exact ⟨rfl, hbel5⟩
                      · have hl2' : leadB (leadT t ((k : Int) + 1).toNat r) at_.toNat r = true := by rw [show ((k : Int) + 1).toNat = k + 1 by omega]; exact hl2
                        go_wp2_with (first | (go_at_call 61; refine (on_any _ _ _ _ _ _).mono ?_; rintro e w3 ⟨rfl, hb⟩; have G' := Gb.below (by assumption) hb; have hbel' := below_then' (w := wr) (by assumption) hb; obtain ⟨y0, y1, y2, y3, y4, g0, g1⟩ := And.intro G'.y0 (And.intro G'.y1 (And.intro G'.y2 (And.intro G'.y3 (And.intro G'.y4 (And.intro G'.g0 G'.g1)))))) | (go_at_call_of 62 (at_); refine (lead_at w.heap.size w.heap.size (n + 1) (leadT t ((k : Int) + 1).toNat r) p2 at_ A2 c2 r (n + 1) r.op.length _ (by omega) (by rw [leadT_length]; exact HT.out.symm) rfl (by omega) hr3 hsz3 (by rw [leadT_length, HT.out]; omega) (Gb.br (by assumption)) q12 q22 R8.out).mono ?_; rintro e w5 ⟨rfl, ho5, p5, hr5⟩; have hbel5 := hbel2'.trans (hr3.lead_below ho5 hsz3)) | (go_at_call 62; refine (lead_at w.heap.size w.heap.size (n + 1) t p ((k : Int) + 1) A2 c2 r (n + 1) r.op.length _ (by omega) HT.out.symm rfl (by omega) (HREP.out.below (by assumption)) (Nat.le_trans (Nat.le_of_lt tlt) (Below.size (by assumption : Below wr.heap.size wr _))) (by rw [HT.out]; omega) (Gb.br (by assumption)) q12 q22 R8.out).mono ?_; rintro e w4 ⟨rfl, ho, p2, hr2⟩; have hra := HREP.out.below (by assumption : Below wr.heap.size wr w3); have G' := Gb.lead (by assumption) HREP.out hra ho; have hbel2 := HBW.out.trans (((by assumption : Below wr.heap.size wr w3).mono (Nat.le_of_lt tlt)).trans (hra.lead_below ho (Nat.le_trans (Nat.le_of_lt tlt) (Below.size (by assumption : Below wr.heap.size wr w3))))); have hsz2 : w.heap.size ≤ w4.heap.size := hbel2.size; obtain ⟨y0, y1, y2, y3, y4, g0, g1⟩ := And.intro G'.y0 (And.intro G'.y1 (And.intro G'.y2 (And.intro G'.y3 (And.intro G'.y4 (And.intro G'.g0 G'.g1)))))) | (go_at_call 59; refine (jumps_any _ _ _ _ _ _).mono ?_; rintro e w3 ⟨rfl, hb⟩; have G' := Gb.below (by assumption) hb; have hbel2' := hbel2.trans (hb.mono hsz2); have hr3 := hr2.below hb; have hsz3 : w.heap.size ≤ w3.heap.size := Nat.le_trans hsz2 hb.size; obtain ⟨y0, y1, y2, y3, y4, g0, g1⟩ := And.intro G'.y0 (And.intro G'.y1 (And.intro G'.y2 (And.intro G'.y3 (And.intro G'.y4 (And.intro G'.g0 G'.g1)))))))
                        go_roundw
                        case rel =>
                          refine ⟨k + 1, _, _, by omega, by go_num, hr5, by rw [leadT_length, leadT_length]; exact HT.out, hbel5, ?_⟩
                          have this := HRUN.out
                          rw [stepV, if_neg (by rw [hri]; simp), HG.out] at this
                          simp only at this
                          rw [if_neg HJ.out, if_neg (by rw [HE.out]; simp)] at this
                          rw [if_neg (by rw [← HRR.out, hl1]; simp), if_neg (by rw [hon, ← HRR.out, if_pos rfl, hl2]; simp), hon, hjb, ← HRR.out] at this
                          simp only [if_true] at this
                          rw [show ((k : Int) + 1).toNat = k + 1 by omega]
                          exact this
                        case measure => simp [intOf]; omega
                  · go_wp2_with fail
                    have YW : Yb wr w.heap.size k q a A' c' op kd ar at_ nn ((w'.setCell ⟨w1.heap.size, 0, none⟩ (.int .i64 (behA ⟨op, kd, ar, at_, nn⟩ a).kind)).setCell ⟨w1.heap.size, 1, none⟩ (.slice A2 (behA ⟨op, kd, ar, at_, nn⟩ a).op.length c2)) := (by repeat (first | assumption | (with_reducible refine Yb.drew ?_) | (with_reducible refine Yb.alloc ?_ _) | (with_reducible refine Yb.set ?_ (by first | omega | (simp; omega)) _ _)))
                    have G0 : Gb wr w1.heap.size op kd ar at_ nn (behA ⟨op, kd, ar, at_, nn⟩ a) A2 c2 ((w'.setCell ⟨w1.heap.size, 0, none⟩ (.int .i64 (behA ⟨op, kd, ar, at_, nn⟩ a).kind)).setCell ⟨w1.heap.size, 1, none⟩ (.slice A2 (behA ⟨op, kd, ar, at_, nn⟩ a).op.length c2)) := ⟨YW.y0, YW.y1, YW.y2, YW.y3, YW.y4, (World.cell?_setCell_other _ _ _ _ (by simp)).trans (World.cell?_setCell_same _ _ _ z0), World.cell?_setCell_same _ _ _ ((World.cell?_setCell_other _ _ _ _ (by simp)).trans z1), (hbr2.setCell hty (by decide) _ _).setCell (hty.setCell _ _) (by decide) _ _, hs1, by simp; exact hty.lt⟩
                    have hbel0 := YW.bel
                    have q12' := q12
                    obtain ⟨r, hrr⟩ : ∃ r, r = (behA ⟨op, kd, ar, at_, nn⟩ a) := ⟨_, rfl⟩
                    have HRR := hid hrr
                    have hR8 : r.op.length ≤ 8 := by rw [hrr]; exact behA_len _ _ H8.out HE.out
                    have R8 := hid hR8
                    generalize (w'.setCell ⟨w1.heap.size, 0, none⟩ (.int .i64 (behA ⟨op, kd, ar, at_, nn⟩ a).kind)).setCell ⟨w1.heap.size, 1, none⟩ (.slice A2 (behA ⟨op, kd, ar, at_, nn⟩ a).op.length c2) = wc at *
                    rw [← hrr] at G0 q12
                    clear YW hb hbr2 Y0 Y1 Y2 Y3 hrr hR8 q12'
                    obtain ⟨y0, y1, y2, y3, y4, g0, g1⟩ := And.intro G0.y0 (And.intro G0.y1 (And.intro G0.y2 (And.intro G0.y3 (And.intro G0.y4 (And.intro G0.g0 G0.g1)))))
                    cases hl1 : leadB t (k + 1) r
                    · have hl1' : leadB t ((k : Int) + 1).toNat r = false := by rw [show ((k : Int) + 1).toNat = k + 1 by omega]; exact hl1
                      go_wp2_with (first | (go_at_call 61; refine (on_any _ _ _ _ _ _).mono ?_; rintro e w3 ⟨rfl, hb⟩; have G' := Gb.below (by assumption) hb; have hbel' := below_then' (w := wr) (by assumption) hb; obtain ⟨y0, y1, y2, y3, y4, g0, g1⟩ := And.intro G'.y0 (And.intro G'.y1 (And.intro G'.y2 (And.intro G'.y3 (And.intro G'.y4 (And.intro G'.g0 G'.g1)))))) | (go_at_call 62; refine (lead_at w.heap.size w.heap.size (n + 1) t p ((k : Int) + 1) A2 c2 r (n + 1) r.op.length _ (by omega) HT.out.symm rfl (by omega) (HREP.out.below (by assumption)) (Nat.le_trans (Nat.le_of_lt tlt) (Below.size (by assumption : Below wr.heap.size wr _))) (by rw [HT.out]; omega) (Gb.br (by assumption)) q12 q22 R8.out).mono ?_; rintro e w4 ⟨rfl, ho, p2, hr2⟩; have hra := HREP.out.below (by assumption : Below wr.heap.size wr w3); have G' := Gb.lead (by assumption) HREP.out hra ho; have hbel2 := HBW.out.trans (((by assumption : Below wr.heap.size wr w3).mono (Nat.le_of_lt tlt)).trans (hra.lead_below ho (Nat.le_trans (Nat.le_of_lt tlt) (Below.size (by assumption : Below wr.heap.size wr w3))))); have hsz2 : w.heap.size ≤ w4.heap.size := hbel2.size; obtain ⟨y0, y1, y2, y3, y4, g0, g1⟩ := And.intro G'.y0 (And.intro G'.y1 (And.intro G'.y2 (And.intro G'.y3 (And.intro G'.y4 (And.intro G'.g0 G'.g1)))))))
                      go_ret3
                      rw [HR.out, AllRet, ← HRUN.out, stepV, if_neg (by rw [hri]; simp), HG.out]
                      simp only
                      rw [if_neg HJ.out, if_neg (by rw [HE.out]; simp), if_pos ⟨hon, by rw [← HRR.out]; exact hl1⟩]
                      have hbw := HBW.out
                      exact ⟨rfl, hbel2⟩
                    · have hl1' : leadB t ((k : Int) + 1).toNat r = true := by rw [show ((k : Int) + 1).toNat = k + 1 by omega]; exact hl1
                      cases hl2 : leadB (leadT t (k + 1) r) at_.toNat r
                      · have hl2' : leadB (leadT t ((k : Int) + 1).toNat r) at_.toNat r = false := by rw [show ((k : Int) + 1).toNat = k + 1 by omega]; exact hl2
                        go_wp2_with (first | (go_at_call 61; refine (on_any _ _ _ _ _ _).mono ?_; rintro e w3 ⟨rfl, hb⟩; have G' := Gb.below (by assumption) hb; have hbel' := below_then' (w := wr) (by assumption) hb; obtain ⟨y0, y1, y2, y3, y4, g0, g1⟩ := And.intro G'.y0 (And.intro G'.y1 (And.intro G'.y2 (And.intro G'.y3 (And.intro G'.y4 (And.intro G'.g0 G'.g1)))))) | (go_at_call_of 62 (at_); refine (lead_at w.heap.size w.heap.size (n + 1) (leadT t ((k : Int) + 1).toNat r) p2 at_ A2 c2 r (n + 1) r.op.length _ (by omega) (by rw [leadT_length]; exact HT.out.symm) rfl (by omega) hr3 hsz3 (by rw [leadT_length, HT.out]; omega) (Gb.br (by assumption)) q12 q22 R8.out).mono ?_; rintro e w5 ⟨rfl, ho5, p5, hr5⟩; have hbel5 := hbel2'.trans (hr3.lead_below ho5 hsz3)) | (go_at_call 62; refine (lead_at w.heap.size w.heap.size (n + 1) t p ((k : Int) + 1) A2 c2 r (n + 1) r.op.length _ (by omega) HT.out.symm rfl (by omega) (HREP.out.below (by assumption)) (Nat.le_trans (Nat.le_of_lt tlt) (Below.size (by assumption : Below wr.heap.size wr _))) (by rw [HT.out]; omega) (Gb.br (by assumption)) q12 q22 R8.out).mono ?_; rintro e w4 ⟨rfl, ho, p2, hr2⟩; have hra := HREP.out.below (by assumption : Below wr.heap.size wr w3); have G' := Gb.lead (by assumption) HREP.out hra ho; have hbel2 := HBW.out.trans (((by assumption : Below wr.heap.size wr w3).mono (Nat.le_of_lt tlt)).trans (hra.lead_below ho (Nat.le_trans (Nat.le_of_lt tlt) (Below.size (by assumption : Below wr.heap.size wr w3))))); have hsz2 : w.heap.size ≤ w4.heap.size := hbel2.size; obtain ⟨y0, y1, y2, y3, y4, g0, g1⟩ := And.intro G'.y0 (And.intro G'.y1 (And.intro G'.y2 (And.intro G'.y3 (And.intro G'.y4 (And.intro G'.g0 G'.g1)))))) | (go_at_call 59; refine (jumps_any _ _ _ _ _ _).mono ?_; rintro e w3 ⟨rfl, hb⟩; have G' := Gb.below (by assumption) hb; have hbel2' := hbel2.trans (hb.mono hsz2); have hr3 := hr2.below hb; have hsz3 : w.heap.size ≤ w3.heap.size := Nat.le_trans hsz2 hb.size; obtain ⟨y0, y1, y2, y3, y4, g0, g1⟩ := And.intro G'.y0 (And.intro G'.y1 (And.intro G'.y2 (And.intro G'.y3 (And.intro G'.y4 (And.intro G'.g0 G'.g1)))))))
                        go_ret3
                        rw [HR.out, AllRet, ← HRUN.out, stepV, if_neg (by rw [hri]; simp), HG.out]
                        simp only
                        rw [if_neg HJ.out, if_neg (by rw [HE.out]; simp), if_neg (by rw [← HRR.out, hl1]; simp), if_pos ⟨hjb, by rw [hon, ← HRR.out, if_pos rfl]; exact hl2⟩]
                        have hbw := HBW.out
                        exact ⟨rfl, hbel5⟩
                      · have hl2' : leadB (leadT t ((k : Int) + 1).toNat r) at_.toNat r = true := by rw [show ((k : Int) + 1).toNat = k + 1 by omega]; exact hl2
                        go_wp2_with (first | (go_at_call 61; refine (on_any _ _ _ _ _ _).mono ?_; rintro e w3 ⟨rfl, hb⟩; have G' := Gb.below (by assumption) hb; have hbel' := below_then' (w := wr) (by assumption) hb; obtain ⟨y0, y1, y2, y3, y4, g0, g1⟩ := And.intro G'.y0 (And.intro G'.y1 (And.intro G'.y2 (And.intro G'.y3 (And.intro G'.y4 (And.intro G'.g0 G'.g1)))))) | (go_at_call_of 62 (at_); refine (lead_at w.heap.size w.heap.size (n + 1) (leadT t ((k : Int) + 1).toNat r) p2 at_ A2 c2 r (n + 1) r.op.length _ (by omega) (by rw [leadT_length]; exact HT.out.symm) rfl (by omega) hr3 hsz3 (by rw [leadT_length, HT.out]; omega) (Gb.br (by assumption)) q12 q22 R8.out).mono ?_; rintro e w5 ⟨rfl, ho5, p5, hr5⟩; have hbel5 := hbel2'.trans (hr3.lead_below ho5 hsz3)) | (go_at_call 62; refine (lead_at w.heap.size w.heap.size (n + 1) t p ((k : Int) + 1) A2 c2 r (n + 1) r.op.length _ (by omega) HT.out.symm rfl (by omega) (HREP.out.below (by assumption)) (Nat.le_trans (Nat.le_of_lt tlt) (Below.size (by assumption : Below wr.heap.size wr _))) (by rw [HT.out]; omega) (Gb.br (by assumption)) q12 q22 R8.out).mono ?_; rintro e w4 ⟨rfl, ho, p2, hr2⟩; have hra := HREP.out.below (by assumption : Below wr.heap.size wr w3); have G' := Gb.lead (by assumption) HREP.out hra ho; have hbel2 := HBW.out.trans (((by assumption : Below wr.heap.size wr w3).mono (Nat.le_of_lt tlt)).trans (hra.lead_below ho (Nat.le_trans (Nat.le_of_lt tlt) (Below.size (by assumption : Below wr.heap.size wr w3))))); have hsz2 : w.heap.size ≤ w4.heap.size := hbel2.size; obtain ⟨y0, y1, y2, y3, y4, g0, g1⟩ := And.intro G'.y0 (And.intro G'.y1 (And.intro G'.y2 (And.intro G'.y3 (And.intro G'.y4 (And.intro G'.g0 G'.g1)))))) | (go_at_call 59; refine (jumps_any _ _ _ _ _ _).mono ?_; rintro e w3 ⟨rfl, hb⟩; have G' := Gb.below (by assumption) hb; have hbel2' := hbel2.trans (hb.mono hsz2); have hr3 := hr2.below hb; have hsz3 : w.heap.size ≤ w3.heap.size := Nat.le_trans hsz2 hb.size; obtain ⟨y0, y1, y2, y3, y4, g0, g1⟩ := And.intro G'.y0 (And.intro G'.y1 (And.intro G'.y2 (And.intro G'.y3 (And.intro G'.y4 (And.intro G'.g0 G'.g1)))))))
                        go_roundw
                        case rel =>
                          refine ⟨k + 1, _, _, by omega, by go_num, hr5, by rw [leadT_length, leadT_length]; exact HT.out, hbel5, ?_⟩
                          have this := HRUN.out
                          rw [stepV, if_neg (by rw [hri]; simp), HG.out] at this
                          simp only at this
                          rw [if_neg HJ.out, if_neg (by rw [HE.out]; simp)] at this
                          rw [if_neg (by rw [← HRR.out, hl1]; simp), if_neg (by rw [hon, ← HRR.out, if_pos rfl, hl2]; simp), hon, hjb, ← HRR.out] at this
                          simp only [if_true] at this
                          rw [show ((k : Int) + 1).toNat = k + 1 by omega]
                          exact this
                        case measure => simp [intOf]; omega
            · have he0 : (behE ⟨op, kd, ar, at_, nn⟩ a != 0) = true := by simp [he]
              have HE := hid he
              clear he
              cases hjb : jumpsB op
              · go_wp2_with (first | (go_at_call 58; refine (right_any _ _ _ _ _ _).mono ?_; rintro e w1 ⟨rfl, hb⟩; have Y1 := Yb.below (by assumption) hb; obtain ⟨y0, y1, y2, y3, y4, y5⟩ := And.intro Y1.y0 (And.intro Y1.y1 (And.intro Y1.y2 (And.intro Y1.y3 (And.intro Y1.y4 Y1.y5))))) | (go_at_call 59; refine (jumps_any _ _ _ _ _ _).mono ?_; rintro e w1 ⟨rfl, hb⟩; have Y1 := Yb.below (by assumption) hb; obtain ⟨y0, y1, y2, y3, y4, y5⟩ := And.intro Y1.y0 (And.intro Y1.y1 (And.intro Y1.y2 (And.intro Y1.y3 (And.intro Y1.y4 Y1.y5))))))
                have hs1 := Y1.sz
                have hki : (k : Int) < (n : Int) + 1 := by omega
                have hki' : k < n + 1 := by omega
                have Y2 := Y1.drew
                go_region_held3 (fun X => X.cell? ⟨w.heap.size, k, none⟩ = some (.pointer (some ⟨q, 0, none⟩)) ∧ X.cell? ⟨q, 0, none⟩ = some (.int .i64 a.kind) ∧ X.cell? ⟨q, 1, none⟩ = some (.slice A' a.op.length c') ∧ X.cell? ⟨wr.heap.size, 0, none⟩ = some (.int .i64 op) ∧ X.cell? ⟨wr.heap.size, 1, none⟩ = some (.int .i64 kd) ∧ X.cell? ⟨wr.heap.size, 2, none⟩ = some (.int .i64 ar) ∧ X.cell? ⟨wr.heap.size, 3, none⟩ = some (.int .i64 at_) ∧ X.cell? ⟨wr.heap.size, 4, none⟩ = some (.int .i64 nn))
                  (exact Yb.s (by repeat (first | assumption | (with_reducible refine Yb.drew ?_) | (with_reducible refine Yb.alloc ?_ _) | (with_reducible refine Yb.set ?_ (by first | omega | (simp; omega)) _ _))))
                  (first | (go_at_call 60; (with_reducible refine (behind_box a.kind A' a.op.length c' op kd ar at_ nn a.op w1 rfl Q1.out Q2.out (HBR.out.below Y1.bel) H8.out).mono ?_); rintro e w' ⟨⟨A2, c2, rfl, hb, hbr2, q12, q22⟩, hbox⟩; have Y3 : Yb wr w.heap.size k q a A' c' op kd ar at_ nn w' := Yb.below (by repeat (first | assumption | (with_reducible refine Yb.drew ?_) | (with_reducible refine Yb.alloc ?_ _) | (with_reducible refine Yb.set ?_ (by first | omega | (simp; omega)) _ _))) hb; have hs3 := Y3.sz; have z0 : w'.cell? ⟨w1.heap.size, 0, none⟩ = some (.int .i64 0) := cell_of_heap hbox 0; have z1 : w'.cell? ⟨w1.heap.size, 1, none⟩ = some (.slice none 0 0) := cell_of_heap hbox 1; have z2 := frozen_of_heap hbox 0; have z3 := frozen_of_heap hbox 1; have hty : Typ w' w1.heap.size 114 := ⟨_, _, hbox⟩; clear hbox) | (go_at_call 60; refine (behind_any a.kind A' a.op.length c' op kd ar at_ nn a.op _ rfl Q1.out Q2.out (HBR.out.below (Yb.bel (tb := w.heap.size) (k := k) (q := q) (a := a) (A := A') (c := c') (op := op) (kd := kd) (ar := ar) (at_ := at_) (nn := nn) (by repeat (first | assumption | (with_reducible refine Yb.drew ?_) | (with_reducible refine Yb.alloc ?_ _) | (with_reducible refine Yb.set ?_ (by first | omega | (simp; omega)) _ _))))) H8.out).mono ?_; rintro e w' ⟨A2, c2, rfl, hb, hbr2, q12, q22⟩; have Y3 : Yb wr w.heap.size k q a A' c' op kd ar at_ nn w' := Yb.below (by repeat (first | assumption | (with_reducible refine Yb.drew ?_) | (with_reducible refine Yb.alloc ?_ _) | (with_reducible refine Yb.set ?_ (by first | omega | (simp; omega)) _ _))) hb; have hs3 := Y3.sz))
                all_goals
                  go_wp2
                  go_ret3
                  rw [HR.out, AllRet, ← HRUN.out, stepV, if_neg (by rw [hri]; simp), HG.out]
                  simp only
                  rw [if_neg HJ.out, if_pos HE.out]
                  refine ⟨rfl, HBW.out.trans (Below.mono ?_ (Nat.le_of_lt tlt))⟩
                  exact Yb.bel (tb := w.heap.size) (k := k) (q := q) (a := a) (A := A') (c := c') (op := op) (kd := kd) (ar := ar) (at_ := at_) (nn := nn) (by repeat (first | assumption | (with_reducible refine Yb.drew ?_) | (with_reducible refine Yb.alloc ?_ _) | (with_reducible refine Yb.set ?_ (by first | omega | (simp; omega)) _ _)))
              · have a1 : (k : Int) < at_ := by have := HJ.out; rw [hjb] at this; simp at this; omega
                have a2 : at_ ≤ (n : Int) := by have := HJ.out; rw [hjb] at this; simp at this; omega
                have a4 : decide ((n : Int) < at_) = false := by simp; omega
                have a5 : decide (at_ ≤ (k : Int)) = false := by simp; omega
                go_wp2_with (first | (go_at_call 58; refine (right_any _ _ _ _ _ _).mono ?_; rintro e w1 ⟨rfl, hb⟩; have Y1 := Yb.below (by assumption) hb; obtain ⟨y0, y1, y2, y3, y4, y5⟩ := And.intro Y1.y0 (And.intro Y1.y1 (And.intro Y1.y2 (And.intro Y1.y3 (And.intro Y1.y4 Y1.y5))))) | (go_at_call 59; refine (jumps_any _ _ _ _ _ _).mono ?_; rintro e w1 ⟨rfl, hb⟩; have Y1 := Yb.below (by assumption) hb; obtain ⟨y0, y1, y2, y3, y4, y5⟩ := And.intro Y1.y0 (And.intro Y1.y1 (And.intro Y1.y2 (And.intro Y1.y3 (And.intro Y1.y4 Y1.y5))))))
                have hs1 := Y1.sz
                have hki : (k : Int) < (n : Int) + 1 := by omega
                have hki' : k < n + 1 := by omega
                have Y2 := Y1.drew
                go_region_held3 (fun X => X.cell? ⟨w.heap.size, k, none⟩ = some (.pointer (some ⟨q, 0, none⟩)) ∧ X.cell? ⟨q, 0, none⟩ = some (.int .i64 a.kind) ∧ X.cell? ⟨q, 1, none⟩ = some (.slice A' a.op.length c') ∧ X.cell? ⟨wr.heap.size, 0, none⟩ = some (.int .i64 op) ∧ X.cell? ⟨wr.heap.size, 1, none⟩ = some (.int .i64 kd) ∧ X.cell? ⟨wr.heap.size, 2, none⟩ = some (.int .i64 ar) ∧ X.cell? ⟨wr.heap.size, 3, none⟩ = some (.int .i64 at_) ∧ X.cell? ⟨wr.heap.size, 4, none⟩ = some (.int .i64 nn))
                  (exact Yb.s (by repeat (first | assumption | (with_reducible refine Yb.drew ?_) | (with_reducible refine Yb.alloc ?_ _) | (with_reducible refine Yb.set ?_ (by first | omega | (simp; omega)) _ _))))
                  (first | (go_at_call 60; (with_reducible refine (behind_box a.kind A' a.op.length c' op kd ar at_ nn a.op w1 rfl Q1.out Q2.out (HBR.out.below Y1.bel) H8.out).mono ?_); rintro e w' ⟨⟨A2, c2, rfl, hb, hbr2, q12, q22⟩, hbox⟩; have Y3 : Yb wr w.heap.size k q a A' c' op kd ar at_ nn w' := Yb.below (by repeat (first | assumption | (with_reducible refine Yb.drew ?_) | (with_reducible refine Yb.alloc ?_ _) | (with_reducible refine Yb.set ?_ (by first | omega | (simp; omega)) _ _))) hb; have hs3 := Y3.sz; have z0 : w'.cell? ⟨w1.heap.size, 0, none⟩ = some (.int .i64 0) := cell_of_heap hbox 0; have z1 : w'.cell? ⟨w1.heap.size, 1, none⟩ = some (.slice none 0 0) := cell_of_heap hbox 1; have z2 := frozen_of_heap hbox 0; have z3 := frozen_of_heap hbox 1; have hty : Typ w' w1.heap.size 114 := ⟨_, _, hbox⟩; clear hbox) | (go_at_call 60; refine (behind_any a.kind A' a.op.length c' op kd ar at_ nn a.op _ rfl Q1.out Q2.out (HBR.out.below (Yb.bel (tb := w.heap.size) (k := k) (q := q) (a := a) (A := A') (c := c') (op := op) (kd := kd) (ar := ar) (at_ := at_) (nn := nn) (by repeat (first | assumption | (with_reducible refine Yb.drew ?_) | (with_reducible refine Yb.alloc ?_ _) | (with_reducible refine Yb.set ?_ (by first | omega | (simp; omega)) _ _))))) H8.out).mono ?_; rintro e w' ⟨A2, c2, rfl, hb, hbr2, q12, q22⟩; have Y3 : Yb wr w.heap.size k q a A' c' op kd ar at_ nn w' := Yb.below (by repeat (first | assumption | (with_reducible refine Yb.drew ?_) | (with_reducible refine Yb.alloc ?_ _) | (with_reducible refine Yb.set ?_ (by first | omega | (simp; omega)) _ _))) hb; have hs3 := Y3.sz))
                all_goals
                  go_wp2
                  go_ret3
                  rw [HR.out, AllRet, ← HRUN.out, stepV, if_neg (by rw [hri]; simp), HG.out]
                  simp only
                  rw [if_neg HJ.out, if_pos HE.out]
                  refine ⟨rfl, HBW.out.trans (Below.mono ?_ (Nat.le_of_lt tlt))⟩
                  exact Yb.bel (tb := w.heap.size) (k := k) (q := q) (a := a) (A := A') (c := c') (op := op) (kd := kd) (ar := ar) (at_ := at_) (nn := nn) (by repeat (first | assumption | (with_reducible refine Yb.drew ?_) | (with_reducible refine Yb.alloc ?_ _) | (with_reducible refine Yb.set ?_ (by first | omega | (simp; omega)) _ _)))
    · have hkn : k = n := by omega
      have hdrop : code.drop k = [] := List.drop_eq_nil_of_le (by rw [← HN.out]; omega)
      rw [hdrop] at hrun
      simp only [runV] at hrun
      subst hkn
      have HRUN := hid hrun
      have HBW := hid hbw
      have HREP := hid hr
      have HT := hid ht
      clear hrun hbw hr ht hdrop
      obtain ⟨x, hx⟩ : ∃ x, t[k]? = some x := ⟨_, List.getElem?_eq_getElem (by rw [HT.out]; omega)⟩
      have hgd : t.getD k none = x := by rw [List.getD_eq_getElem?_getD, hx]; rfl
      obtain ⟨tlt, tc, tf⟩ := HREP.out.cell k x hx
      have hki' : k < k + 1 := by omega
      cases x with
      | none =>
        simp only [ptrA] at tc
        have HG := hid hgd
        clear hx hgd
        go_wp2
        go_ret3
        have e : verifyV code = .ok t := by rw [← HRUN.out, endV, HG.out]
        rw [HR.out, AllRet, e]
        exact ⟨_, p, by rw [← HN.out]; rfl, HREP.out, by rw [← HN.out]; exact HT.out, HBW.out⟩
      | some a =>
        obtain ⟨A', c', hA', hbr', q1, q2⟩ := HREP.out.ent k a hx
        have h8 := HREP.out.b8 k a hx
        have plt := heap_lt hA'
        have pc1 : wr.cell? ⟨p k, 1, none⟩ = some (.slice A' a.op.length c') := by rw [cell_of_heap hA']; rfl
        simp only [ptrA] at tc
        generalize p k = q at *
        have HG := hid hgd
        clear hx hgd hbr' hA'
        by_cases h0 : a.op = []
        · have hl : a.op.length = 0 := by rw [h0]; rfl
          have e : verifyV code = .ok t := by rw [← HRUN.out, endV, HG.out]; simp only; rw [if_pos h0]
          have HE := hid e
          clear e h0
          rw [hl] at pc1
          clear hl h8 q1
          go_wp2
          go_ret3
          rw [HR.out, AllRet, HE.out]
          exact ⟨_, p, by rw [← HN.out]; rfl, HREP.out, by rw [← HN.out]; exact HT.out, HBW.out⟩
        · have hl : 0 < a.op.length := List.length_pos_iff.2 h0
          have e : verifyV code = .error (3, k) := by rw [← HRUN.out, endV, HG.out]; simp only; rw [if_neg h0]
          have HE := hid e
          clear e h0
          go_wp2
          go_ret3
          rw [HR.out, AllRet, HE.out]
          exact ⟨rfl, HBW.out⟩
theorem all_any (A : Option Addr) (n c : Nat) (code : List Ins) (w : World) (hn : n = code.length) (hmax : n ≤ 9223372036854775807) (hc : InsAt w A code) :
    Calls Try.prog 38 #[.slice A n c] w (AllRet w code) := by
  by_cases h : 200 < n
  · exact all_long A n c code w hn hmax h
  · exact all_short A n c code w hn (by omega) hc
end Go.Proofs.Ytkhnalboodkddaa
