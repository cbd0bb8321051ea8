import Derived.Test.YtkhnalboodkddaaVer2
set_option linter.unusedSimpArgs false
set_option linter.unusedVariables false
set_option maxRecDepth 100000
namespace Go.Proofs.Ytkhnalboodkddaa
open Go.RowKit
set_option maxHeartbeats 1000000 in
theorem push_2 (kind op : Int) (A : Option Addr) (c : Nat) (w : World) (l : List Br) (hc1 : l.length ≤ c) (hc2 : c ≤ 9223372036854775807) (hb : BrAt w A l) (hl : l.length < 8) (hm : mayK op kind = true) :
    Calls Try.prog 99 #[.agg #[.int .i64 kind, .slice A l.length c], .int .i64 op] w fun e w' => ∃ A' c', e = .returned (.tuple #[.agg #[.int .i64 0, .slice A' (l.length + 1) c'], .int .i64 0]) ∧ Below w.heap.size w w' ∧ BrAt w' A' (l ++ [(op, kind)]) ∧ l.length + 1 ≤ c' ∧ c' ≤ 9223372036854775807 := by
  have h8 : ((l.length : Int) == 8) = false := by simp; omega
  have hnone : A = none → l.length = 0 ∧ l.length = 0 := by
    intro e
    by_cases h : l = []
    · subst h; simp
    · obtain ⟨b, cs, fr, e', _⟩ := hb h
      rw [e] at e'; cases e'
  obtain ⟨i0, hi, hz0, hz1, hz2⟩ := info_parts info_br
  have HI := hid hi
  have HZ := hid (And.intro hz0 (And.intro hz1 hz2))
  have HN := hid hnone
  have HB := hid hb
  clear hi hz0 hz1 hz2 hnone hb
  obtain ⟨n, hn⟩ : ∃ n, n = l.length := ⟨_, rfl⟩
  rw [← hn] at hc1 hl h8 ⊢
  have HL := hid hn
  clear hn
  go_enter Try.func99, Try.ntmps99
  go_wp2_with (first | (go_at_call 85; refine (may_any _ _ _).mono ?_; rintro e w1 ⟨rfl, hb⟩; have hbc := (bcell hb).1; have hbf := (bcell hb).2; try simp only [World.size_alloc, World.size_setCell] at hbc hbf; try (have hlt : w.heap.size < w1.heap.size := by (have hsz := hb.size; simp only [World.size_alloc, World.size_setCell] at hsz; omega))))
  have hB1 : Below w.heap.size w w1 := (by repeat (first | exact Below.refl _ _ | assumption | (with_reducible refine below_alloc' ?_ _) | (with_reducible refine below_drew' ?_) | (with_reducible refine below_drewN' ?_ _) | (with_reducible refine below_setCell' ?_ (by first | omega | (simp; omega) | (simp; done)) _) | (refine below_then' ?_ (by assumption))))
  have g0 : w1.cell? ⟨w.heap.size, 0, none⟩ = some (.int .i64 kind) := by rw [hbc _ _ (by omega)]; simp [go_sem]
  have g1 : w1.cell? ⟨w.heap.size, 1, none⟩ = some (.slice A n c) := by rw [hbc _ _ (by omega)]; simp [go_sem]
  have g2 : w1.cell? ⟨w.heap.size + 1, 0, none⟩ = some (.int .i64 0) := by rw [hbc _ _ (by omega)]; simp [go_sem]
  have g3 : w1.cell? ⟨w.heap.size + 1, 1, none⟩ = some (.slice none 0 0) := by rw [hbc _ _ (by omega)]; simp [go_sem]
  have g4 : w1.frozen? ⟨w.heap.size + 1, 0, none⟩ = false := by rw [hbf _ _ (by omega)]; simp [go_sem]
  have g5 : w1.frozen? ⟨w.heap.size + 1, 1, none⟩ = false := by rw [hbf _ _ (by omega)]; simp [go_sem]
  have ht1 : Typ w1 (w.heap.size + 1) 114 := Typ.below (by have := Typ.new (w.alloc (.cells #[.int .i64 kind, .slice A n c] 114)) #[.int .i64 0, .slice none 0 0] 114; rw [World.size_alloc] at this; exact this) hb
  have HT1 := hid ht1
  have hs1 : w.heap.size + 2 ≤ w1.heap.size := by have := hb.size; simp at this; omega
  have hbr1 := HB.out.below hB1
  have HB1 := hid hB1
  have HBR := hid hbr1
  clear hbc hbf hb hB1 hbr1 ht1
  go_region_held3 (fun w' => w'.cell? ⟨w.heap.size, 0, none⟩ = some (.int .i64 kind) ∧ w'.cell? ⟨w.heap.size, 1, none⟩ = some (.slice A n c)) (first | go_keep | exact ⟨by assumption, by assumption⟩)
    (first
      | (go_at_call 114; refine (clip_same A n c _ hc1 hc2).mono ?_; rintro e w' ⟨rfl, rfl⟩)
      | (refine step_append_grows rfl (.tmp 21) (.tmp 26) 112 rfl 157 i0 _ 2 16 Try.underlying112 HI.out HZ.out.1 HZ.out.2.1 HZ.out.2.2 rfl (by decide) A n n (brCells l) (by simp [Act.eval, Act.put]) (by rw [HL.out]; exact HN.out) (by rw [brCells_length, HL.out]) (by intro b e j u hu; exact (BrAt.below HBR.out (by repeat (first | exact Below.refl _ _ | assumption | (with_reducible refine below_alloc' ?_ _) | (with_reducible refine below_drew' ?_) | (with_reducible refine below_drewN' ?_ _) | (with_reducible refine below_setCell' ?_ (by first | omega | (simp; omega) | (simp; done)) _) | (refine below_then' ?_ (by assumption))))).olds b e j u hu) ⟨w1.heap.size, 0, none⟩ 1 1 [.int .i64 op, .int .i64 kind] (by simp [Act.eval, Act.put]) rfl (World.news_of_block (cs := #[.int .i64 op, .int .i64 kind]) (t := 157) (fr := (0, 0)) (heap_new w1 _)) (by intro u hu; simp at hu; rcases hu with rfl | rfl <;> rfl) (by omega) (by unfold maxLen; omega) (by omega) ?_; intro v' w2 hown hg; have hbel : Below w1.heap.size w1 w2 := below_then' (by repeat (first | exact Below.refl _ _ | assumption | (with_reducible refine below_alloc' ?_ _) | (with_reducible refine below_drew' ?_) | (with_reducible refine below_drewN' ?_ _) | (with_reducible refine below_setCell' ?_ (by first | omega | (simp; omega) | (simp; done)) _) | (refine below_then' ?_ (by assumption)))) (below_of_grown hg); obtain ⟨A2, c2, rfl, hn2, q1, q2, hbr2⟩ := BrAt.owned (l := l ++ [(op, kind)]) (by have e : brCells l ++ [.int .i64 op, .int .i64 kind] = brCells (l ++ [(op, kind)]) := (by simp [brCells]); rw [← e]; exact hown); have k0 := (hbel.cell (p := ⟨w.heap.size, 0, none⟩) (by simp; omega)).trans g0; have k1 := (hbel.cell (p := ⟨w.heap.size, 1, none⟩) (by simp; omega)).trans g1; have k2 := (hbel.cell (p := ⟨w.heap.size + 1, 0, none⟩) (by simp; omega)).trans g2; have k3 := (hbel.cell (p := ⟨w.heap.size + 1, 1, none⟩) (by simp; omega)).trans g3; have k4 := (hbel.frozen (p := ⟨w.heap.size + 1, 0, none⟩) (by simp; omega)).trans g4; have k5 := (hbel.frozen (p := ⟨w.heap.size + 1, 1, none⟩) (by simp; omega)).trans g5; have HBEL := hid hbel; have HBR2 := hid hbr2; clear hown hg hbel hbr2))
  all_goals
    go_wp2
    refine bodyPost_ret (v := .tuple #[.agg #[.int .i64 0, .slice A2 (n + 1) c2], .int .i64 0]) (by rw [HL.out]; simp [results, Try.results99, go_sem, k2, k3]) rfl ⟨A2, c2, rfl, ?_, ?_, by omega, q2⟩
    · exact below_setCell' (below_setCell' (below_then' HB1.out HBEL.out) (by simp) _) (by simp) _
    · have ht2 := HT1.out.below HBEL.out
      exact (HBR2.out.setCell ht2 (by decide) _ _).setCell (ht2.setCell _ _) (by decide) _ _
end Go.Proofs.Ytkhnalboodkddaa
