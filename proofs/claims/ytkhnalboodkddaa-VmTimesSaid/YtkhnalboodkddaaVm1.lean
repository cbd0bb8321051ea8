import Derived.Test.YtkhnalboodkddaaVm0
import Derived.Test.YtkhnalboodkddaaShelf
set_option linter.unusedSimpArgs false
set_option linter.unusedVariables false
set_option maxRecDepth 100000
namespace Go.Proofs.Ytkhnalboodkddaa
open Go.RowKit
theorem rep0_any (c : Int) (w : World) (h0 : 0 ≤ c) (h1 : c ≤ 64) :
    Calls Try.prog 39 #[.string ⟨#[0]⟩, .int .i64 c] w fun e w' => e = .returned (.string ⟨(List.replicate c.toNat (0 : UInt8)).toArray⟩) ∧ Below w.heap.size w w' := by
  obtain ⟨n, rfl⟩ : ∃ n : Nat, c = n := ⟨c.toNat, by omega⟩
  refine (Try.strings_Repeat ⟨#[0]⟩ n w (by omega) (by show 1 * n ≤ _; omega)).mono ?_
  rintro e w' ⟨rfl, hb⟩
  refine ⟨?_, hb⟩
  have e1 : Lib.repeatL ((⟨#[0]⟩ : ByteArray).data.toList) n = List.replicate n (0 : UInt8) := by
    clear h0 h1 hb
    induction n with
    | zero => rfl
    | succ n ih => rw [Lib.repeatL, ih, List.replicate_succ]; rfl
  rw [e1]
  rfl
/-- A text brought to 64 bytes. -/
def areaV (s : ByteArray) : ByteArray := if 64 ≤ s.size then s.extract 0 64 else s ++ ⟨Array.replicate (64 - s.size) 0⟩
theorem areaV_size (s : ByteArray) : (areaV s).size = 64 := by
  unfold areaV
  split
  · rw [ByteArray.size_extract]; omega
  · rw [ByteArray.size_append]; show s.size + (Array.replicate (64 - s.size) (0 : UInt8)).size = 64; rw [Array.size_replicate]; omega
theorem area_any (s : ByteArray) (w : World) (hs : s.size ≤ 9223372036854775807) :
    Calls Try.prog 27 #[.string s] w fun e w' => e = .returned (.string (areaV s)) ∧ Below w.heap.size w w' := by
  unfold areaV
  by_cases h : 64 ≤ s.size
  · rw [if_pos h]
    go_enter Try.func27, Try.ntmps27
    go_wp2_with (first | (go_at_call 39; refine (rep0_any _ _ (by omega) (by omega)).mono ?_; rintro e w1 ⟨rfl, hb⟩))
    go_ret
    exact ⟨rfl, Below.refl _ _⟩
  · rw [if_neg h]
    go_enter Try.func27, Try.ntmps27
    go_wp2_with (first | (go_at_call 39; refine (rep0_any _ _ (by omega) (by omega)).mono ?_; rintro e w1 ⟨rfl, hb⟩))
    go_ret
    exact ⟨rfl, hb⟩
/-- An image: its four areas. -/
structure Img where
  I : ByteArray
  Q : ByteArray
  M : ByteArray
  R : ByteArray
def Img.val (x : Img) : Value := .agg #[.string x.I, .string x.Q, .string x.M, .string x.R]
def fitV (x : Img) : Img := ⟨areaV x.I, areaV x.Q, areaV x.M, areaV x.R⟩
def imgOk (x : Img) : Prop := x.I.size ≤ 9223372036854775807 ∧ x.Q.size ≤ 9223372036854775807 ∧ x.M.size ≤ 9223372036854775807 ∧ x.R.size ≤ 9223372036854775807
theorem fit_any (x : Img) (w : World) (hx : imgOk x) :
    Calls Try.prog 13 #[x.val] w fun e w' => e = .returned (fitV x).val ∧ Below w.heap.size w w' := by
  obtain ⟨a, b, c, d⟩ := x
  obtain ⟨ha, hb, hc, hd⟩ := hx
  simp only at ha hb hc hd
  simp only [fitV, Img.val]
  go_enter Try.func13, Try.ntmps13
  go_wp2
  obtain ⟨W, hW⟩ : ∃ W, W = (w.alloc (.cells #[.string a, .string b, .string c, .string d] 24)).alloc (.cells #[.string ⟨#[]⟩, .string ⟨#[]⟩, .string ⟨#[]⟩, .string ⟨#[]⟩] 24) := ⟨_, rfl⟩
  have g0 : W.cell? ⟨w.heap.size, 0, none⟩ = some (.string a) := by subst hW; simp [go_sem]
  have g1 : W.cell? ⟨w.heap.size, 1, none⟩ = some (.string b) := by subst hW; simp [go_sem]
  have g2 : W.cell? ⟨w.heap.size, 2, none⟩ = some (.string c) := by subst hW; simp [go_sem]
  have g3 : W.cell? ⟨w.heap.size, 3, none⟩ = some (.string d) := by subst hW; simp [go_sem]
  have e0 : W.cell? ⟨w.heap.size + 1, 0, none⟩ = some (.string ⟨#[]⟩) := by subst hW; simp [go_sem]
  have e1 : W.cell? ⟨w.heap.size + 1, 1, none⟩ = some (.string ⟨#[]⟩) := by subst hW; simp [go_sem]
  have e2 : W.cell? ⟨w.heap.size + 1, 2, none⟩ = some (.string ⟨#[]⟩) := by subst hW; simp [go_sem]
  have e3 : W.cell? ⟨w.heap.size + 1, 3, none⟩ = some (.string ⟨#[]⟩) := by subst hW; simp [go_sem]
  have f0 : W.frozen? ⟨w.heap.size + 1, 0, none⟩ = false := by subst hW; simp [go_sem]
  have f1 : W.frozen? ⟨w.heap.size + 1, 1, none⟩ = false := by subst hW; simp [go_sem]
  have f2 : W.frozen? ⟨w.heap.size + 1, 2, none⟩ = false := by subst hW; simp [go_sem]
  have f3 : W.frozen? ⟨w.heap.size + 1, 3, none⟩ = false := by subst hW; simp [go_sem]
  have hs : W.heap.size = w.heap.size + 2 := by subst hW; simp
  have hB : Below w.heap.size w W := by subst hW; exact (by repeat (first | exact Below.refl _ _ | assumption | (with_reducible refine below_alloc' ?_ _) | (with_reducible refine below_drew' ?_) | (with_reducible refine below_drewN' ?_ _) | (with_reducible refine below_setCell' ?_ (by first | omega | (simp; omega) | (simp; done)) _) | (refine below_then' ?_ (by assumption))))
  rw [← hW]
  clear hW
  have l0 : w.heap.size < W.heap.size := by omega
  have l1 : w.heap.size + 1 < W.heap.size := by omega
  have HS := hid hs
  clear hs
  (refine quiet_tail (fun X => Below (W).heap.size (W) X) 13 (by kernel_rfl) (by kernel_rfl) (Below.refl _ _).drew ?_; simp only [List.take_succ_cons, List.take_zero, List.drop_succ_cons, List.drop_zero]; (repeat (first | go_big_quiet_skip | (go_big_quiet_want; first | (go_big_quiet_op; go_big_quiet_on) | (apply Exists.intro; refine ⟨fun X hX => ?_, ?_⟩; · (have hbq := (bcell hX).1; (try simp only [World.size_alloc, World.size_setCell, World.size_drew] at hbq); unfold Oper.quietAt; go_simp; first | done | rfl | exact ⟨rfl, rfl⟩ | (go_at_call 27; refine (area_any _ _ (by assumption)).mono ?_; rintro e w' ⟨rfl, hb'⟩; exact ⟨rfl, hX.trans (hb'.mono hX.size)⟩))); go_big_quiet_on; simp only [Act.put, List.setIfInBounds_toArray, List.set_cons_zero, List.set_cons_succ]))); refine wpQuiet_nil ?_; intro X hX)
  have p0 : X.cell? ⟨w.heap.size + 1, 0, none⟩ = some (.string ⟨#[]⟩) := (hX.cell (by simpa using l1)).trans e0
  have p1 : X.cell? ⟨w.heap.size + 1, 1, none⟩ = some (.string ⟨#[]⟩) := (hX.cell (by simpa using l1)).trans e1
  have p2 : X.cell? ⟨w.heap.size + 1, 2, none⟩ = some (.string ⟨#[]⟩) := (hX.cell (by simpa using l1)).trans e2
  have p3 : X.cell? ⟨w.heap.size + 1, 3, none⟩ = some (.string ⟨#[]⟩) := (hX.cell (by simpa using l1)).trans e3
  have q0 : X.frozen? ⟨w.heap.size + 1, 0, none⟩ = false := (hX.frozen (by simpa using l1)).trans f0
  have q1 : X.frozen? ⟨w.heap.size + 1, 1, none⟩ = false := (hX.frozen (by simpa using l1)).trans f1
  have q2 : X.frozen? ⟨w.heap.size + 1, 2, none⟩ = false := (hX.frozen (by simpa using l1)).trans f2
  have q3 : X.frozen? ⟨w.heap.size + 1, 3, none⟩ = false := (hX.frozen (by simpa using l1)).trans f3
  have hBX : Below w.heap.size w X := hB.trans (hX.mono (by omega))
  have HB := hid hBX
  clear hBX hB hX g0 g1 g2 g3 e0 e1 e2 e3 f0 f1 f2 f3
  go_wp2
  have HB' := HB.out
  exact bodyPost_ret (v := .agg #[.string (areaV a), .string (areaV b), .string (areaV c), .string (areaV d)]) (by simp [results, Try.results13, go_sem, *]) rfl ⟨rfl, (by repeat (first | exact Below.refl _ _ | assumption | (with_reducible refine below_alloc' ?_ _) | (with_reducible refine below_drew' ?_) | (with_reducible refine below_drewN' ?_ _) | (with_reducible refine below_setCell' ?_ (by first | omega | (simp; omega) | (simp; done)) _) | (refine below_then' ?_ (by assumption))))⟩
end Go.Proofs.Ytkhnalboodkddaa
