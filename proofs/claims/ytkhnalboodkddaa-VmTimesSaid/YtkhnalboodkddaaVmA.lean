import Derived.Test.YtkhnalboodkddaaVm13
import Derived.Laws.StructEq
set_option linter.unusedSimpArgs false
set_option linter.unusedVariables false
set_option maxRecDepth 100000
namespace Go.Proofs.Ytkhnalboodkddaa
open Go.RowKit
def awakeCode : List Ins := [⟨1, 3, 0, 0, 2⟩, ⟨32, 0, 0, 16, 0⟩, ⟨1, 3, 0, 0, 3⟩, ⟨33, 0, 0, 0, 0⟩, ⟨3, 3, 2, 0, 0⟩]
def noRs : Rs := ⟨fun _ => [], 0, 0, [], 0, 0, 0⟩
def awakeS : Rs := (goS awakeCode 6 0 (startS (fitV blankV) (clampT 0))).getD noRs
theorem awake_check : (checkE awakeCode).1 = 0 := by kernel_rfl
theorem awake_some : (goS awakeCode 6 0 (startS (fitV blankV) (clampT 0))).isSome = true := by kernel_rfl
theorem some_getD {α : Type} {o : Option α} {d : α} (h : o.isSome = true) : o = some (o.getD d) := by
  cases o with
  | none => cases h
  | some x => rfl
theorem awake_goS : goS awakeCode 6 0 (startS (fitV blankV) (clampT 0)) = some awakeS := some_getD awake_some
theorem awake_steps : awakeS.steps = 5 := by kernel_rfl
theorem awake_zero : awakeS.zero = 0 := by kernel_rfl
theorem awake_kind : awakeS.kind = 3 := by kernel_rfl
theorem awake_n : awakeS.n = 6 := by kernel_rfl
theorem awake_q : awakeS.ar 2 = [0, 6] ++ List.replicate 62 0 := by kernel_rfl
theorem scanStood : Try.prog.stoodInHeld 39 = false := by kernel_rfl
theorem scanGuard : Try.prog.eqGuardType Try.prog.depth 39 = false := by kernel_rfl
theorem scanUnder : Try.prog.underlying 39 = some (.struct (Try.prog.fieldsOf 39)) := by kernel_rfl
theorem scanEql (a0 a1 a2 a3 b0 b1 b2 b3 : Int) (X : World) : (binOp .eql 39 (.agg #[.int .i64 a0, .int .i64 a1, .int .i64 a2, .int .i64 a3]) (.agg #[.int .i64 b0, .int .i64 b1, .int .i64 b2, .int .i64 b3])).run Try.prog X = .ok (.bool (decide (a0 = b0 ∧ a1 = b1 ∧ a2 = b2 ∧ a3 = b3))) X := by
  rw [run_eql_struct, run_equalIn_agg _ _ _ _ _ scanUnder scanStood]
  simp [go_sem]
  by_cases c0 : a0 = b0 <;> by_cases c1 : a1 = b1 <;> by_cases c2 : a2 = b2 <;> by_cases c3 : a3 = b3 <;> simp [c0, c1, c2, c3]
theorem blank_ok : imgOk blankV := by
  have h := areaV_size ⟨#[]⟩
  exact ⟨by simp only [blankV, fitV]; omega, by simp only [blankV, fitV]; omega, by simp only [blankV, fitV]; omega, by simp only [blankV, fitV]; omega⟩
/-- A literal code in memory. -/
theorem InsAt.lit {w : World} {b : Nat} {l : List Ins} {fr : Nat × Nat} (h : w.heap[b]? = some (.cells (insCells l).toArray 46 fr)) : InsAt w (some ⟨b, 0, none⟩) l := by
  intro hne
  refine ⟨b, 0, rfl, heap_lt h, fun i hi => ?_⟩
  have key : ∀ k, k < 5 → w.cell? ⟨b, 0 + i * 5 + k, none⟩ = some (insCell (l.getD i ⟨0, 0, 0, 0, 0⟩) k) := by
    intro k hk
    rw [cell_of_heap h, ← insCells_at l i k hi hk]
    simp
  exact ⟨key 0 (by omega), key 1 (by omega), key 2 (by omega), key 3 (by omega), key 4 (by omega)⟩
set_option maxHeartbeats 1000000 in
theorem awake15_any (w : World) : Calls Try.prog 8 #[] w fun e w' => e = .returned (.bool true) ∧ Below w.heap.size w w' := by
  have L := hid fun W (hW : InsAt W (some ⟨w.heap.size, 0, none⟩) awakeCode) => load_any (some ⟨w.heap.size, 0, none⟩) 5 5 awakeCode W rfl (by omega) hW
  have B := hid fun W => blank_any W
  have R := hid fun W q (hq : PAt W q awakeCode) => run_some q awakeCode blankV 0 W 6 awakeS hq blank_ok (by decide) awake_goS
  have se := scanEql
  have sg := scanGuard
  have e1 := awake_steps
  have e2 := awake_zero
  have e3 := awake_kind
  have e4 := awake_n
  have eq := awake_q
  have hL : ∀ W e w', LoadRet W awakeCode e w' → ∃ q, e = .returned (.tuple #[.pointer (some ⟨q, 0, none⟩), .int .i64 0, .int .i64 0]) ∧ PAt w' q awakeCode ∧ W.heap.size ≤ q ∧ Below W.heap.size W w' := by
    intro W e w' h
    unfold LoadRet at h
    rw [if_pos awake_check] at h
    exact h
  have HL := hid hL
  simp only [outImg, Img.val, scanVal] at R
  generalize hs : awakeS = s at *
  generalize fitV blankV = y at *
  generalize blankV = x at *
  obtain ⟨xi, xq, xm, xr⟩ := x
  obtain ⟨yi, yq, ym, yr⟩ := y
  simp only [Img.val] at R B
  rw [e1, e2, e3, e4, eq] at R
  have hz : (⟨([0, 6] ++ List.replicate 62 (0 : UInt8)).toArray⟩ : ByteArray).size = 64 := by rfl
  have hx : (⟨([0, 6] ++ List.replicate 62 (0 : UInt8)).toArray⟩ : ByteArray).extract 0 2 = ⟨#[0, 6]⟩ := by rfl
  generalize (⟨([0, 6] ++ List.replicate 62 (0 : UInt8)).toArray⟩ : ByteArray) = Q at *
  clear hs e1 e2 e3 e4 eq hL
  go_enter Try.func8, Try.ntmps8
  go_wp2_with (first
    | (go_at_call 10; refine (L.out _ (InsAt.lit (heap_new w _))).mono ?_; intro e w1 hl; obtain ⟨q, rfl, hq, hqw, hb1⟩ := HL.out _ _ _ hl; replace hq := hid hq; clear hl)
    | (go_at_call 16; refine (B.out _).mono ?_; rintro e w2 ⟨rfl, hb2⟩)
    | (go_at_call 14; refine (R.out _ q (hq.out.below hb2)).mono ?_; rintro e w3 ⟨rfl, hb3⟩))
  go_ret
  refine ⟨ret_bool (by first | rfl | simp), (by repeat (first | exact Below.refl _ _ | assumption | (with_reducible refine below_alloc' ?_ _) | (with_reducible refine below_drew' ?_) | (with_reducible refine below_drewN' ?_ _) | (with_reducible refine below_setCell' ?_ (by first | omega | (simp; omega) | (simp; done)) _) | (refine below_then' ?_ (by assumption))))⟩
end Go.Proofs.Ytkhnalboodkddaa
