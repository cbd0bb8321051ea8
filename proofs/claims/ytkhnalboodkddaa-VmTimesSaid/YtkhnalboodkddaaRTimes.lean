/-
  fuglemanlaw15.VmTimes answers true for every input, and leaves its arguments as they were. No conditions.
-/
import Derived.Test.YtkhnalboodkddaaRows
import Derived.Test.YtkhnalboodkddaaLaw
import Derived.Test.YtkhnalboodkddaaVmT1
set_option linter.unusedSimpArgs false
set_option linter.unusedVariables false
namespace Go.Proofs.Ytkhnalboodkddaa
open Go.ChangeShapes Go.WideShapes Go.ChangeAt Go.RowKit Go.Joins Go.Deep
set_option maxRecDepth 100000 in
theorem vmTimes_lifted (os : Os) (started : os.Started) (H : Type) (enc : TypeId × Value → H) :
    ReturnsInHanded {} Try.checked os 4 .any (Rows.vmTimesSpec.pre6 enc Try.prog Try.f4 Rows.vmTimesRow.domain false) (Rows.vmTimesSpec.post enc Try.prog Try.f4 false true false false) := by
  refine returnsInHanded_of_change (C := Try.checked) Try.own started (by kernel_rfl) Try.func4
    (ChangeSpec.witness6 (enc := enc) (C := Try.checked) false ⟨#[], #[.slice none 0 0, .int .u16 0], []⟩ 8 (by kernel_rfl) (by kernel_rfl) (by kernel_rfl) (by kernel_rfl)) ?_
  intro W base args ds gs before hval0 hW hcnd _
  have hval : ∀ (j : Nat) t v, Try.f4.params[j]? = some t → args[j]? = some v → Value.okWide Try.prog W .any base t v := hval0
  have hW' := hW
  have hlt : ∀ p ∈ before, p.block < W.heap.size := fun p hp => hW.lt p hp
  obtain ⟨p, q, hA0, hV, rfl, hfz, hnd⟩ := hW
  have hA : DataW.TrodAll enc Try.prog W 0 (fun _ => true) true Try.f4.params.toList args.toList ds p := hA0
  rw [Try.params4] at hA hval
  obtain ⟨v0, v1, d0, d1, p0, p1, rfl, rfl, rfl, h0, h1⟩ := trodAll_two hA
  obtain ⟨rfl, rfl⟩ := trodVars_none hV
  obtain ⟨n, rfl, rfl, rfl, wn⟩ := open_int Try.underlying44 (hval 1 44 v1 rfl rfl) h1
  have hn : 0 ≤ n ∧ n ≤ 65535 := by
    have : IntKind.u16.min ≤ n ∧ n ≤ IntKind.u16.max := by simpa [Lit.wf] using wn
    exact this
  obtain ⟨a0, len, cap, rfl⟩ := okWide_slice Try.underlying37 (hval 0 37 v0 rfl rfl)
  have hB : ∃ f, BytesAt W a0 len f ∧ len ≤ 9223372036854775807 := by
    obtain ⟨fuel, hf⟩ := h0
    rcases open_ints Try.underlying37 Try.underlying5 (by kernel_rfl) hf with ⟨hcs, hx⟩ | ⟨a, len', cap', zs, hcs, _, hl, hm, hz, hx, hcell, hwz⟩
    · simp [Value.cells] at hcs
      obtain ⟨rfl, rfl, rfl⟩ := hcs
      exact ⟨fun _ => 0, fun i hi => absurd hi (by omega), by omega⟩
    · simp [Value.cells] at hcs
      obtain ⟨rfl, rfl, rfl⟩ := hcs
      simp only [if_true] at hz
      refine ⟨fun i => zs.getD i 0, fun i hi => ?_, by unfold maxLen at hm; omega⟩
      have hc := hcell i (by omega)
      obtain ⟨ha, hb, hadd⟩ := addr_parts (hcell 0 (by omega))
      rw [hadd] at hc
      have hmem : zs.getD i 0 ∈ zs := by
        rw [List.getD_eq_getElem?_getD, List.getElem?_eq_getElem (by omega)]
        exact List.getElem_mem _
      have hw := hwz _ hmem
      have hr : IntKind.u8.min ≤ zs.getD i 0 ∧ zs.getD i 0 ≤ IntKind.u8.max := by simpa [Lit.wf] using hw
      have hr2 : 0 ≤ zs.getD i 0 ∧ zs.getD i 0 ≤ 255 := hr
      exact ⟨a.block, a.off, congrArg some ha, hb, hc, hr2.1, by show zs.getD i 0 < 256; omega⟩
  obtain ⟨f, hB, hmax⟩ := hB
  refine (times_any a0 len cap f n W hB hmax hn.1 hn.2).mono fun e W' ⟨he, hb⟩ => ?_
  subst he
  exact ⟨_, rfl, post_of_law Try.laidOut rfl hW' (by
    intro t ht
    have ht' : t = 37 ∨ t = 44 := by simpa [Try.params4] using ht
    rcases ht' with rfl | rfl
    · exact ⟨by kernel_rfl, of_decide_eq_true (by kernel_rfl)⟩
    · exact ⟨by kernel_rfl, of_decide_eq_true (by kernel_rfl)⟩) (by kernel_rfl) Try.underlying4 (fun _ => ⟨rfl, rfl, rfl⟩) hb⟩
theorem vmTimes_holds : Rows.VmTimesSaid :=
  OpenClaim.holds_of_wide 4 Try.f4 rfl rfl rfl rfl rfl rfl rfl ⟨rfl, rfl, rfl, rfl, rfl⟩ rfl rfl rfl rfl rfl (by kernel_rfl) Try.func4 (by kernel_rfl)
    (of_decide_eq_true (by kernel_rfl)) (by unfold Func.isWrapper; first | (rw [if_pos (by decide +kernel)]; kernel_rfl) | (rw [if_neg (by decide +kernel)]; exact ⟨rfl, rfl⟩))
    (fun os started H enc _ => vmTimes_lifted os started H enc)
#print axioms vmTimes_holds
end Go.Proofs.Ytkhnalboodkddaa
