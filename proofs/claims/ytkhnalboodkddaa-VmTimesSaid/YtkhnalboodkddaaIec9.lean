import Derived.Test.YtkhnalboodkddaaIec8
import Derived.Test.YtkhnalboodkddaaBytes
import Derived.Lib.ConvBytes
set_option linter.unusedSimpArgs false
set_option linter.unusedVariables false
set_option maxRecDepth 100000
namespace Go.Proofs.Ytkhnalboodkddaa
open Go.RowKit
def getV (s : ByteArray) (at_ k : Int) : Int := wrapK k (beI (s.extract at_.toNat (at_ + ksize k).toNat).data.toList)
theorem get_yes (s : ByteArray) (at_ k : Int) (w : World) (hs : s.size ≤ maxLen) (h : thereB s.size at_ k = true) :
    Calls Try.prog 117 #[.string s, .int .i64 at_, .int .i64 k] w fun e w' => e = .returned (.tuple #[.int .i64 (getV s at_ k), .bool true]) ∧ Below w.heap.size w w' := by
  unfold maxLen at hs
  have ht := h
  simp [thereB] at ht
  obtain ⟨t1, t2, t3, t4⟩ := ht
  obtain ⟨s0, s1⟩ := ksize_range k
  have kb := fun (W : World) (t : ByteArray) => Lib.run_convert_string_bytes (P := Try.prog) W 9 37 5 t Try.underlying9 Try.underlying37 Try.underlying5
  go_enter Try.func117, Try.ntmps117
  go_wp2_with (first | (go_at_call 118; refine (there_any _ _ _ _ (by omega) (by omega)).mono ?_; rintro e w1 ⟨rfl, hb⟩) | (go_at_call 92; refine (size_any _ _).mono ?_; rintro e w1 ⟨rfl, hb⟩))
  clear kb
  obtain ⟨t, ht⟩ : ∃ t, t = s.extract at_.toNat (at_ + ksize k).toNat := ⟨_, rfl⟩
  have hn : min (at_ + ksize k).toNat s.size - at_.toNat = t.size := by subst ht; simp [ByteArray.size_extract]
  rw [hn, ← ht]
  have hts : t.size ≤ 4 := by omega
  have HT := hid ht
  clear ht hn
  have hcell := fun j => Lib.bytesWorld_cell w1 5 t j
  have hbw : Below w1.heap.size w1 (Lib.bytesWorld w1 5 t) := ⟨rfl, rfl, rfl, by rw [Lib.bytesWorld_size]; omega, fun i hi => Lib.bytesWorld_at_old w1 _ t i (by omega)⟩
  generalize Lib.bytesWorld w1 5 t = w2 at *
  have hlen := data_len t
  go_loop [8, 26] (fun v i => ∃ j : Nat, j ≤ t.size ∧ i = .int .i64 j ∧ v = .int .i64 (beI (t.data.toList.take j))) (fun _ i => t.size - (intOf i).toNat)
  case atStart => exact ⟨0, Nat.zero_le _, rfl, rfl⟩
  case round =>
    obtain ⟨j, hj, rfl, rfl⟩ := hrel
    have hbd := beI_bound4 (t.data.toList.take j) (by rw [List.length_take]; omega)
    by_cases hlt : j < t.size
    · have hc := hcell j hlt
      have hbd3 := beI_bound3 (t.data.toList.take j) (by rw [List.length_take]; omega)
      have hu := u8_range (t.data.toList.getD j 0)
      have HS := hid (take_snoc t.data.toList j (by omega))
      clear hcell
      generalize t.data.toList.getD j 0 = c at *
      go_wp2
      go_round
      case rel => exact ⟨j + 1, by omega, by go_num, by rw [or_join _ _ hbd.1 (by omega) hu.1 hu.2, HS.out, beI_snoc]⟩
      case measure => simp [intOf]; omega
    · have hj' : j = t.size := by omega
      have HJ := hid hj'
      clear hj' hcell
      generalize hx : t.data.toList.take j = x at *
      have HX := hid hx
      clear hx
      go_wp2_with (first | (go_at_call 72; refine (wrap_any _ _ _).mono ?_; rintro e w3 ⟨rfl, hb⟩))
      go_ret2
      refine ⟨?_, (by repeat (first | exact Below.refl _ _ | assumption | (with_reducible refine below_alloc' ?_ _) | (with_reducible refine below_drew' ?_) | (with_reducible refine below_drewN' ?_ _) | (with_reducible refine below_setCell' ?_ (by first | omega | (simp; omega) | (simp; done)) _) | (refine below_then' ?_ (by assumption))))⟩
      have hh : x = (s.extract at_.toNat (at_ + ksize k).toNat).data.toList := by rw [← HX.out, HJ.out, ← HT.out, List.take_of_length_le (by omega)]
      rw [getV, ← hh]
      rfl
theorem get_no (s : ByteArray) (at_ k : Int) (w : World) (hs : s.size ≤ maxLen) (h : thereB s.size at_ k = false) :
    Calls Try.prog 117 #[.string s, .int .i64 at_, .int .i64 k] w fun e w' => e = .returned (.tuple #[.int .i64 0, .bool false]) ∧ Below w.heap.size w w' := by
  unfold maxLen at hs
  go_enter Try.func117, Try.ntmps117
  go_wp2_with (first | (go_at_call 118; refine (there_any _ _ _ _ (by omega) (by omega)).mono ?_; rintro e w1 ⟨rfl, hb⟩) | (go_at_call 92; refine (size_any _ _).mono ?_; rintro e w1 ⟨rfl, hb⟩))
  go_ret2
  exact ⟨rfl, (by repeat (first | exact Below.refl _ _ | assumption | (with_reducible refine below_alloc' ?_ _) | (with_reducible refine below_drew' ?_) | (with_reducible refine below_drewN' ?_ _) | (with_reducible refine below_setCell' ?_ (by first | omega | (simp; omega) | (simp; done)) _) | (refine below_then' ?_ (by assumption))))⟩
end Go.Proofs.Ytkhnalboodkddaa
