import Derived.Test.YtkhnalboodkddaaIec9
set_option linter.unusedSimpArgs false
set_option linter.unusedVariables false
set_option maxRecDepth 100000
namespace Go.Proofs.Ytkhnalboodkddaa
open Go.RowKit
theorem put_no (b cap : Nat) (l : List UInt8) (at_ k v : Int) (w : World) (hs : l.length ≤ 9223372036854775807) (h : thereB l.length at_ k = false) :
    Calls Try.prog 109 #[.slice (some ⟨b, 0, none⟩) l.length cap, .int .i64 at_, .int .i64 k, .int .i64 v] w fun e w' => e = .returned (.bool false) ∧ Below w.heap.size w w' := by
  go_enter Try.func109, Try.ntmps109
  go_wp2_with (first | (go_at_call 118; refine (there_any _ _ _ _ (by omega) (by omega)).mono ?_; rintro e w1 ⟨rfl, hb⟩))
  go_ret
  exact ⟨rfl, (by repeat (first | exact Below.refl _ _ | assumption | (with_reducible refine below_alloc' ?_ _) | (with_reducible refine below_drew' ?_) | (with_reducible refine below_drewN' ?_ _) | (with_reducible refine below_setCell' ?_ (by first | omega | (simp; omega) | (simp; done)) _) | (refine below_then' ?_ (by assumption))))⟩
theorem put_yes (b cap : Nat) (l : List UInt8) (at_ k v : Int) (w : World) (hs : l.length ≤ 9223372036854775807) (h : thereB l.length at_ k = true) (ha : Area w b l) :
    Calls Try.prog 109 #[.slice (some ⟨b, 0, none⟩) l.length cap, .int .i64 at_, .int .i64 k, .int .i64 v] w fun e w' => e = .returned (.bool true) ∧ Only [b] w w' ∧ Area w' b (putL l at_.toNat (ksize k).toNat (wrapK k v)) := by
  have ht := h
  simp [thereB] at ht
  obtain ⟨t1, t2, t3, t4⟩ := ht
  obtain ⟨s0, s1⟩ := ksize_range k
  go_enter Try.func109, Try.ntmps109
  go_wp2_with (first | (go_at_call 118; refine (there_any _ _ _ _ (by omega) (by omega)).mono ?_; rintro e w1 ⟨rfl, hb⟩) | (go_at_call 72; refine (wrap_any _ _ _).mono ?_; rintro e w1 ⟨rfl, hb⟩) | (go_at_call 92; refine (size_any _ _).mono ?_; rintro e w1 ⟨rfl, hb⟩))
  have hbb : Below w.heap.size w w1 := (by repeat (first | exact Below.refl _ _ | assumption | (with_reducible refine below_alloc' ?_ _) | (with_reducible refine below_drew' ?_) | (with_reducible refine below_drewN' ?_ _) | (with_reducible refine below_setCell' ?_ (by first | omega | (simp; omega) | (simp; done)) _) | (refine below_then' ?_ (by assumption))))
  have ha1 := ha.below hbb
  have HBB := hid hbb
  clear ha hbb
  generalize hk : ksize k = sz at *
  generalize hu : wrapK k v = u at *
  have HK := hid hk
  have HU := hid hu
  clear hk hu
  obtain ⟨p, rfl⟩ := Int.eq_ofNat_of_zero_le t2
  obtain ⟨n, rfl⟩ := Int.eq_ofNat_of_zero_le s0
  have hAt0 : p + n ≤ l.length := by omega
  go_loopw [3, 9] (fun x i wr => ∃ j : Nat, j ≤ n ∧ i = .int .i64 ((n : Int) - 1 - j) ∧ x = .int .i64 (u / 256 ^ j) ∧ Only [b] w1 wr ∧ Area wr b (putL l (p + n - j) j u)) (fun _ i _ => (intOf i + 1).toNat)
  case atStart => exact ⟨0, Nat.zero_le _, by simp, by simp, Only.refl _ _, ha1.congr (by simp [putL, toBE])⟩
  case round =>
    obtain ⟨j, hj, rfl, rfl, hon, har⟩ := hrel
    by_cases hlt : j < n
    · have hll := putL_length l (p + n - j) j u (by omega)
      have e : p + n - (j + 1) = p + (n - 1 - j) := by omega
      have hc := har.cell (p + (n - 1 - j)) (by rw [hll]; omega)
      have hf := har.free (p + (n - 1 - j)) (by rw [hll]; omega)
      have HS := hid ((har.set (p + (n - 1 - j)) (by rw [hll]; omega) (byteI (u / 256 ^ j))).congr (m := putL l (p + n - (j + 1)) (j + 1) u) (by rw [← e]; exact putL_step l p n j u hAt0 hlt))
      generalize (putL l (p + n - j) j u).getD (p + (n - 1 - j)) 0 = c at *
      have HO := hid hon
      have HE := hid e
      clear har hon hll e
      have hby := byteI_toNat (u / 256 ^ j)
      generalize byteI (u / 256 ^ j) = y at *
      have HY := hid hby
      clear hby
      go_wp2
      go_roundw
      case rel => exact ⟨j + 1, by omega, by go_num, by rw [Int.pow_succ, ← Int.ediv_ediv_of_nonneg (Int.pow_nonneg (by decide))], (HO.out.setCell (by simp) _), by rw [← HY.out]; exact HS.out⟩
      case measure => simp [intOf]; omega
    · have hj' : j = n := by omega
      subst hj'
      have HA := hid har
      have HO := hid hon
      clear har hon
      go_wp2
      go_ret
      refine ⟨rfl, (Only.of_below HBB.out).then_ HO.out, ?_⟩
      rw [HK.out, HU.out]
      have e : p + j - j = p := by omega
      rw [e] at HA
      exact HA.out
end Go.Proofs.Ytkhnalboodkddaa
