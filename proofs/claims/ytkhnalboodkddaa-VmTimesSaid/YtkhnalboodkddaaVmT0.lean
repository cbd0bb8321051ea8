import Derived.Test.YtkhnalboodkddaaVmA
set_option linter.unusedSimpArgs false
set_option linter.unusedVariables false
set_option maxRecDepth 100000
namespace Go.Proofs.Ytkhnalboodkddaa
open Go.RowKit
/-- What a program reads in an area's bytes. -/
def GL (l : List UInt8) (at_ k : Int) : Int := if thereB 64 at_ k = true then getV ⟨l.toArray⟩ at_ k else 0
theorem getS_GL (s : Rs) (area at_ k : Int) : getS s area at_ k = GL (s.ar area.toNat) at_ k := rfl
def PA (ar : Nat → List UInt8) (area at_ k v : Int) : Nat → List UInt8 := fun i => if i = area.toNat then putL2 (ar i) at_ k v else ar i
theorem putS_PA (s : Rs) (area at_ k v : Int) : putS s area at_ k v = { s with ar := PA s.ar area at_ k v } := rfl
theorem goS_op {code : List Ins} {f k : Nat} {s : Rs} {i : Ins} (hk : k < code.length) (hi : code.getD k ⟨0, 0, 0, 0, 0⟩ = i) (hop : i.op < 25 ∨ 30 < i.op) (hok : StepOk (tick s) i) : goS code (f + 1) k s = goS code f (k + 1) (stepS (tick s) i) := by
  rw [goS, if_neg (by omega), hi]
  simp only
  rw [if_neg (by omega), if_neg (by omega), if_pos hok]
theorem goS_end {code : List Ins} {f k : Nat} {s : Rs} (hk : code.length ≤ k) : goS code (f + 1) k s = some s := by
  rw [goS, if_pos hk]
theorem beI_toBE (n : Nat) : ∀ v : Int, beI (toBE n v) = v % 256 ^ n := by
  induction n with
  | zero => intro v; simp [toBE, beI]
  | succ n ih =>
    intro v
    rw [toBE, beI_snoc, ih, byteI_toNat, Int.pow_succ]
    have h := Int.emod_emod_of_dvd
    have e := Int.mul_ediv_add_emod v 256
    have hp : (0 : Int) < 256 ^ n := Int.pow_pos (by decide)
    have h1 := Int.emod_nonneg (v / 256) (Int.ne_of_gt hp)
    have h2 := Int.emod_lt_of_pos (v / 256) hp
    have h3 := Int.mul_ediv_add_emod (v / 256) (256 ^ n)
    have h4 := Int.emod_nonneg v (show (256 : Int) ≠ 0 by decide)
    have h5 := Int.emod_lt_of_pos v (show (0 : Int) < 256 by decide)
    generalize (v / 256) % 256 ^ n = a at *
    generalize v % 256 = b at *
    have h6 : v = a * 256 + b + (256 ^ n * 256) * (v / 256 / 256 ^ n) := by
      rw [Int.mul_right_comm, Int.mul_comm (256 ^ n * _) 256]
      generalize 256 ^ n * (v / 256 / 256 ^ n) = c at *
      omega
    rw [h6, Int.add_mul_emod_self_left, Int.emod_eq_of_lt (by omega)]
    generalize (256 : Int) ^ n = p at *
    omega
theorem extract_list (l : List UInt8) (a b : Nat) (h : b ≤ l.length) : ((⟨l.toArray⟩ : ByteArray).extract a b).data.toList = (l.drop a).take (b - a) := by
  rw [ByteArray.data_extract]
  simp [Array.toList_extract, List.extract_eq_take_drop]
theorem GL_eq (l : List UInt8) (a : Nat) (k : Int) (h : l.length = 64) (hk : 0 < ksize k) (ha : (a : Int) + ksize k ≤ 64) : GL l a k = wrapK k (beI ((l.drop a).take (ksize k).toNat)) := by
  have ht : thereB 64 a k = true := by simp [thereB]; omega
  rw [GL, if_pos ht, getV, extract_list _ _ _ (by omega)]
  congr 3
  omega
theorem GL_1 (l : List UInt8) (a : Nat) (h : l.length = 64) (ha : a < 64) : GL l a 1 = if ((l.getD a 0).toNat : Int) = 0 then 0 else 1 := by
  rw [GL_eq l a 1 h (by decide) (by show (a : Int) + 1 ≤ 64; omega)]
  have e : (l.drop a).take (ksize 1).toNat = [l.getD a 0] := by
    show (l.drop a).take 1 = _
    rw [List.drop_eq_getElem_cons (by omega), List.take_succ_cons, List.take_zero, List.getD_eq_getElem?_getD, List.getElem?_eq_getElem (show a < l.length by omega)]
    rfl
  rw [e]
  simp [wrapK, beI]
theorem GL_7 (l : List UInt8) (a : Nat) (h : l.length = 64) (ha : a + 4 ≤ 64) : GL l a 7 = beI ((l.drop a).take 4) := by
  rw [GL_eq l a 7 h (by decide) (by show (a : Int) + 4 ≤ 64; omega)]
  show wrapK 7 (beI ((l.drop a).take 4)) = _
  have := beI_bound4 ((l.drop a).take 4) (by rw [List.length_take]; omega)
  have e : wrapK 7 (beI ((l.drop a).take 4)) = beI ((l.drop a).take 4) % 4294967296 := rfl
  rw [e, Int.emod_eq_of_lt this.1 this.2]
def bitB (v : Int) : UInt8 := if v = 0 then 0 else 1
theorem put_1 (l : List UInt8) (a : Nat) (v : Int) (h : l.length = 64) (ha : a < 64) : putL2 l a 1 v = l.set a (bitB v) := by
  have ht : thereB 64 a 1 = true := by simp [thereB, ksize]; omega
  rw [putL2, if_pos ht]
  show putL l a 1 (wrapK 1 v) = _
  have e : wrapK 1 v = if v = 0 then 0 else 1 := rfl
  have e2 : toBE 1 (wrapK 1 v) = [bitB v] := by
    rw [e]
    unfold bitB
    split <;> rfl
  rw [putL, e2, List.set_eq_take_append_cons_drop, if_pos (by omega)]
  simp
theorem put_7 (l : List UInt8) (v : Int) (h : l.length = 64) : putL2 l 0 7 v = toBE 4 (v % 4294967296) ++ l.drop 4 := by
  have ht : thereB 64 0 7 = true := by decide
  rw [putL2, if_pos ht]
  show putL l 0 4 (wrapK 7 v) = _
  have e : wrapK 7 v = v % 4294967296 := rfl
  rw [e, putL]
  simp
theorem GL_1z (l : List UInt8) (z : Int) (a : Nat) (hz : z = a) (h : l.length = 64) (ha : a < 64) : GL l z 1 = if ((l.getD a 0).toNat : Int) = 0 then 0 else 1 := by
  subst hz; exact GL_1 l a h ha
theorem GL_7z (l : List UInt8) (z : Int) (a : Nat) (hz : z = a) (h : l.length = 64) (ha : a + 4 ≤ 64) : GL l z 7 = beI ((l.drop a).take 4) := by
  subst hz; exact GL_7 l a h ha
theorem put_1z (l : List UInt8) (z : Int) (a : Nat) (v : Int) (hz : z = a) (h : l.length = 64) (ha : a < 64) : putL2 l z 1 v = l.set a (bitB v) := by
  subst hz; exact put_1 l a v h ha
/-- The program of VmTimes. -/
def timesCode (m : Int) : List Ins := [⟨1, 1, 1, 0, 0⟩, ⟨34, 0, 3, 0, m⟩, ⟨3, 1, 2, 0, 0⟩, ⟨1, 1, 1, 1, 0⟩, ⟨35, 0, 4, 0, m⟩, ⟨3, 1, 2, 1, 0⟩, ⟨1, 1, 1, 1, 0⟩, ⟨36, 0, 3, 9, 0⟩, ⟨3, 1, 2, 2, 0⟩]
theorem times_all : (List.range 501).all (fun m => m == 0 || (checkE (timesCode m)).1 == 0) = true := by kernel_rfl
theorem times_check (m : Int) (h1 : 1 ≤ m) (h2 : m ≤ 500) : (checkE (timesCode m)).1 = 0 := by
  have h := List.all_eq_true.1 times_all m.toNat (by simp; omega)
  simp at h
  rcases h with h | h
  · omega
  · rw [show max m 0 = m by omega] at h
    exact h
/-- The areas behind one run of it. -/
def tN (M : List UInt8) (i0 d m : Int) : Int := if i0 = 1 then min (beI (M.take 4) + d) m else 0
def cRise (R : List UInt8) (up : Int) : Bool := decide (up = 1) && decide ((R.getD 4 0).toNat = 0)
def cN (R : List UInt8) (up m : Int) : Int := if cRise R up = true then min (beI (R.take 4) + 1) m else beI (R.take 4)
def qT (Q M R : List UInt8) (i0 up d m : Int) : List UInt8 :=
  ((Q.set 0 (bitB (truthN (decide (i0 = 1) && decide (tN M i0 d m = m))))).set 1 (bitB (truthN (decide (m ≤ cN R up m))))).set 2 (bitB (truthN (decide (up = 1) && decide ((M.getD 9 0).toNat = 0))))
def mT (M : List UInt8) (i0 up d m : Int) : List UInt8 := (toBE 4 (tN M i0 d m % 4294967296) ++ M.drop 4).set 9 (bitB up)
def rT (R : List UInt8) (up m : Int) : List UInt8 := if cRise R up = true then toBE 4 (cN R up m % 4294967296) ++ (R.set 4 (bitB up)).drop 4 else R.set 4 (bitB up)
theorem ok_mk (ar : Nat → List UInt8) (k n st d : Int) (i : Ins) (d0 : 0 ≤ d) (d1 : d ≤ 10000) (a0 : 0 ≤ i.area) (a4 : i.area ≤ 4) (a1 : 3 ≤ i.op ∧ i.op ≤ 6 ∨ 34 ≤ i.op ∧ i.op ≤ 36 → 1 ≤ i.area) (t0 : 34 ≤ i.op ∧ i.op ≤ 36 → 0 ≤ i.at_ ∧ i.at_ ≤ 1000) (n0 : -9223372036854775808 ≤ i.n) (n1 : i.n ≤ 9223372036854775807) (h33 : i.op ≠ 33) : StepOk (tick ⟨ar, k, n, [], st, 0, d⟩) i :=
  ⟨a0, a4, a1, t0, n0, n1, fun h => absurd h h33, by show ([] : List (Int × Int × Int)).length ≤ 1000; decide, Int.le_refl _, by show (0 : Int) ≤ 1048576; decide, d0, d1⟩
theorem st_ld (ar : Nat → List UInt8) (k n st d at_ : Int) : stepS (tick ⟨ar, k, n, [], st, 0, d⟩) ⟨1, 1, 1, at_, 0⟩ = ⟨ar, 1, GL (ar 1) at_ 1, [], st + 1, 0, d⟩ := by
  simp [stepS, tick, operandS, getS_GL]
theorem st_st (ar : Nat → List UInt8) (k n st d at_ : Int) : stepS (tick ⟨ar, k, n, [], st, 0, d⟩) ⟨3, 1, 2, at_, 0⟩ = ⟨PA ar 2 at_ 1 n, k, n, [], st + 1, 0, d⟩ := by
  simp [stepS, tick, putS_PA]
theorem st_ton (ar : Nat → List UInt8) (k n st d m : Int) : stepS (tick ⟨ar, k, n, [], st, 0, d⟩) ⟨34, 0, 3, 0, m⟩ = ⟨PA ar 3 0 7 (if n = 1 then min (GL (ar 3) 0 7 + d) m else 0), 1, truthN (decide (n = 1) && decide ((if n = 1 then min (GL (ar 3) 0 7 + d) m else 0) = m)), [], st + 1, 0, d⟩ := by
  by_cases h : n = 1
  · simp [stepS, tick, timerS, timerN, isB, putS_PA, getS_GL, h]
  · simp [stepS, tick, timerS, timerN, isB, putS_PA, getS_GL, h]
theorem st_ctu (ar : Nat → List UInt8) (k n st d m : Int) : stepS (tick ⟨ar, k, n, [], st, 0, d⟩) ⟨35, 0, 4, 0, m⟩ =
    ⟨if (decide (n = 1) && decide (GL (ar 4) 4 1 = 0)) = true then PA (PA ar 4 4 1 n) 4 0 7 (min (GL (ar 4) 0 7 + 1) m) else PA ar 4 4 1 n, 1, truthN (decide (m ≤ if (decide (n = 1) && decide (GL (ar 4) 4 1 = 0)) = true then min (GL (ar 4) 0 7 + 1) m else GL (ar 4) 0 7)), [], st + 1, 0, d⟩ := by
  by_cases h : (decide (n = 1) && decide (GL (ar 4) 4 1 = 0)) = true
  · simp only [h, if_true]
    have hr : risesB (tick ⟨ar, k, n, [], st, 0, d⟩) 4 (0 + 4) = true := h
    simp only [stepS, counterS, counterN, hr, if_true]
    simp [tick, putS_PA, getS_GL]
    try rfl
  · have hr : ¬ risesB (tick ⟨ar, k, n, [], st, 0, d⟩) 4 (0 + 4) = true := h
    simp only [h, if_false]
    simp only [stepS, counterS, counterN, hr, if_false]
    simp [tick, putS_PA, getS_GL]
    try rfl
theorem st_trig (ar : Nat → List UInt8) (k n st d : Int) : stepS (tick ⟨ar, k, n, [], st, 0, d⟩) ⟨36, 0, 3, 9, 0⟩ = ⟨PA ar 3 9 1 n, 1, truthN (decide (n = 1) && decide (GL (ar 3) 9 1 = 0)), [], st + 1, 0, d⟩ := by
  simp [stepS, tick, risesB, isB, putS_PA, getS_GL]
  try rfl
theorem ite_fun {c : Prop} [Decidable c] (f g : Nat → List UInt8) (j : Nat) : (if c then f else g) j = if c then f j else g j := by split <;> rfl
/-- One run of it, whole. -/
theorem times_goS (m d : Int) (h1 : 1 ≤ m) (h2 : m ≤ 500) (d0 : 0 ≤ d) (d1 : d ≤ 10000) (ar : Nat → List UInt8) :
    ∃ s, goS (timesCode m) 10 0 ⟨ar, 0, 0, [], 0, 0, d⟩ = some s ∧ ∃ i0 T b0 i1 N b1 i2 b2 : Int, ∃ r : Bool, i0 = GL (ar 1) 0 1 ∧ T = (if i0 = 1 then min (GL (ar 3) 0 7 + d) m else 0) ∧ b0 = truthN (decide (i0 = 1) && decide (T = m)) ∧ i1 = GL (ar 1) 1 1 ∧ r = (decide (i1 = 1) && decide (GL (ar 4) 4 1 = 0)) ∧
      N = (if r = true then min (GL (ar 4) 0 7 + 1) m else GL (ar 4) 0 7) ∧ b1 = truthN (decide (m ≤ N)) ∧ b2 = truthN (decide (i1 = 1) && decide (GL (putL2 (ar 3) 0 7 T) 9 1 = 0)) ∧
      s.ar 2 = putL2 (putL2 (putL2 (ar 2) 0 1 b0) 1 1 b1) 2 1 b2 ∧ s.ar 3 = putL2 (putL2 (ar 3) 0 7 T) 9 1 i1 ∧ s.ar 4 = if r = true then putL2 (putL2 (ar 4) 4 1 i1) 0 7 N else putL2 (ar 4) 4 1 i1 := by
  rw [goS_op (i := ⟨1, 1, 1, 0, 0⟩) (by show 0 < 9; omega) rfl (by decide) (ok_mk _ _ _ _ _ _ d0 d1 (by decide) (by decide) (by decide) (by decide) (by decide) (by decide) (by decide)), st_ld]
  rw [goS_op (i := ⟨34, 0, 3, 0, m⟩) (by show 1 < 9; omega) rfl (by simp) (ok_mk _ _ _ _ _ _ d0 d1 (by simp) (by simp) (by simp) (by simp) (by show _ ≤ m; omega) (by show m ≤ _; omega) (by simp)), st_ton]
  rw [goS_op (i := ⟨3, 1, 2, 0, 0⟩) (by show 2 < 9; omega) rfl (by decide) (ok_mk _ _ _ _ _ _ d0 d1 (by decide) (by decide) (by decide) (by decide) (by decide) (by decide) (by decide)), st_st]
  rw [goS_op (i := ⟨1, 1, 1, 1, 0⟩) (by show 3 < 9; omega) rfl (by decide) (ok_mk _ _ _ _ _ _ d0 d1 (by decide) (by decide) (by decide) (by decide) (by decide) (by decide) (by decide)), st_ld]
  rw [goS_op (i := ⟨35, 0, 4, 0, m⟩) (by show 4 < 9; omega) rfl (by simp) (ok_mk _ _ _ _ _ _ d0 d1 (by simp) (by simp) (by simp) (by simp) (by show _ ≤ m; omega) (by show m ≤ _; omega) (by simp)), st_ctu]
  rw [goS_op (i := ⟨3, 1, 2, 1, 0⟩) (by show 5 < 9; omega) rfl (by decide) (ok_mk _ _ _ _ _ _ d0 d1 (by decide) (by decide) (by decide) (by decide) (by decide) (by decide) (by decide)), st_st]
  rw [goS_op (i := ⟨1, 1, 1, 1, 0⟩) (by show 6 < 9; omega) rfl (by decide) (ok_mk _ _ _ _ _ _ d0 d1 (by decide) (by decide) (by decide) (by decide) (by decide) (by decide) (by decide)), st_ld]
  rw [goS_op (i := ⟨36, 0, 3, 9, 0⟩) (by show 7 < 9; omega) rfl (by decide) (ok_mk _ _ _ _ _ _ d0 d1 (by decide) (by decide) (by decide) (by decide) (by decide) (by decide) (by decide)), st_trig]
  rw [goS_op (i := ⟨3, 1, 2, 2, 0⟩) (by show 8 < 9; omega) rfl (by decide) (ok_mk _ _ _ _ _ _ d0 d1 (by decide) (by decide) (by decide) (by decide) (by decide) (by decide) (by decide)), st_st]
  rw [goS_end (by show 9 ≤ 9; omega)]
  refine ⟨_, rfl, GL (ar 1) 0 1, _, _, GL (ar 1) 1 1, _, _, GL (ar 1) 1 1, _, _, rfl, rfl, rfl, rfl, rfl, rfl, rfl, rfl, ?_, ?_, ?_⟩
  · simp [PA, ite_fun]
  · simp [PA, ite_fun]
  · simp [PA, ite_fun]
    split <;> simp_all
def listOf (s : ByteArray) : List UInt8 := s.data.toList
theorem listOf_len (s : ByteArray) : (listOf s).length = s.size := by simp [listOf]
theorem listOf_mk (l : List UInt8) : listOf ⟨l.toArray⟩ = l := by simp [listOf]
theorem areaV_full (s : ByteArray) (h : s.size = 64) : areaV s = s := by
  unfold areaV
  rw [if_pos (by omega)]
  have e : ((s.extract 0 64).data.toList) = s.data.toList := by
    rw [ByteArray.data_extract]
    have : s.data.size = 64 := h
    simp [Array.toList_extract, List.extract_eq_take_drop]
    exact List.take_of_length_le (by simp; omega)
  apply ByteArray.ext
  exact Array.toList_inj.1 e
theorem areaV_short (s : ByteArray) (h : s.size < 64) : listOf (areaV s) = listOf s ++ List.replicate (64 - s.size) 0 := by
  unfold areaV
  rw [if_neg (by omega)]
  simp [listOf, ByteArray.data_append]
theorem bitB_01 {v : Int} (h : v = 0 ∨ v = 1) : ((bitB v).toNat : Int) = v := by
  rcases h with rfl | rfl <;> rfl
theorem truthN_01 (b : Bool) : truthN b = 0 ∨ truthN b = 1 := by cases b <;> simp [truthN]
theorem set_getD_ne (l : List UInt8) (i j : Nat) (v : UInt8) (h : i ≠ j) : (l.set i v).getD j 0 = l.getD j 0 := by
  rw [List.getD_eq_getElem?_getD, List.getElem?_set_ne h, ← List.getD_eq_getElem?_getD]
theorem set_getD_eq (l : List UInt8) (i : Nat) (v : UInt8) (h : i < l.length) : (l.set i v).getD i 0 = v := by
  rw [List.getD_eq_getElem?_getD, List.getElem?_set_self h]; rfl
theorem app_getD (L : List UInt8) (N : Int) (j : Nat) (hj : 4 ≤ j) : (toBE 4 N ++ L.drop 4).getD j 0 = L.getD j 0 := by
  rw [List.getD_eq_getElem?_getD, List.getElem?_append_right (by rw [toBE_length]; exact hj), List.getElem?_drop, toBE_length, ← List.getD_eq_getElem?_getD, show 4 + (j - 4) = j by omega]
/-- What stands in the areas behind so many runs. -/
structure TInv (y : Img) (sum ups prev m : Int) : Prop where
  q : y.Q.size = 64
  mm : y.M.size = 64
  r : y.R.size = 64
  tm : beI ((listOf y.M).take 4) = min sum m
  tp : (((listOf y.M).getD 9 0).toNat : Int) = prev
  cm : beI ((listOf y.R).take 4) = min ups m
  cp : (((listOf y.R).getD 4 0).toNat : Int) = prev
set_option maxHeartbeats 1000000 in
theorem times_bytes (Q M R I : List UInt8) (m d sum ups prev i0 up : Int) (hq : Q.length = 64) (hm : M.length = 64) (hr : R.length = 64) (hI : I.length = 64)
    (tm : beI (M.take 4) = min sum m) (tp : ((M.getD 9 0).toNat : Int) = prev) (cm : beI (R.take 4) = min ups m) (cp : ((R.getD 4 0).toNat : Int) = prev)
    (h1 : 1 ≤ m) (h2 : m ≤ 500) (d0 : 0 ≤ d) (d1 : d ≤ 10000) (s0 : 0 ≤ sum) (u0 : 0 ≤ ups) (p01 : prev = 0 ∨ prev = 1) (hi : i0 = 0 ∨ i0 = 1) (hup : up = 0 ∨ up = 1) (g0 : ((I.getD 0 0).toNat : Int) = i0) (g1 : ((I.getD 1 0).toNat : Int) = up) (hpu : ¬ (prev = 1 ∧ up = 1))
    (ar : Nat → List UInt8) (a1 : ar 1 = I) (a2 : ar 2 = Q) (a3 : ar 3 = M) (a4 : ar 4 = R) :
    ∃ s, goS (timesCode m) 10 0 ⟨ar, 0, 0, [], 0, 0, d⟩ = some s ∧ (s.ar 2).length = 64 ∧ (s.ar 3).length = 64 ∧ (s.ar 4).length = 64 ∧
      beI ((s.ar 3).take 4) = (if i0 = 1 then min (sum + d) m else 0) ∧ (s.ar 3).take 4 = toBE 4 (if i0 = 1 then min (sum + d) m else 0) ∧ (((s.ar 3).getD 9 0).toNat : Int) = up ∧ beI ((s.ar 4).take 4) = min (ups + up) m ∧ (((s.ar 4).getD 4 0).toNat : Int) = up ∧
      (((s.ar 2).getD 0 0).toNat : Int) = truthN (decide (i0 = 1 ∧ m ≤ sum + d)) ∧ (((s.ar 2).getD 1 0).toNat : Int) = truthN (decide (m ≤ ups + up)) ∧ (((s.ar 2).getD 2 0).toNat : Int) = up := by
  obtain ⟨s, hs, I0, T, b0, I1, N, b1, I2, b2, r, e1, e2, e3, e4, e5, e6, e7, e8, e9, e10, e11⟩ := times_goS m d h1 h2 d0 d1 ar
  rw [a1, GL_1z I 0 0 rfl hI (by omega), g0] at e1
  rw [a1, GL_1z I 1 1 rfl hI (by omega), g1] at e4
  rw [a3] at e2 e8 e10
  rw [a4] at e5 e6 e11
  rw [a2] at e9
  have e1' : I0 = i0 := by rw [e1]; rcases hi with rfl | rfl <;> rfl
  have e4' : I1 = up := by rw [e4]; rcases hup with rfl | rfl <;> rfl
  rw [e1'] at e2 e3
  rw [e4'] at e5 e8 e10 e11
  clear e1 e4 e1' e4'
  have hT7 : GL M 0 7 = min sum m := (GL_7z M 0 0 rfl hm (by omega)).trans tm
  have hR7 : GL R 0 7 = min ups m := (GL_7z R 0 0 rfl hr (by omega)).trans cm
  have hR4 : GL R 4 1 = prev := by rw [GL_1z R 4 4 rfl hr (by omega), cp]; rcases p01 with rfl | rfl <;> rfl
  rw [hT7] at e2
  rw [hR4] at e5
  rw [hR7] at e6
  have eT : T = if i0 = 1 then min (sum + d) m else 0 := by rw [e2]; split <;> omega
  have T0 : 0 ≤ T := by rw [eT]; split <;> omega
  have T1 : T ≤ 500 := by rw [eT]; split <;> omega
  have er : r = decide (up = 1) := by
    rw [e5]
    rcases hup with h | h <;> rcases p01 with h' | h' <;> simp [h, h'] <;> omega
  have eN : N = min (ups + up) m := by
    rw [e6, er]
    rcases hup with rfl | rfl
    · simp
    · simp; omega
  have N0 : 0 ≤ N := by omega
  have N1 : N ≤ 500 := by omega
  rw [put_7 M T hm, Int.emod_eq_of_lt T0 (by omega)] at e8 e10
  have lM : (toBE 4 T ++ M.drop 4).length = 64 := by simp [toBE_length, hm]
  have h9 : (toBE 4 T ++ M.drop 4).getD 9 0 = M.getD 9 0 := app_getD M T 9 (by decide)
  have e8' : b2 = up := by
    rw [e8, GL_1z _ 9 9 rfl lM (by omega), h9, tp]
    rcases hup with h | h <;> rcases p01 with h' | h' <;> simp [h, h', truthN] <;> omega
  rw [put_1z _ 9 9 up rfl lM (by omega)] at e10
  have lR : (R.set 4 (bitB up)).length = 64 := by simp [hr]
  rw [put_1z R 4 4 up rfl hr (by omega), put_7 _ N lR, Int.emod_eq_of_lt N0 (by omega)] at e11
  have l0 : (Q.set 0 (bitB b0)).length = 64 := by simp [hq]
  have l1 : ((Q.set 0 (bitB b0)).set 1 (bitB b1)).length = 64 := by simp [hq]
  have e9' : s.ar 2 = ((Q.set 0 (bitB b0)).set 1 (bitB b1)).set 2 (bitB b2) := by
    rw [e9, put_1z Q 0 0 b0 rfl hq (by omega), put_1z _ 1 1 b1 rfl l0 (by omega), put_1z _ 2 2 b2 rfl l1 (by omega)]
  have b0' : b0 = 0 ∨ b0 = 1 := by rw [e3]; exact truthN_01 _
  have b1' : b1 = 0 ∨ b1 = 1 := by rw [e7]; exact truthN_01 _
  have t4 : ((toBE 4 T ++ M.drop 4).set 9 (bitB up)).take 4 = toBE 4 T := by
    rw [List.take_set_of_le (by omega), List.take_left' (toBE_length 4 T)]
  refine ⟨s, hs, by rw [e9']; simp [hq], by rw [e10]; simp [lM], ?_, ?_, ?_, ?_, ?_, ?_, ?_, ?_, ?_⟩
  · rw [e11]
    split
    · simp [toBE_length, hr]
    · simp [hr]
  · rw [e10, t4, beI_toBE, ← eT]
    exact Int.emod_eq_of_lt T0 (by omega)
  · rw [e10, t4, eT]
  · rw [e10, set_getD_eq _ _ _ (by omega)]
    exact bitB_01 hup
  · rw [e11]
    rcases hup with rfl | rfl
    · rw [if_neg (by simp [er]), List.take_set_of_le (by omega), cm]
      omega
    · rw [if_pos (by simp [er]), List.take_left' (toBE_length 4 N), beI_toBE, ← eN]
      exact Int.emod_eq_of_lt N0 (by omega)
  · rw [e11]
    split
    · rw [app_getD _ _ 4 (by decide), set_getD_eq _ _ _ (by omega)]
      exact bitB_01 hup
    · rw [set_getD_eq _ _ _ (by omega)]
      exact bitB_01 hup
  · rw [e9', set_getD_ne _ _ _ _ (by decide), set_getD_ne _ _ _ _ (by decide), set_getD_eq _ _ _ (by omega), bitB_01 b0', e3, eT]
    congr 1
    rcases hi with rfl | rfl
    · simp
    · rw [Bool.eq_iff_iff]
      simp
      omega
  · rw [e9', set_getD_ne _ _ _ _ (by decide), set_getD_eq _ _ _ (by omega), bitB_01 b1', e7, eN]
    congr 1
    rw [Bool.eq_iff_iff]
    simp
    omega
  · rw [e9', set_getD_eq _ _ _ (by omega), e8']
    exact bitB_01 hup
end Go.Proofs.Ytkhnalboodkddaa
