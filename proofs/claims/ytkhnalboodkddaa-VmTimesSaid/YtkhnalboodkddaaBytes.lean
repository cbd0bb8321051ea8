import Derived.Test.YtkhnalboodkddaaBase
set_option linter.unusedSimpArgs false
set_option linter.unusedVariables false
namespace Go.Proofs.Ytkhnalboodkddaa
open Go.RowKit
/-- The number in bytes, the highest first. -/
def beI (l : List UInt8) : Int := l.foldl (fun a c => a * 256 + (c.toNat : Int)) 0
theorem beI_snoc (l : List UInt8) (c : UInt8) : beI (l ++ [c]) = beI l * 256 + (c.toNat : Int) := by simp [beI]
theorem u8_range (c : UInt8) : (0 : Int) ≤ c.toNat ∧ (c.toNat : Int) < 256 := by
  have := c.toNat_lt
  omega
theorem list_snoc_cases {α : Type} (l : List α) : l = [] ∨ ∃ x c, l = x ++ [c] := by
  rcases List.eq_nil_or_concat l with h | ⟨x, c, h⟩
  · exact Or.inl h
  · exact Or.inr ⟨x, c, by simpa using h⟩
theorem beI_bound (n : Nat) : ∀ l : List UInt8, l.length = n → 0 ≤ beI l ∧ beI l < 256 ^ n := by
  induction n with
  | zero => intro l h; obtain rfl := List.eq_nil_of_length_eq_zero h; simp [beI]
  | succ n ih =>
    intro l h
    rcases list_snoc_cases l with rfl | ⟨x, c, rfl⟩
    · simp at h
    · have hx := ih x (by simpa using h)
      have hc := u8_range c
      rw [beI_snoc, Int.pow_succ]
      constructor <;> omega
theorem beI_bound4 (l : List UInt8) (h : l.length ≤ 4) : 0 ≤ beI l ∧ beI l < 4294967296 := by
  have hb := beI_bound l.length l rfl
  refine ⟨hb.1, ?_⟩
  have : l.length = 0 ∨ l.length = 1 ∨ l.length = 2 ∨ l.length = 3 ∨ l.length = 4 := by omega
  rcases this with h | h | h | h | h <;> rw [h] at hb <;> omega
theorem beI_bound3 (l : List UInt8) (h : l.length ≤ 3) : 0 ≤ beI l ∧ beI l < 16777216 := by
  have hb := beI_bound l.length l rfl
  refine ⟨hb.1, ?_⟩
  have : l.length = 0 ∨ l.length = 1 ∨ l.length = 2 ∨ l.length = 3 := by omega
  rcases this with h | h | h | h <;> rw [h] at hb <;> omega
theorem or_join (v c : Int) (h0 : 0 ≤ v) (h1 : v < 140737488355328) (h2 : 0 ≤ c) (h3 : c < 256) : bits .or .i64 (v * 256) c = v * 256 + c :=
  bits_join .i64 63 (by decide) (fun n a b => IntWalk.i64_in n (by omega)) 8 (v * 256) c (by omega) (by omega) (by omega) h2 (by omega) (by omega)
theorem take_snoc (l : List UInt8) (k : Nat) (h : k < l.length) : l.take (k + 1) = l.take k ++ [l.getD k 0] := by
  rw [List.take_succ_eq_append_getElem h]
  simp [List.getD_eq_getElem?_getD, List.getElem?_eq_getElem h]
theorem data_len (s : ByteArray) : s.data.toList.length = s.size := by rw [Array.length_toList]; rfl
def byteI (v : Int) : UInt8 := UInt8.ofNat (v % 256).toNat
theorem byteI_toNat (v : Int) : ((byteI v).toNat : Int) = v % 256 := by
  unfold byteI
  rw [UInt8.toNat_ofNat']
  have := Int.emod_nonneg v (show (256 : Int) ≠ 0 by decide)
  have := Int.emod_lt_of_pos v (show (0 : Int) < 256 by decide)
  omega
/-- The lowest n bytes of a number, the highest first. -/
def toBE : Nat → Int → List UInt8
  | 0, _ => []
  | n + 1, v => toBE n (v / 256) ++ [byteI v]
theorem toBE_length (n : Nat) : ∀ v, (toBE n v).length = n := by
  induction n with
  | zero => intro v; rfl
  | succ n ih => intro v; simp [toBE, ih]
theorem toBE_front (n : Nat) : ∀ v, toBE (n + 1) v = byteI (v / 256 ^ n) :: toBE n v := by
  induction n with
  | zero => intro v; simp [toBE]
  | succ n ih =>
    intro v
    rw [toBE, ih (v / 256), toBE]
    have : v / 256 / 256 ^ n = v / 256 ^ (n + 1) := by
      rw [Int.pow_succ, Int.mul_comm, Int.ediv_ediv_of_nonneg (by decide)]
    rw [this]
    rfl
/-- A list with bytes of a number put into it. -/
def putL (l : List UInt8) (p n : Nat) (v : Int) : List UInt8 := l.take p ++ toBE n v ++ l.drop (p + n)
theorem putL_length (l : List UInt8) (p n : Nat) (v : Int) (h : p + n ≤ l.length) : (putL l p n v).length = l.length := by
  simp [putL, toBE_length]; omega
/-- Bytes that a block begins with, none of them frozen. -/
structure Area (w : World) (b : Nat) (l : List UInt8) : Prop where
  cell : ∀ i, i < l.length → w.cell? ⟨b, i, none⟩ = some (.int .u8 ((l.getD i 0).toNat : Int))
  free : ∀ i, i < l.length → w.frozen? ⟨b, i, none⟩ = false
  lt : b < w.heap.size
theorem Area.only {w w' : World} {b : Nat} {l : List UInt8} {bs : List Nat} (h : Area w b l) (ho : Only bs w w') (hn : b ∉ bs) : Area w' b l :=
  ⟨fun i hi => (ho.cell h.lt hn i).trans (h.cell i hi), fun i hi => (ho.frozen h.lt hn i).trans (h.free i hi), Nat.lt_of_lt_of_le h.lt ho.size⟩
theorem Area.below {w w' : World} {b : Nat} {l : List UInt8} (h : Area w b l) (ho : Below w.heap.size w w') : Area w' b l := h.only (Only.of_below (bs := []) ho) (by simp)
theorem Area.set {w : World} {b : Nat} {l : List UInt8} (h : Area w b l) (i : Nat) (hi : i < l.length) (c : UInt8) : Area (w.setCell ⟨b, i, none⟩ (.int .u8 (c.toNat : Int))) b (l.set i c) := by
  refine ⟨fun j hj => ?_, fun j hj => ?_, by simp; exact h.lt⟩
  · rw [List.length_set] at hj
    by_cases e : i = j
    · subst e
      rw [World.cell?_setCell_same _ _ _ (h.cell i hi)]
      simp [List.getD_eq_getElem?_getD, hi]
    · rw [World.cell?_setCell_other _ _ _ _ (by simp [e]), h.cell j hj]
      simp [List.getD_eq_getElem?_getD, List.getElem?_set, e]
  · rw [List.length_set] at hj
    rw [World.frozen?_setCell]
    exact h.free j hj
theorem Area.congr {w : World} {b : Nat} {l m : List UInt8} (h : Area w b l) (e : l = m) : Area w b m := e ▸ h
theorem putL_step (l : List UInt8) (p n j : Nat) (v : Int) (h : p + n ≤ l.length) (hj : j < n) :
    (putL l (p + n - j) j v).set (p + n - (j + 1)) (byteI (v / 256 ^ j)) = putL l (p + n - (j + 1)) (j + 1) v := by
  unfold putL
  rw [toBE_front]
  apply List.ext_getElem?
  intro i
  have hl := toBE_length j v
  simp only [List.getElem?_set, List.getElem?_append, List.length_append, List.length_take, List.length_cons, hl, List.getElem?_take, List.getElem?_drop, List.getElem?_cons]
  have e1 : min (p + n - j) l.length = p + n - j := by omega
  have e2 : min (p + n - (j + 1)) l.length = p + n - (j + 1) := by omega
  rw [e1, e2]
  by_cases a : i < p + n - (j + 1)
  · rw [if_neg (by omega), if_pos (by omega), if_pos (by omega), if_pos (by omega), if_pos (by omega), if_pos (by omega), if_pos (by omega)]
  · by_cases b : i = p + n - (j + 1)
    · subst b
      rw [if_pos rfl, if_pos (by omega), if_pos (by omega), if_neg (by omega), if_pos (by omega)]
    · rw [if_neg (by omega)]
      by_cases c : i < p + n - j + j
      · rw [if_pos (by omega), if_neg (by omega), if_pos (by omega), if_neg (by omega), if_neg (by omega)]
        congr 1
        omega
      · rw [if_neg (by omega), if_neg (by omega)]
        congr 1
        omega
end Go.Proofs.Ytkhnalboodkddaa
