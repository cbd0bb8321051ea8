import Derived.Test.YtkhnalboodkddaaVm2
import Derived.Lib.SlBytesRow
set_option linter.unusedSimpArgs false
set_option linter.unusedVariables false
set_option maxRecDepth 100000
namespace Go.Proofs.Ytkhnalboodkddaa
open Go.RowKit
/-- What a run has: its areas (1 to 4), its result, its open brackets (operation, kind, number), what it counted, the time that passed. -/
structure Rs where
  ar : Nat → List UInt8
  kind : Int
  n : Int
  op : List (Int × Int × Int)
  steps : Int
  zero : Int
  passed : Int
def getS (s : Rs) (area at_ k : Int) : Int := if thereB 64 at_ k = true then getV ⟨(s.ar area.toNat).toArray⟩ at_ k else 0
def putL2 (l : List UInt8) (at_ k v : Int) : List UInt8 := if thereB 64 at_ k = true then putL l at_.toNat (ksize k).toNat (wrapK k v) else l
def putS (s : Rs) (area at_ k v : Int) : Rs := { s with ar := fun i => if i = area.toNat then putL2 (s.ar i) at_ k v else s.ar i }
def bkCells (l : List (Int × Int × Int)) : List Value := l.flatMap fun x => [.int .i64 x.1, .int .i64 x.2.1, .int .i64 x.2.2]
def runCells (b c : Nat → Nat) (s : Rs) (V : Value) : Array Value :=
  #[.slice none 0 0, .slice (some ⟨b 1, 0, none⟩) 64 (c 1), .slice (some ⟨b 2, 0, none⟩) 64 (c 2), .slice (some ⟨b 3, 0, none⟩) 64 (c 3), .slice (some ⟨b 4, 0, none⟩) 64 (c 4),
    .int .i64 s.kind, .int .i64 s.n, V, .int .i64 s.steps, .int .i64 s.zero, .int .i64 0, .int .i64 0, .int .i64 s.passed]
/-- A run in memory, at r; its areas' bytes at b 1 to b 4. -/
structure RAt (w : World) (B r : Nat) (b c : Nat → Nat) (s : Rs) (V : Value) : Prop where
  blk : w.heap[r]? = some (.cells (runCells b c s V) 75 (0, 0))
  own : w.ownsRow B 135 3 V s.op.length (bkCells s.op)
  sep : ∀ g, V.ownBlock = some g → g ≠ r ∧ ∀ i, 1 ≤ i → i ≤ 4 → g ≠ b i
  area : ∀ i, 1 ≤ i → i ≤ 4 → Area w (b i) (s.ar i)
  len : ∀ i, 1 ≤ i → i ≤ 4 → (s.ar i).length = 64
  ne : ∀ i, 1 ≤ i → i ≤ 4 → b i ≠ r
  inj : ∀ i j, 1 ≤ i → i ≤ 4 → 1 ≤ j → j ≤ 4 → b i = b j → i = j
  base : B ≤ r ∧ ∀ i, 1 ≤ i → i ≤ 4 → B ≤ b i
theorem RAt.lt {w : World} {B r : Nat} {b c : Nat → Nat} {s : Rs} {V : Value} (h : RAt w B r b c s V) : r < w.heap.size := heap_lt h.blk
theorem RAt.cell {w : World} {B r : Nat} {b c : Nat → Nat} {s : Rs} {V : Value} (h : RAt w B r b c s V) (o : Nat) : w.cell? ⟨r, o, none⟩ = (runCells b c s V)[o]? := cell_of_heap h.blk o
theorem RAt.free {w : World} {B r : Nat} {b c : Nat → Nat} {s : Rs} {V : Value} (h : RAt w B r b c s V) (o : Nat) : w.frozen? ⟨r, o, none⟩ = false := frozen_of_heap h.blk o
theorem RAt.below {w w' : World} {B r : Nat} {b c : Nat → Nat} {s : Rs} {V : Value} (h : RAt w B r b c s V) (hb : Below w.heap.size w w') : RAt w' B r b c s V where
  blk := (hb.block r h.lt).trans h.blk
  own := by
    refine ⟨h.own.1, ?_⟩
    rcases h.own.2 with h1 | ⟨g, cap, cur, h1, h2, h3, h4⟩
    · exact Or.inl h1
    · exact Or.inr ⟨g, cap, cur, h1, h2, (hb.block g (heap_lt h3)).trans h3, h4⟩
  sep := h.sep
  area := fun i h1 h2 => (h.area i h1 h2).below hb
  len := h.len
  ne := h.ne
  inj := h.inj
  base := h.base
theorem value_is (k n : Int) (w : World) : Calls Try.prog 69 #[.agg #[.int .i64 k, .int .i64 n]] w fun e w' => e = .returned (.bool (decide (n = 1))) ∧ Below w.heap.size w w' := by
  go_enter Try.func69, Try.ntmps69
  go_wp2
  go_ret
  exact ⟨ret_bool (by first | rfl | (simp; omega) | (rw [Bool.eq_iff_iff]; simp; omega)), (by repeat (first | exact Below.refl _ _ | assumption | (with_reducible refine below_alloc' ?_ _) | (with_reducible refine below_drew' ?_) | (with_reducible refine below_drewN' ?_ _) | (with_reducible refine below_setCell' ?_ (by first | omega | (simp; omega) | (simp; done)) _) | (refine below_then' ?_ (by assumption))))⟩
def truthN (b : Bool) : Int := if b then 1 else 0
theorem truth_any (b : Bool) (w : World) : Calls Try.prog 76 #[.bool b] w fun e w' => e = .returned (.agg #[.int .i64 1, .int .i64 (truthN b)]) ∧ Below w.heap.size w w' := by
  cases b
  · go_enter Try.func76, Try.ntmps76
    go_wp2
    exact bodyPost_ret (v := .agg #[.int .i64 1, .int .i64 0]) (by simp [results, Try.results76, go_sem]) rfl ⟨rfl, (by repeat (first | exact Below.refl _ _ | assumption | (with_reducible refine below_alloc' ?_ _) | (with_reducible refine below_drew' ?_) | (with_reducible refine below_drewN' ?_ _) | (with_reducible refine below_setCell' ?_ (by first | omega | (simp; omega) | (simp; done)) _) | (refine below_then' ?_ (by assumption))))⟩
  · go_enter Try.func76, Try.ntmps76
    go_wp2
    exact bodyPost_ret (v := .agg #[.int .i64 1, .int .i64 1]) (by simp [results, Try.results76, go_sem]) rfl ⟨rfl, (by repeat (first | exact Below.refl _ _ | assumption | (with_reducible refine below_alloc' ?_ _) | (with_reducible refine below_drew' ?_) | (with_reducible refine below_drewN' ?_ _) | (with_reducible refine below_setCell' ?_ (by first | omega | (simp; omega) | (simp; done)) _) | (refine below_then' ?_ (by assumption))))⟩
theorem Area.bytes {w : World} {b : Nat} {l : List UInt8} (h : Area w b l) : Lib.Bytes w b 0 ⟨l.toArray⟩ := by
  intro i hi
  have hi' : i < l.length := hi
  rw [Nat.zero_add, h.cell i hi', List.getD_eq_getElem?_getD, List.getElem?_eq_getElem hi']
  rfl
theorem Area.conv {w : World} {b : Nat} {l : List UInt8} (h : Area w b l) (cap n : Nat) (hn : n = l.length) :
    (convert 37 9 (.slice (some ⟨b, 0, none⟩) n cap)).run Try.prog w = .ok (.string ⟨l.toArray⟩) w := by
  have e : n = (⟨l.toArray⟩ : ByteArray).size := by rw [hn]; rfl
  rw [e]
  exact Lib.run_convert_whole w 37 5 9 Try.underlying37 Try.underlying5 Try.underlying9 b 0 _ h.bytes cap
theorem get_area (s : Rs) (a : Nat) (area at_ k : Int) (W : World) (ha : area = a) (hl : (s.ar a).length = 64) :
    Calls Try.prog 117 #[.string ⟨(s.ar a).toArray⟩, .int .i64 at_, .int .i64 k] W fun e w' => ∃ ok, e = .returned (.tuple #[.int .i64 (getS s area at_ k), .bool ok]) ∧ Below W.heap.size W w' := by
  subst ha
  have hz : (⟨(s.ar a).toArray⟩ : ByteArray).size = 64 := hl
  by_cases h : thereB 64 at_ k = true
  · refine (get_yes ⟨(s.ar a).toArray⟩ at_ k W (by unfold maxLen; omega) (by rw [hz]; exact h)).mono ?_
    rintro e w' ⟨rfl, hb⟩
    exact ⟨true, by simp [getS, h], hb⟩
  · have h' : thereB 64 at_ k = false := by simpa using h
    refine (get_no ⟨(s.ar a).toArray⟩ at_ k W (by unfold maxLen; omega) (by rw [hz]; exact h')).mono ?_
    rintro e w' ⟨rfl, hb⟩
    exact ⟨false, by simp [getS, h'], hb⟩
theorem rget_any (B r : Nat) (b c : Nat → Nat) (s : Rs) (V : Value) (area at_ k : Int) (w : World) (h : RAt w B r b c s V) (h1 : 1 ≤ area) (h4 : area ≤ 4) :
    Calls Try.prog 108 #[.pointer (some ⟨r, 0, none⟩), .int .i64 area, .int .i64 at_, .int .i64 k] w fun e w' => e = .returned (.int .i64 (getS s area at_ k)) ∧ Below w.heap.size w w' := by
  obtain ⟨a, rfl⟩ : ∃ a : Nat, area = a := ⟨area.toNat, by omega⟩
  have hc : w.cell? ⟨r, a, none⟩ = some (.slice (some ⟨b a, 0, none⟩) 64 (c a)) := by
    rw [h.cell]
    have : a = 1 ∨ a = 2 ∨ a = 3 ∨ a = 4 := by omega
    rcases this with rfl | rfl | rfl | rfl <;> rfl
  have hv := (h.area a (by omega) (by omega)).conv (c a) 64 (h.len a (by omega) (by omega)).symm
  have K := hid fun W => get_area s a a at_ k W rfl (h.len a (by omega) (by omega))
  generalize getS s a at_ k = v at *
  generalize s.ar a = l at *
  clear h
  go_enter Try.func108, Try.ntmps108
  go_wp2_with (first | (go_at_call 117; refine (K.out _).mono ?_; rintro e w1 ⟨ok, rfl, hb⟩))
  go_ret
  exact ⟨rfl, by assumption⟩
end Go.Proofs.Ytkhnalboodkddaa
