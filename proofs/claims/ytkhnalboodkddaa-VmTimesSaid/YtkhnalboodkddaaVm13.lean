import Derived.Test.YtkhnalboodkddaaVm12
import Derived.Lib.SlBytesRow
import Derived.Deep.CutBlock
import Derived.RegionTactic
import Derived.BigRegion
import Derived.Deep.RegionHeld3
import Derived.Outline
set_option linter.unusedSimpArgs false
set_option linter.unusedVariables false
set_option maxRecDepth 100000
namespace Go.Proofs.Ytkhnalboodkddaa
open Go.RowKit
def clampT (t : Int) : Int := min (max t 0) 10000
theorem bw_cell (W : World) (T : TypeId) (s : ByteArray) (b o : Nat) (h : b < W.heap.size) : (Lib.bytesWorld W T s).cell? ⟨b, o, none⟩ = W.cell? ⟨b, o, none⟩ := World.cell?_of_block (w := W) (Lib.bytesWorld_at_old W T s b h)
theorem bw_frozen (W : World) (T : TypeId) (s : ByteArray) (b o : Nat) (h : b < W.heap.size) : (Lib.bytesWorld W T s).frozen? ⟨b, o, none⟩ = W.frozen? ⟨b, o, none⟩ := World.frozen?_of_block (w := W) (Lib.bytesWorld_at_old W T s b h)
theorem bw_size (W : World) (T : TypeId) (s : ByteArray) : (Lib.bytesWorld W T s).heap.size = W.heap.size + 1 := by
  simp [Lib.bytesWorld, World.freeze, World.alloc, World.drew, -World.alloc_eq, -World.drew_eq]
def run0 (cl : Int) : Array Value := #[Value.slice none 0 0, Value.slice none 0 0, Value.slice none 0 0, Value.slice none 0 0, Value.slice none 0 0, Value.int IntKind.i64 0, Value.int IntKind.i64 0, Value.slice none 0 0, Value.int IntKind.i64 0, Value.int IntKind.i64 0, Value.int IntKind.i64 0, Value.int IntKind.i64 0, Value.int IntKind.i64 cl]
/-- The world ahead of the areas' bytes. -/
structure Rw (w W : World) (r : Nat) (y : Img) (cl : Int) : Prop where
  img : W.heap[w.heap.size]? = some (.cells #[.string y.I, .string y.Q, .string y.M, .string y.R] 24 (0, 0))
  res : W.heap[w.heap.size + 1]? = some (.cells #[.string ⟨#[]⟩, .string ⟨#[]⟩, .string ⟨#[]⟩, .string ⟨#[]⟩] 24 (0, 0))
  scan : W.heap[w.heap.size + 2]? = some (.cells #[.int .i64 0, .int .i64 0, .int .i64 0, .int .i64 0] 39 (0, 0))
  run : W.heap[r]? = some (.cells (run0 cl) 75 (0, 0))
  bel : Below w.heap.size w W
  r1 : w.heap.size + 3 ≤ r
  sz : W.heap.size = r + 1
theorem Rw.mk' {w w1 : World} {x y : Img} (cl : Int) (hb : Below (((w.alloc (.cells #[.string x.I, .string x.Q, .string x.M, .string x.R] 24)).alloc (.cells #[.string ⟨#[]⟩, .string ⟨#[]⟩, .string ⟨#[]⟩, .string ⟨#[]⟩] 24)).alloc (.cells #[.int .i64 0, .int .i64 0, .int .i64 0, .int .i64 0] 39)).heap.size (((w.alloc (.cells #[.string x.I, .string x.Q, .string x.M, .string x.R] 24)).alloc (.cells #[.string ⟨#[]⟩, .string ⟨#[]⟩, .string ⟨#[]⟩, .string ⟨#[]⟩] 24)).alloc (.cells #[.int .i64 0, .int .i64 0, .int .i64 0, .int .i64 0] 39)) w1) :
    Rw w (((((w1.setCell ⟨w.heap.size, 0, none⟩ (.string y.I)).setCell ⟨w.heap.size, 1, none⟩ (.string y.Q)).setCell ⟨w.heap.size, 2, none⟩ (.string y.M)).setCell ⟨w.heap.size, 3, none⟩ (.string y.R)).alloc (.cells (run0 cl) 75)) w1.heap.size y cl := by
  have hsz := hb.size
  simp only [World.size_alloc] at hsz
  have g0 : w1.heap[w.heap.size]? = some (.cells #[.string x.I, .string x.Q, .string x.M, .string x.R] 24 (0, 0)) := by
    rw [hb.block _ (by simp; omega), heap_alloc_old _ _ (by simp; omega), heap_alloc_old _ _ (by simp), heap_new]
  have g1 : w1.heap[w.heap.size + 1]? = some (.cells #[.string ⟨#[]⟩, .string ⟨#[]⟩, .string ⟨#[]⟩, .string ⟨#[]⟩] 24 (0, 0)) := by
    rw [hb.block _ (by simp), heap_alloc_old _ _ (by simp)]
    have := heap_new (w.alloc (.cells #[.string x.I, .string x.Q, .string x.M, .string x.R] 24)) (.cells #[.string ⟨#[]⟩, .string ⟨#[]⟩, .string ⟨#[]⟩, .string ⟨#[]⟩] 24)
    rw [World.size_alloc] at this
    exact this
  have g2 : w1.heap[w.heap.size + 2]? = some (.cells #[.int .i64 0, .int .i64 0, .int .i64 0, .int .i64 0] 39 (0, 0)) := by
    rw [hb.block _ (by simp)]
    have := heap_new ((w.alloc (.cells #[.string x.I, .string x.Q, .string x.M, .string x.R] 24)).alloc (.cells #[.string ⟨#[]⟩, .string ⟨#[]⟩, .string ⟨#[]⟩, .string ⟨#[]⟩] 24)) (.cells #[.int .i64 0, .int .i64 0, .int .i64 0, .int .i64 0] 39)
    rw [World.size_alloc, World.size_alloc] at this
    exact this
  refine ⟨?_, ?_, ?_, ?_, ?_, by omega, by simp⟩
  · rw [heap_alloc_old _ _ (by simp; omega), heap_setCell_same (heap_setCell_same (heap_setCell_same (heap_setCell_same g0 0 _) 1 _) 2 _) 3 _]
    rfl
  · rw [heap_alloc_old _ _ (by simp; omega), Below.heap_setCell _ _ _ _ (by simp), Below.heap_setCell _ _ _ _ (by simp), Below.heap_setCell _ _ _ _ (by simp), Below.heap_setCell _ _ _ _ (by simp)]
    exact g1
  · rw [heap_alloc_old _ _ (by simp; omega), Below.heap_setCell _ _ _ _ (by simp), Below.heap_setCell _ _ _ _ (by simp), Below.heap_setCell _ _ _ _ (by simp), Below.heap_setCell _ _ _ _ (by simp)]
    exact g2
  · have := heap_new ((((w1.setCell ⟨w.heap.size, 0, none⟩ (.string y.I)).setCell ⟨w.heap.size, 1, none⟩ (.string y.Q)).setCell ⟨w.heap.size, 2, none⟩ (.string y.M)).setCell ⟨w.heap.size, 3, none⟩ (.string y.R)) (.cells (run0 cl) 75)
    simpa using this
  · exact (by repeat (first | exact Below.refl _ _ | assumption | (with_reducible refine below_alloc' ?_ _) | (with_reducible refine below_drew' ?_) | (with_reducible refine below_drewN' ?_ _) | (with_reducible refine below_setCell' ?_ (by first | omega | (simp; omega) | (simp; done)) _) | (refine below_then' ?_ (by assumption))))
/-- The run as it begins. -/
def startS (y : Img) (cl : Int) : Rs := ⟨fun i => if i = 1 then y.I.data.toList else if i = 2 then y.Q.data.toList else if i = 3 then y.M.data.toList else y.R.data.toList, 0, 0, [], 0, 0, cl⟩
theorem area_bytes (W : World) (s : ByteArray) : Area (Lib.bytesWorld W 5 s) W.heap.size s.data.toList := by
  refine ⟨fun i hi => ?_, fun i hi => ?_, by rw [bw_size]; omega⟩
  · exact Lib.bytesWorld_cell W _ s i (by simpa using hi)
  · have h := Lib.bytesWorld_at_new W 5 s
    have h2 : s.size ≤ (Lib.bytesCells W 5 s).size := by simp [Lib.bytesCells]
    have h3 : i < s.size := by simpa using hi
    simp [World.frozen?, h]
    omega
theorem bw_below (W : World) (s : ByteArray) : Below W.heap.size W (Lib.bytesWorld W 5 s) :=
  ⟨rfl, rfl, rfl, by rw [bw_size]; omega, fun k hk => Lib.bytesWorld_at_old W _ s k hk⟩
/-- What stands ahead of the run's instructions. -/
structure Rz (w X : World) (r : Nat) (b c : Nat → Nat) (y : Img) (s : Rs) (V : Value) : Prop where
  run : RAt X r r b c s V
  img : X.heap[w.heap.size]? = some (.cells #[.string y.I, .string y.Q, .string y.M, .string y.R] 24 (0, 0))
  res : X.heap[w.heap.size + 1]? = some (.cells #[.string ⟨#[]⟩, .string ⟨#[]⟩, .string ⟨#[]⟩, .string ⟨#[]⟩] 24 (0, 0))
  scan : X.heap[w.heap.size + 2]? = some (.cells #[.int .i64 0, .int .i64 0, .int .i64 0, .int .i64 0] 39 (0, 0))
  bel : Below w.heap.size w X
  r1 : w.heap.size + 3 ≤ r
theorem Rz.step {w X Y : World} {r : Nat} {b c : Nat → Nat} {y : Img} {s s' : Rs} {V V' : Value} (h : Rz w X r b c y s V) (hb : Below r X Y) (hR : RAt Y r r b c s' V') : Rz w Y r b c y s' V' := by
  have := h.r1
  exact ⟨hR, (hb.block _ (by omega)).trans h.img, (hb.block _ (by omega)).trans h.res, (hb.block _ (by omega)).trans h.scan, h.bel.trans (hb.mono (by omega)), h.r1⟩
theorem Rz.mk' {w W : World} {r : Nat} {y : Img} {cl : Int} (h : Rw w W r y cl) (h1 : y.I.size = 64) (h2 : y.Q.size = 64) (h3 : y.M.size = 64) (h4 : y.R.size = 64) :
    ∃ b c, Rz w ((((((Lib.bytesWorld (Lib.bytesWorld (Lib.bytesWorld (Lib.bytesWorld W 5 y.I) 5 y.Q) 5 y.M) 5 y.R).setCell ⟨r, 0, none⟩ (.slice none 0 0)).setCell ⟨r, 1, none⟩ (.slice (some ⟨W.heap.size, 0, none⟩) y.I.size (grownCap W y.I.size 0 5))).setCell ⟨r, 2, none⟩ (.slice (some ⟨(Lib.bytesWorld W 5 y.I).heap.size, 0, none⟩) y.Q.size (grownCap (Lib.bytesWorld W 5 y.I) y.Q.size 0 5))).setCell ⟨r, 3, none⟩ (.slice (some ⟨(Lib.bytesWorld (Lib.bytesWorld W 5 y.I) 5 y.Q).heap.size, 0, none⟩) y.M.size (grownCap (Lib.bytesWorld (Lib.bytesWorld W 5 y.I) 5 y.Q) y.M.size 0 5))).setCell ⟨r, 4, none⟩ (.slice (some ⟨(Lib.bytesWorld (Lib.bytesWorld (Lib.bytesWorld W 5 y.I) 5 y.Q) 5 y.M).heap.size, 0, none⟩) y.R.size (grownCap (Lib.bytesWorld (Lib.bytesWorld (Lib.bytesWorld W 5 y.I) 5 y.Q) 5 y.M) y.R.size 0 5))) r b c y (startS y cl) (.slice none 0 0) := by
  have hr1 := h.r1
  have hsz := h.sz
  obtain ⟨V1, e1⟩ : ∃ V1, V1 = Lib.bytesWorld W 5 y.I := ⟨_, rfl⟩
  obtain ⟨V2, e2⟩ : ∃ V2, V2 = Lib.bytesWorld V1 5 y.Q := ⟨_, rfl⟩
  obtain ⟨V3, e3⟩ : ∃ V3, V3 = Lib.bytesWorld V2 5 y.M := ⟨_, rfl⟩
  obtain ⟨V4, e4⟩ : ∃ V4, V4 = Lib.bytesWorld V3 5 y.R := ⟨_, rfl⟩
  have z1 : V1.heap.size = W.heap.size + 1 := by rw [e1, bw_size]
  have z2 : V2.heap.size = W.heap.size + 2 := by rw [e2, bw_size]; omega
  have z3 : V3.heap.size = W.heap.size + 3 := by rw [e3, bw_size]; omega
  have z4 : V4.heap.size = W.heap.size + 4 := by rw [e4, bw_size]; omega
  have b1 : Below W.heap.size W V1 := by rw [e1]; exact bw_below _ _
  have b2 : Below V1.heap.size V1 V2 := by rw [e2]; exact bw_below _ _
  have b3 : Below V2.heap.size V2 V3 := by rw [e3]; exact bw_below _ _
  have b4 : Below V3.heap.size V3 V4 := by rw [e4]; exact bw_below _ _
  have a1 : Area V1 W.heap.size y.I.data.toList := by rw [e1]; exact area_bytes _ _
  have a2 : Area V2 V1.heap.size y.Q.data.toList := by rw [e2]; exact area_bytes _ _
  have a3 : Area V3 V2.heap.size y.M.data.toList := by rw [e3]; exact area_bytes _ _
  have a4 : Area V4 V3.heap.size y.R.data.toList := by rw [e4]; exact area_bytes _ _
  rw [← e1, ← e2, ← e3, ← e4]
  clear e1 e2 e3 e4
  generalize grownCap W y.I.size 0 5 = k1
  generalize grownCap V1 y.Q.size 0 5 = k2
  generalize grownCap V2 y.M.size 0 5 = k3
  generalize grownCap V3 y.R.size 0 5 = k4
  rw [h1, h2, h3, h4]
  have t12 := below_then' b1 b2
  have t13 := below_then' t12 b3
  have t14 := below_then' t13 b4
  have t24 : Below V1.heap.size V1 V4 := below_then' (below_then' b2 b3) b4
  have t34 : Below V2.heap.size V2 V4 := below_then' b3 b4
  have g1 : Area V4 W.heap.size y.I.data.toList := a1.below t24
  have g2 : Area V4 V1.heap.size y.Q.data.toList := a2.below t34
  have g3 : Area V4 V2.heap.size y.M.data.toList := a3.below b4
  have hrun : V4.heap[r]? = some (.cells (run0 cl) 75 (0, 0)) := (t14.block r (by omega)).trans h.run
  obtain ⟨X, hX⟩ : ∃ X, X = (((((V4.setCell ⟨r, 0, none⟩ (.slice none 0 0)).setCell ⟨r, 1, none⟩ (.slice (some ⟨W.heap.size, 0, none⟩) 64 k1)).setCell ⟨r, 2, none⟩ (.slice (some ⟨V1.heap.size, 0, none⟩) 64 k2)).setCell ⟨r, 3, none⟩ (.slice (some ⟨V2.heap.size, 0, none⟩) 64 k3)).setCell ⟨r, 4, none⟩ (.slice (some ⟨V3.heap.size, 0, none⟩) 64 k4)) := ⟨_, rfl⟩
  have oX : Only [r] V4 X := by rw [hX]; exact (((((Only.refl [r] V4).setCell (by simp) _).setCell (by simp) _).setCell (by simp) _).setCell (by simp) _).setCell (by simp) _
  have rX := heap_setCell_same (heap_setCell_same (heap_setCell_same (heap_setCell_same (heap_setCell_same hrun 0 (.slice none 0 0)) 1 (.slice (some ⟨W.heap.size, 0, none⟩) 64 k1)) 2 (.slice (some ⟨V1.heap.size, 0, none⟩) 64 k2)) 3 (.slice (some ⟨V2.heap.size, 0, none⟩) 64 k3)) 4 (.slice (some ⟨V3.heap.size, 0, none⟩) 64 k4)
  rw [← hX] at rX ⊢
  clear hX
  rw [z1, z2, z3] at rX
  have nr : ∀ j, r < j → j ∉ [r] := fun j hj hm => by simp at hm; omega
  have nl : ∀ j, j < r → j ∉ [r] := fun j hj hm => by simp at hm; omega
  refine ⟨fun i => W.heap.size + i - 1, fun i => if i = 1 then k1 else if i = 2 then k2 else if i = 3 then k3 else k4, ⟨rX, ⟨rfl, Or.inl ⟨rfl, rfl⟩⟩, fun g hg => by simp [Value.ownBlock] at hg, fun i i1 i4 => ?_, fun i i1 i4 => ?_, fun i i1 i4 => by show _ ≠ r; omega, fun i j i1 i4 j1 j4 e => by have e' : W.heap.size + i - 1 = W.heap.size + j - 1 := e; omega, Nat.le_refl _, fun i i1 i4 => by show r ≤ W.heap.size + i - 1; omega⟩, ?_, ?_, ?_, ?_, hr1⟩
  · have : i = 1 ∨ i = 2 ∨ i = 3 ∨ i = 4 := by omega
    rcases this with rfl | rfl | rfl | rfl
    · exact g1.only oX (nr _ (by omega))
    · have := g2.only oX (nr _ (by omega))
      rw [z1] at this
      exact this
    · have := g3.only oX (nr _ (by omega))
      rw [z2] at this
      exact this
    · have := a4.only oX (nr _ (by omega))
      rw [z3] at this
      exact this
  · have : i = 1 ∨ i = 2 ∨ i = 3 ∨ i = 4 := by omega
    rcases this with rfl | rfl | rfl | rfl
    · simpa [startS] using h1
    · simpa [startS] using h2
    · simpa [startS] using h3
    · simpa [startS] using h4
  · rw [oX.block _ (by omega) (nl _ (by omega)), t14.block _ (by omega)]; exact h.img
  · rw [oX.block _ (by omega) (nl _ (by omega)), t14.block _ (by omega)]; exact h.res
  · rw [oX.block _ (by omega) (nl _ (by omega)), t14.block _ (by omega)]; exact h.scan
  · exact (h.bel.trans (t14.mono (by omega))).trans (oX.below (by omega) (fun x hx => by simp at hx; omega))
def outImg (y : Img) (s : Rs) : Img := ⟨y.I, ⟨(s.ar 2).toArray⟩, ⟨(s.ar 3).toArray⟩, ⟨(s.ar 4).toArray⟩⟩
def scanVal (s : Rs) : Value := .agg #[.int .i64 s.steps, .int .i64 s.zero, .int .i64 s.kind, .int .i64 s.n]
/-- Behind the run's instructions, its result told. -/
structure Ry (w Y : World) (r : Nat) (b c : Nat → Nat) (y : Img) (s : Rs) (V : Value) : Prop where
  run : Y.heap[r]? = some (.cells (((runCells b c s V).setIfInBounds 10 (.int .i64 s.kind)).setIfInBounds 11 (.int .i64 s.n)) 75 (0, 0))
  img : Y.heap[w.heap.size]? = some (.cells #[.string y.I, .string y.Q, .string y.M, .string y.R] 24 (0, 0))
  res : Y.heap[w.heap.size + 1]? = some (.cells #[.string ⟨#[]⟩, .string ⟨#[]⟩, .string ⟨#[]⟩, .string ⟨#[]⟩] 24 (0, 0))
  scan : Y.heap[w.heap.size + 2]? = some (.cells #[.int .i64 0, .int .i64 0, .int .i64 0, .int .i64 0] 39 (0, 0))
  bel : Below w.heap.size w Y
  area : ∀ i, 1 ≤ i → i ≤ 4 → Area Y (b i) (s.ar i)
  len : ∀ i, 1 ≤ i → i ≤ 4 → (s.ar i).length = 64
  r1 : w.heap.size + 3 ≤ r
  b1 : ∀ i, 1 ≤ i → i ≤ 4 → r ≤ b i
theorem Ry.res0 {w Y : World} {r : Nat} {b c : Nat → Nat} {y : Img} {s : Rs} {V : Value} (h : Ry w Y r b c y s V) (o : Nat) : Y.cell? ⟨w.heap.size + 1, o, none⟩ = (#[.string ⟨#[]⟩, .string ⟨#[]⟩, .string ⟨#[]⟩, .string ⟨#[]⟩] : Array Value)[o]? ∧ Y.frozen? ⟨w.heap.size + 1, o, none⟩ = false := ⟨cell_of_heap h.res o, frozen_of_heap h.res o⟩
theorem Ry.scan0 {w Y : World} {r : Nat} {b c : Nat → Nat} {y : Img} {s : Rs} {V : Value} (h : Ry w Y r b c y s V) (o : Nat) : Y.cell? ⟨w.heap.size + 1 + 1, o, none⟩ = (#[.int .i64 0, .int .i64 0, .int .i64 0, .int .i64 0] : Array Value)[o]? ∧ Y.frozen? ⟨w.heap.size + 1 + 1, o, none⟩ = false := ⟨cell_of_heap h.scan o, frozen_of_heap h.scan o⟩
theorem Rz.stored {w X Y : World} {r : Nat} {b c : Nat → Nat} {y : Img} {s : Rs} {V : Value} (h : Rz w X r b c y s V) (hY : Y = ((X.setCell ⟨r, 10, none⟩ (.int .i64 s.kind)).setCell ⟨r, 11, none⟩ (.int .i64 s.n)).drew) : Ry w Y r b c y s V := by
  have h1 := h.r1
  have hr := h.run.lt
  have o : Only [r] X Y := by rw [hY]; exact (((Only.refl [r] X).setCell (by simp) _).setCell (by simp) _).drew
  have n : ∀ j, j < r → j ∉ [r] := fun j hj hm => by simp at hm; omega
  refine ⟨?_, (o.block _ (by omega) (n _ (by omega))).trans h.img, (o.block _ (by omega) (n _ (by omega))).trans h.res, (o.block _ (by omega) (n _ (by omega))).trans h.scan, h.bel.trans (o.below (by omega) (fun x hx => by simp at hx; omega)), fun i i1 i4 => (h.run.area i i1 i4).only o (by simp; exact h.run.ne i i1 i4), h.run.len, h.r1, h.run.base.2⟩
  rw [hY]
  exact heap_setCell_same (heap_setCell_same h.run.blk 10 _) 11 _
theorem Ry.conv {w Y : World} {r : Nat} {b c : Nat → Nat} {y : Img} {s : Rs} {V : Value} (h : Ry w Y r b c y s V) (i : Nat) (i1 : 1 ≤ i) (i4 : i ≤ 4) : ∀ X, Only [w.heap.size + 1, w.heap.size + 1 + 1] Y X → (convert 37 9 (.slice (some ⟨b i, 0, none⟩) 64 (c i))).run Try.prog X = .ok (.string ⟨(s.ar i).toArray⟩) X :=
  fun X hX => ((h.area i i1 i4).only hX (by have := h.r1; have := h.b1 i i1 i4; simp; omega)).conv (c i) 64 (h.len i i1 i4).symm
theorem Ry.facts {w Y : World} {r : Nat} {b c : Nat → Nat} {y : Img} {s : Rs} {V : Value} (h : Ry w Y r b c y s V) :
    Y.cell? ⟨w.heap.size, 0, none⟩ = some (.string y.I) ∧ Y.cell? ⟨r, 2, none⟩ = some (.slice (some ⟨b 2, 0, none⟩) 64 (c 2)) ∧ Y.cell? ⟨r, 3, none⟩ = some (.slice (some ⟨b 3, 0, none⟩) 64 (c 3)) ∧ Y.cell? ⟨r, 4, none⟩ = some (.slice (some ⟨b 4, 0, none⟩) 64 (c 4)) ∧
    Y.cell? ⟨r, 8, none⟩ = some (.int .i64 s.steps) ∧ Y.cell? ⟨r, 9, none⟩ = some (.int .i64 s.zero) ∧ Y.cell? ⟨r, 10, none⟩ = some (.int .i64 s.kind) ∧ Y.cell? ⟨r, 11, none⟩ = some (.int .i64 s.n) ∧ w.heap.size < Y.heap.size ∧ w.heap.size + 1 < Y.heap.size ∧ w.heap.size + 1 + 1 < Y.heap.size ∧ r < Y.heap.size :=
  ⟨cell_of_heap h.img 0, cell_of_heap h.run 2, cell_of_heap h.run 3, cell_of_heap h.run 4, cell_of_heap h.run 8, cell_of_heap h.run 9, cell_of_heap h.run 10, cell_of_heap h.run 11, heap_lt h.img, heap_lt h.res, heap_lt h.scan, heap_lt h.run⟩
theorem Ry.keep {w Y Z : World} {r : Nat} {b c : Nat → Nat} {y : Img} {s : Rs} {V : Value} (h : Ry w Y r b c y s V) (ho : Only [w.heap.size + 1, w.heap.size + 1 + 1] Y Z) :
    Z.cell? ⟨w.heap.size, 0, none⟩ = some (.string y.I) ∧ Z.cell? ⟨r, 2, none⟩ = some (.slice (some ⟨b 2, 0, none⟩) 64 (c 2)) ∧ Z.cell? ⟨r, 3, none⟩ = some (.slice (some ⟨b 3, 0, none⟩) 64 (c 3)) ∧ Z.cell? ⟨r, 4, none⟩ = some (.slice (some ⟨b 4, 0, none⟩) 64 (c 4)) ∧ Z.cell? ⟨r, 8, none⟩ = some (.int .i64 s.steps) ∧ Z.cell? ⟨r, 9, none⟩ = some (.int .i64 s.zero) ∧ Z.cell? ⟨r, 10, none⟩ = some (.int .i64 s.kind) ∧ Z.cell? ⟨r, 11, none⟩ = some (.int .i64 s.n) ∧ (convert 37 9 (.slice (some ⟨b 2, 0, none⟩) 64 (c 2))).run Try.prog Z = .ok (.string ⟨(s.ar 2).toArray⟩) Z ∧ (convert 37 9 (.slice (some ⟨b 3, 0, none⟩) 64 (c 3))).run Try.prog Z = .ok (.string ⟨(s.ar 3).toArray⟩) Z ∧ (convert 37 9 (.slice (some ⟨b 4, 0, none⟩) 64 (c 4))).run Try.prog Z = .ok (.string ⟨(s.ar 4).toArray⟩) Z := by
  obtain ⟨m0, m1, m2, m3, m4, m5, m6, m7, l0, l1, lb, l2⟩ := h.facts
  have hr := h.r1
  have nr : r ∉ [w.heap.size + 1, w.heap.size + 1 + 1] := by simp; omega
  have n0 : w.heap.size ∉ [w.heap.size + 1, w.heap.size + 1 + 1] := by simp; omega
  exact ⟨(ho.cell l0 n0 0).trans m0, (ho.cell l2 nr 2).trans m1, (ho.cell l2 nr 3).trans m2, (ho.cell l2 nr 4).trans m3, (ho.cell l2 nr 8).trans m4, (ho.cell l2 nr 9).trans m5, (ho.cell l2 nr 10).trans m6, (ho.cell l2 nr 11).trans m7, h.conv 2 (by omega) (by omega) _ ho, h.conv 3 (by omega) (by omega) _ ho, h.conv 4 (by omega) (by omega) _ ho⟩
theorem Ry.final {w Y Z : World} {r : Nat} {b c : Nat → Nat} {y : Img} {s : Rs} {V : Value} (h : Ry w Y r b c y s V)
    (hZ : Z = ((((((((Y.setCell ⟨w.heap.size + 1, 0, none⟩ (.string y.I)).setCell ⟨w.heap.size + 1, 1, none⟩ (.string ⟨(s.ar 2).toArray⟩)).setCell ⟨w.heap.size + 1, 2, none⟩ (.string ⟨(s.ar 3).toArray⟩)).setCell ⟨w.heap.size + 1, 3, none⟩ (.string ⟨(s.ar 4).toArray⟩)).setCell ⟨w.heap.size + 1 + 1, 0, none⟩ (.int .i64 s.steps)).setCell ⟨w.heap.size + 1 + 1, 1, none⟩ (.int .i64 s.zero)).setCell ⟨w.heap.size + 1 + 1, 2, none⟩ (.int .i64 s.kind)).setCell ⟨w.heap.size + 1 + 1, 3, none⟩ (.int .i64 s.n)).drew) :
    Z.cell? ⟨w.heap.size + 1, 0, none⟩ = some (.string y.I) ∧ Z.cell? ⟨w.heap.size + 1, 1, none⟩ = some (.string ⟨(s.ar 2).toArray⟩) ∧ Z.cell? ⟨w.heap.size + 1, 2, none⟩ = some (.string ⟨(s.ar 3).toArray⟩) ∧ Z.cell? ⟨w.heap.size + 1, 3, none⟩ = some (.string ⟨(s.ar 4).toArray⟩) ∧
    Z.cell? ⟨w.heap.size + 1 + 1, 0, none⟩ = some (.int .i64 s.steps) ∧ Z.cell? ⟨w.heap.size + 1 + 1, 1, none⟩ = some (.int .i64 s.zero) ∧ Z.cell? ⟨w.heap.size + 1 + 1, 2, none⟩ = some (.int .i64 s.kind) ∧ Z.cell? ⟨w.heap.size + 1 + 1, 3, none⟩ = some (.int .i64 s.n) ∧ Below w.heap.size w Z := by
  have g := heap_setCell_same (heap_setCell_same (heap_setCell_same (heap_setCell_same h.res 0 (.string y.I)) 1 (.string ⟨(s.ar 2).toArray⟩)) 2 (.string ⟨(s.ar 3).toArray⟩)) 3 (.string ⟨(s.ar 4).toArray⟩)
  obtain ⟨T, hT⟩ : ∃ T, T = ((((Y.setCell ⟨w.heap.size + 1, 0, none⟩ (.string y.I)).setCell ⟨w.heap.size + 1, 1, none⟩ (.string ⟨(s.ar 2).toArray⟩)).setCell ⟨w.heap.size + 1, 2, none⟩ (.string ⟨(s.ar 3).toArray⟩)).setCell ⟨w.heap.size + 1, 3, none⟩ (.string ⟨(s.ar 4).toArray⟩)) := ⟨_, rfl⟩
  have hs : T.heap[w.heap.size + 1 + 1]? = some (.cells #[.int .i64 0, .int .i64 0, .int .i64 0, .int .i64 0] 39 (0, 0)) := by
    rw [hT, Below.heap_setCell _ _ _ _ (by simp), Below.heap_setCell _ _ _ _ (by simp), Below.heap_setCell _ _ _ _ (by simp), Below.heap_setCell _ _ _ _ (by simp)]
    exact h.scan
  have hB : Below w.heap.size w T := by rw [hT]; exact (((h.bel.setCell (p := ⟨w.heap.size + 1, 0, none⟩) (by simp) _).setCell (p := ⟨w.heap.size + 1, 1, none⟩) (by simp) _).setCell (p := ⟨w.heap.size + 1, 2, none⟩) (by simp) _).setCell (p := ⟨w.heap.size + 1, 3, none⟩) (by simp) _
  rw [← hT] at g hZ
  have g2 := heap_setCell_same (heap_setCell_same (heap_setCell_same (heap_setCell_same hs 0 (.int .i64 s.steps)) 1 (.int .i64 s.zero)) 2 (.int .i64 s.kind)) 3 (.int .i64 s.n)
  have g1 : Z.heap[w.heap.size + 1]? = T.heap[w.heap.size + 1]? := by
    rw [hZ]
    show ((((T.setCell _ _).setCell _ _).setCell _ _).setCell _ _).heap[w.heap.size + 1]? = _
    rw [Below.heap_setCell _ _ _ _ (by simp), Below.heap_setCell _ _ _ _ (by simp), Below.heap_setCell _ _ _ _ (by simp), Below.heap_setCell _ _ _ _ (by simp)]
  replace g1 := g1.trans g
  have g3 : Z.heap[w.heap.size + 1 + 1]? = ((((T.setCell ⟨w.heap.size + 1 + 1, 0, none⟩ (.int .i64 s.steps)).setCell ⟨w.heap.size + 1 + 1, 1, none⟩ (.int .i64 s.zero)).setCell ⟨w.heap.size + 1 + 1, 2, none⟩ (.int .i64 s.kind)).setCell ⟨w.heap.size + 1 + 1, 3, none⟩ (.int .i64 s.n)).heap[w.heap.size + 1 + 1]? := by
    rw [hZ]
    rfl
  replace g3 := g3.trans g2
  exact ⟨cell_of_heap g1 0, cell_of_heap g1 1, cell_of_heap g1 2, cell_of_heap g1 3, cell_of_heap g3 0, cell_of_heap g3 1, cell_of_heap g3 2, cell_of_heap g3 3, by rw [hZ]; exact ((((hB.setCell (p := ⟨w.heap.size + 1 + 1, 0, none⟩) (by simp; omega) _).setCell (p := ⟨w.heap.size + 1 + 1, 1, none⟩) (by simp; omega) _).setCell (p := ⟨w.heap.size + 1 + 1, 2, none⟩) (by simp; omega) _).setCell (p := ⟨w.heap.size + 1 + 1, 3, none⟩) (by simp; omega) _).drew⟩
set_option maxHeartbeats 6000000 in
theorem run_some (q : Nat) (code : List Ins) (x : Img) (t : Int) (w : World) (f : Nat) (s' : Rs) (hq : PAt w q code) (hx : imgOk x) (h200 : code.length ≤ 1048576) (hgo : goS code f 0 (startS (fitV x) (clampT t)) = some s') :
    Calls Try.prog 14 #[.pointer (some ⟨q, 0, none⟩), x.val, .int .i64 t] w fun e w' => e = .returned (.tuple #[(outImg (fitV x) s').val, scanVal s']) ∧ Below w.heap.size w w' := by
  obtain ⟨A, cp, hq1, hq2, hq3, hq4, hq5⟩ := hq
  have h1 := areaV_size x.I
  have h2 := areaV_size x.Q
  have h3 := areaV_size x.M
  have h4 := areaV_size x.R
  have H1 := hid (show (fitV x).I.size = 64 from h1)
  have H2 := hid (show (fitV x).Q.size = 64 from h2)
  have H3 := hid (show (fitV x).M.size = 64 from h3)
  have H4 := hid (show (fitV x).R.size = 64 from h4)
  clear h1 h2 h3 h4
  have F := hid fun W => fit_any x W hx
  obtain ⟨y, hy⟩ : ∃ y, y = fitV x := ⟨_, rfl⟩
  rw [← hy] at F hgo H1 H2 H3 H4 ⊢
  have HGO := hid hgo
  obtain ⟨xi, xq, xm, xr⟩ := x
  obtain ⟨yi, yq, ym, yr⟩ := y
  simp only [Img.val, outImg, scanVal] at F H1 H2 H3 H4 ⊢
  unfold clampT at HGO
  clear hy hgo
  go_enter Try.func14, Try.ntmps14
  go_upto_region 5 with (first
    | (go_at_call 13; refine (F.out _).mono ?_; rintro e w1 ⟨rfl, hb⟩; have hbc := (bcell hb).1; have hbf := (bcell hb).2; try simp only [World.size_alloc, World.size_setCell] at hbc hbf; have hlt : w.heap.size + 2 < w1.heap.size := by (have hsz := hb.size; simp only [World.size_alloc, World.size_setCell] at hsz; omega)))
  generalize min (max t 0) 10000 = cl at *
  have hR := Rw.mk' (x := ⟨xi, xq, xm, xr⟩) (y := ⟨yi, yq, ym, yr⟩) cl hb
  unfold run0 at hR
  obtain ⟨W, hW⟩ : ∃ W, W = (((((w1.setCell ⟨w.heap.size, 0, none⟩ (Value.string yi)).setCell ⟨w.heap.size, 1, none⟩ (Value.string yq)).setCell ⟨w.heap.size, 2, none⟩ (Value.string ym)).setCell ⟨w.heap.size, 3, none⟩ (Value.string yr)).alloc
            (Obj.cells #[Value.slice none 0 0, Value.slice none 0 0, Value.slice none 0 0, Value.slice none 0 0, Value.slice none 0 0, Value.int IntKind.i64 0, Value.int IntKind.i64 0, Value.slice none 0 0, Value.int IntKind.i64 0, Value.int IntKind.i64 0, Value.int IntKind.i64 0, Value.int IntKind.i64 0, Value.int IntKind.i64 cl] 75)) := ⟨_, rfl⟩
  rw [← hW] at hR ⊢
  clear hW hbc hbf hb
  generalize w1.heap.size = r at *
  have i0 : W.cell? ⟨w.heap.size, 0, none⟩ = some (.string yi) := cell_of_heap hR.img 0
  have i1 : W.cell? ⟨w.heap.size, 1, none⟩ = some (.string yq) := cell_of_heap hR.img 1
  have i2 : W.cell? ⟨w.heap.size, 2, none⟩ = some (.string ym) := cell_of_heap hR.img 2
  have i3 : W.cell? ⟨w.heap.size, 3, none⟩ = some (.string yr) := cell_of_heap hR.img 3
  have hsz := hR.sz
  have hr1 := hR.r1
  have HR := hid hR
  have q0 : W.cell? ⟨r, 0, none⟩ = some (.slice none 0 0) := cell_of_heap hR.run 0
  have q1 : W.cell? ⟨r, 1, none⟩ = some (.slice none 0 0) := cell_of_heap hR.run 1
  have q2 : W.cell? ⟨r, 2, none⟩ = some (.slice none 0 0) := cell_of_heap hR.run 2
  have q3 : W.cell? ⟨r, 3, none⟩ = some (.slice none 0 0) := cell_of_heap hR.run 3
  have q4 : W.cell? ⟨r, 4, none⟩ = some (.slice none 0 0) := cell_of_heap hR.run 4
  have g0 : W.frozen? ⟨r, 0, none⟩ = false := frozen_of_heap hR.run 0
  have g1 : W.frozen? ⟨r, 1, none⟩ = false := frozen_of_heap hR.run 1
  have g2 : W.frozen? ⟨r, 2, none⟩ = false := frozen_of_heap hR.run 2
  have g3 : W.frozen? ⟨r, 3, none⟩ = false := frozen_of_heap hR.run 3
  have g4 : W.frozen? ⟨r, 4, none⟩ = false := frozen_of_heap hR.run 4
  have hwW : w.heap.size < W.heap.size := by omega
  have hrW : r < W.heap.size := by omega
  have HSZ := hid hsz
  clear hR hsz
  have kb := fun (W : World) (s : ByteArray) => Lib.run_convert_string_bytes (P := Try.prog) W 9 37 5 s Try.underlying9 Try.underlying37 Try.underlying5
  have s1 : ∀ (V : World) (s : ByteArray), W.heap.size ≤ V.heap.size → W.heap.size ≤ (Lib.bytesWorld V 5 s).heap.size := fun V s h => by rw [bw_size]; omega
  have n0 : W.heap.size ≤ W.heap.size := Nat.le_refl _
  have n1 : W.heap.size ≤ (Lib.bytesWorld W 5 yi).heap.size := s1 _ _ n0
  have n2 : W.heap.size ≤ (Lib.bytesWorld (Lib.bytesWorld W 5 yi) 5 yq).heap.size := s1 _ _ n1
  have n3 : W.heap.size ≤ (Lib.bytesWorld (Lib.bytesWorld (Lib.bytesWorld W 5 yi) 5 yq) 5 ym).heap.size := s1 _ _ n2
  have n4 : W.heap.size ≤ (Lib.bytesWorld (Lib.bytesWorld (Lib.bytesWorld (Lib.bytesWorld W 5 yi) 5 yq) 5 ym) 5 yr).heap.size := s1 _ _ n3
  have j1 : (Lib.bytesWorld W 5 yi).cell? ⟨w.heap.size, 1, none⟩ = some (.string yq) := by rw [bw_cell _ _ _ _ _ (Nat.lt_of_lt_of_le hwW n0)]; exact i1
  have j2 : (Lib.bytesWorld (Lib.bytesWorld W 5 yi) 5 yq).cell? ⟨w.heap.size, 2, none⟩ = some (.string ym) := by rw [bw_cell _ _ _ _ _ (Nat.lt_of_lt_of_le hwW n1), bw_cell _ _ _ _ _ (Nat.lt_of_lt_of_le hwW n0)]; exact i2
  have j3 : (Lib.bytesWorld (Lib.bytesWorld (Lib.bytesWorld W 5 yi) 5 yq) 5 ym).cell? ⟨w.heap.size, 3, none⟩ = some (.string yr) := by rw [bw_cell _ _ _ _ _ (Nat.lt_of_lt_of_le hwW n2), bw_cell _ _ _ _ _ (Nat.lt_of_lt_of_le hwW n1), bw_cell _ _ _ _ _ (Nat.lt_of_lt_of_le hwW n0)]; exact i3
  have p0 : (Lib.bytesWorld (Lib.bytesWorld (Lib.bytesWorld (Lib.bytesWorld W 5 yi) 5 yq) 5 ym) 5 yr).cell? ⟨r, 0, none⟩ = some (.slice none 0 0) := by rw [bw_cell _ _ _ _ _ (Nat.lt_of_lt_of_le hrW n3), bw_cell _ _ _ _ _ (Nat.lt_of_lt_of_le hrW n2), bw_cell _ _ _ _ _ (Nat.lt_of_lt_of_le hrW n1), bw_cell _ _ _ _ _ (Nat.lt_of_lt_of_le hrW n0)]; exact q0
  have h0 : (Lib.bytesWorld (Lib.bytesWorld (Lib.bytesWorld (Lib.bytesWorld W 5 yi) 5 yq) 5 ym) 5 yr).frozen? ⟨r, 0, none⟩ = false := by rw [bw_frozen _ _ _ _ _ (Nat.lt_of_lt_of_le hrW n3), bw_frozen _ _ _ _ _ (Nat.lt_of_lt_of_le hrW n2), bw_frozen _ _ _ _ _ (Nat.lt_of_lt_of_le hrW n1), bw_frozen _ _ _ _ _ (Nat.lt_of_lt_of_le hrW n0)]; exact g0
  have p1 : (Lib.bytesWorld (Lib.bytesWorld (Lib.bytesWorld (Lib.bytesWorld W 5 yi) 5 yq) 5 ym) 5 yr).cell? ⟨r, 1, none⟩ = some (.slice none 0 0) := by rw [bw_cell _ _ _ _ _ (Nat.lt_of_lt_of_le hrW n3), bw_cell _ _ _ _ _ (Nat.lt_of_lt_of_le hrW n2), bw_cell _ _ _ _ _ (Nat.lt_of_lt_of_le hrW n1), bw_cell _ _ _ _ _ (Nat.lt_of_lt_of_le hrW n0)]; exact q1
  have h1 : (Lib.bytesWorld (Lib.bytesWorld (Lib.bytesWorld (Lib.bytesWorld W 5 yi) 5 yq) 5 ym) 5 yr).frozen? ⟨r, 1, none⟩ = false := by rw [bw_frozen _ _ _ _ _ (Nat.lt_of_lt_of_le hrW n3), bw_frozen _ _ _ _ _ (Nat.lt_of_lt_of_le hrW n2), bw_frozen _ _ _ _ _ (Nat.lt_of_lt_of_le hrW n1), bw_frozen _ _ _ _ _ (Nat.lt_of_lt_of_le hrW n0)]; exact g1
  have p2 : (Lib.bytesWorld (Lib.bytesWorld (Lib.bytesWorld (Lib.bytesWorld W 5 yi) 5 yq) 5 ym) 5 yr).cell? ⟨r, 2, none⟩ = some (.slice none 0 0) := by rw [bw_cell _ _ _ _ _ (Nat.lt_of_lt_of_le hrW n3), bw_cell _ _ _ _ _ (Nat.lt_of_lt_of_le hrW n2), bw_cell _ _ _ _ _ (Nat.lt_of_lt_of_le hrW n1), bw_cell _ _ _ _ _ (Nat.lt_of_lt_of_le hrW n0)]; exact q2
  have h2 : (Lib.bytesWorld (Lib.bytesWorld (Lib.bytesWorld (Lib.bytesWorld W 5 yi) 5 yq) 5 ym) 5 yr).frozen? ⟨r, 2, none⟩ = false := by rw [bw_frozen _ _ _ _ _ (Nat.lt_of_lt_of_le hrW n3), bw_frozen _ _ _ _ _ (Nat.lt_of_lt_of_le hrW n2), bw_frozen _ _ _ _ _ (Nat.lt_of_lt_of_le hrW n1), bw_frozen _ _ _ _ _ (Nat.lt_of_lt_of_le hrW n0)]; exact g2
  have p3 : (Lib.bytesWorld (Lib.bytesWorld (Lib.bytesWorld (Lib.bytesWorld W 5 yi) 5 yq) 5 ym) 5 yr).cell? ⟨r, 3, none⟩ = some (.slice none 0 0) := by rw [bw_cell _ _ _ _ _ (Nat.lt_of_lt_of_le hrW n3), bw_cell _ _ _ _ _ (Nat.lt_of_lt_of_le hrW n2), bw_cell _ _ _ _ _ (Nat.lt_of_lt_of_le hrW n1), bw_cell _ _ _ _ _ (Nat.lt_of_lt_of_le hrW n0)]; exact q3
  have h3 : (Lib.bytesWorld (Lib.bytesWorld (Lib.bytesWorld (Lib.bytesWorld W 5 yi) 5 yq) 5 ym) 5 yr).frozen? ⟨r, 3, none⟩ = false := by rw [bw_frozen _ _ _ _ _ (Nat.lt_of_lt_of_le hrW n3), bw_frozen _ _ _ _ _ (Nat.lt_of_lt_of_le hrW n2), bw_frozen _ _ _ _ _ (Nat.lt_of_lt_of_le hrW n1), bw_frozen _ _ _ _ _ (Nat.lt_of_lt_of_le hrW n0)]; exact g3
  have p4 : (Lib.bytesWorld (Lib.bytesWorld (Lib.bytesWorld (Lib.bytesWorld W 5 yi) 5 yq) 5 ym) 5 yr).cell? ⟨r, 4, none⟩ = some (.slice none 0 0) := by rw [bw_cell _ _ _ _ _ (Nat.lt_of_lt_of_le hrW n3), bw_cell _ _ _ _ _ (Nat.lt_of_lt_of_le hrW n2), bw_cell _ _ _ _ _ (Nat.lt_of_lt_of_le hrW n1), bw_cell _ _ _ _ _ (Nat.lt_of_lt_of_le hrW n0)]; exact q4
  have h4 : (Lib.bytesWorld (Lib.bytesWorld (Lib.bytesWorld (Lib.bytesWorld W 5 yi) 5 yq) 5 ym) 5 yr).frozen? ⟨r, 4, none⟩ = false := by rw [bw_frozen _ _ _ _ _ (Nat.lt_of_lt_of_le hrW n3), bw_frozen _ _ _ _ _ (Nat.lt_of_lt_of_le hrW n2), bw_frozen _ _ _ _ _ (Nat.lt_of_lt_of_le hrW n1), bw_frozen _ _ _ _ _ (Nat.lt_of_lt_of_le hrW n0)]; exact g4
  clear s1 n0 n1 n2 n3 n4 q0 q1 q2 q3 q4 g0 g1 g2 g3 g4 i1 i2 i3
  go_upto_region 6 with fail
  obtain ⟨b, c, hZ⟩ := Rz.mk' HR.out H1.out H2.out H3.out H4.out
  simp only at hZ
  obtain ⟨X, hX⟩ : ∃ X, X = ((((((Lib.bytesWorld (Lib.bytesWorld (Lib.bytesWorld (Lib.bytesWorld W 5 yi) 5 yq) 5 ym) 5 yr).setCell ⟨r, 0, none⟩ (Value.slice none 0 0)).setCell ⟨r, 1, none⟩ (Value.slice (some ⟨W.heap.size, 0, none⟩) yi.size (grownCap W yi.size 0 5))).setCell ⟨r, 2, none⟩ (Value.slice (some ⟨(Lib.bytesWorld W 5 yi).heap.size, 0, none⟩) yq.size (grownCap (Lib.bytesWorld W 5 yi) yq.size 0 5))).setCell ⟨r, 3, none⟩ (Value.slice (some ⟨(Lib.bytesWorld (Lib.bytesWorld W 5 yi) 5 yq).heap.size, 0, none⟩) ym.size (grownCap (Lib.bytesWorld (Lib.bytesWorld W 5 yi) 5 yq) ym.size 0 5))).setCell ⟨r, 4, none⟩ (Value.slice (some ⟨(Lib.bytesWorld (Lib.bytesWorld (Lib.bytesWorld W 5 yi) 5 yq) 5 ym).heap.size, 0, none⟩) yr.size (grownCap (Lib.bytesWorld (Lib.bytesWorld (Lib.bytesWorld W 5 yi) 5 yq) 5 ym) yr.size 0 5))) := ⟨_, rfl⟩
  rw [← hX] at hZ ⊢
  clear hX
  have k0 : X.cell? ⟨q, 0, none⟩ = some (.slice A code.length cp) := (hZ.bel.cell hq1).trans hq2
  have HZ := hid hZ
  have C := hid (rall_any r r b c (startS ⟨yi, yq, ym, yr⟩ cl) s' (.slice none 0 0) A code.length cp f code X hZ.run rfl h200 (fun Y hY => hq5.below (hZ.bel.trans (hY.mono (by have := hZ.r1; omega)))) rfl HGO.out)
  clear hZ p0 p1 p2 p3 p4 h0 h1 h2 h3 h4 kb j1 j2 j3 i0
  go_upto_region 7 with (first | (go_at_call 28; refine C.out.mono ?_; rintro e w2 ⟨rfl, hb2, U, hR2⟩))
  have HZ2 := hid (HZ.out.step hb2 hR2)
  have HR2 := hid hR2
  have d5 := hR2.c5
  have d6 := hR2.c6
  have d10 : w2.cell? ⟨r, 10, none⟩ = some (.int .i64 0) := hR2.cell 10
  have d11 : w2.cell? ⟨r, 11, none⟩ = some (.int .i64 0) := hR2.cell 11
  have g5 := hR2.free 5
  have g6 := hR2.free 6
  have g10 := hR2.free 10
  have g11 := hR2.free 11
  have hr2 := hR2.lt
  clear hb2 hR2 C HZ k0
  go_region
  obtain ⟨Y, hY⟩ : ∃ Y, Y = ((w2.setCell ⟨r, 10, none⟩ (.int .i64 s'.kind)).setCell ⟨r, 11, none⟩ (.int .i64 s'.n)).drew := ⟨_, rfl⟩
  have hS := HZ2.out.stored hY
  rw [← hY]
  clear hY d5 d6 d10 d11 g5 g6 g10 g11 hr2
  obtain ⟨m0, m1, m2, m3, m4, m5, m6, m7, l0, l1, lb, l2⟩ := hS.facts
  have HS := hid hS
  clear hS HZ2 HR2
  go_upto_region 8 with fail
  have e10 := (HS.out.res0 0).1
  have e11 := (HS.out.res0 1).1
  have e12 := (HS.out.res0 2).1
  have e13 := (HS.out.res0 3).1
  have e20 := (HS.out.scan0 0).1
  have e21 := (HS.out.scan0 1).1
  have e22 := (HS.out.scan0 2).1
  have e23 := (HS.out.scan0 3).1
  have f10 := (HS.out.res0 0).2
  have f11 := (HS.out.res0 1).2
  have f12 := (HS.out.res0 2).2
  have f13 := (HS.out.res0 3).2
  have f20 := (HS.out.scan0 0).2
  have f21 := (HS.out.scan0 1).2
  have f22 := (HS.out.scan0 2).2
  have f23 := (HS.out.scan0 3).2
  simp only [List.getElem?_toArray, List.getElem?_cons_zero, List.getElem?_cons_succ] at e10 e11 e12 e13 e20 e21 e22 e23
  have nr1 := HS.out.r1
  have hK := HS.out.keep (Only.refl _ Y).drew
  obtain ⟨kk0, kk1, kk2, kk3, kk4, kk5, kk6, kk7, kk8, kk9, kk10⟩ := hK
  go_region_held3 (fun w' => w'.cell? ⟨w.heap.size, 0, none⟩ = some (.string yi) ∧ w'.cell? ⟨r, 2, none⟩ = some (.slice (some ⟨b 2, 0, none⟩) 64 (c 2)) ∧ w'.cell? ⟨r, 3, none⟩ = some (.slice (some ⟨b 3, 0, none⟩) 64 (c 3)) ∧ w'.cell? ⟨r, 4, none⟩ = some (.slice (some ⟨b 4, 0, none⟩) 64 (c 4)) ∧ w'.cell? ⟨r, 8, none⟩ = some (.int .i64 s'.steps) ∧ w'.cell? ⟨r, 9, none⟩ = some (.int .i64 s'.zero) ∧ w'.cell? ⟨r, 10, none⟩ = some (.int .i64 s'.kind) ∧ w'.cell? ⟨r, 11, none⟩ = some (.int .i64 s'.n) ∧ (convert 37 9 (.slice (some ⟨b 2, 0, none⟩) 64 (c 2))).run Try.prog w' = .ok (.string ⟨(s'.ar 2).toArray⟩) w' ∧ (convert 37 9 (.slice (some ⟨b 3, 0, none⟩) 64 (c 3))).run Try.prog w' = .ok (.string ⟨(s'.ar 3).toArray⟩) w' ∧ (convert 37 9 (.slice (some ⟨b 4, 0, none⟩) 64 (c 4))).run Try.prog w' = .ok (.string ⟨(s'.ar 4).toArray⟩) w')
    (first | exact ⟨by with_reducible assumption, by with_reducible assumption, by with_reducible assumption, by with_reducible assumption, by with_reducible assumption, by with_reducible assumption, by with_reducible assumption, by with_reducible assumption, by with_reducible assumption, by with_reducible assumption, by with_reducible assumption⟩ | (with_reducible refine HS.out.keep ?_; repeat (first | (with_reducible exact Only.refl _ _) | (with_reducible refine Only.drew ?_) | (with_reducible refine Only.setCell ?_ (by simp) _)))) (fail)
  obtain ⟨Z, hZ⟩ : ∃ Z, Z = ((((((((Y.setCell ⟨w.heap.size + 1, 0, none⟩ (.string yi)).setCell ⟨w.heap.size + 1, 1, none⟩ (.string ⟨(s'.ar 2).toArray⟩)).setCell ⟨w.heap.size + 1, 2, none⟩ (.string ⟨(s'.ar 3).toArray⟩)).setCell ⟨w.heap.size + 1, 3, none⟩ (.string ⟨(s'.ar 4).toArray⟩)).setCell ⟨w.heap.size + 1 + 1, 0, none⟩ (.int .i64 s'.steps)).setCell ⟨w.heap.size + 1 + 1, 1, none⟩ (.int .i64 s'.zero)).setCell ⟨w.heap.size + 1 + 1, 2, none⟩ (.int .i64 s'.kind)).setCell ⟨w.heap.size + 1 + 1, 3, none⟩ (.int .i64 s'.n)).drew := ⟨_, rfl⟩
  have hF := HS.out.final hZ
  rw [← hZ]
  clear hZ kk0 kk1 kk2 kk3 kk4 kk5 kk6 kk7 kk8 kk9 kk10 e10 e11 e12 e13 e20 e21 e22 e23 f10 f11 f12 f13 f20 f21 f22 f23 m0 m1 m2 m3 m4 m5 m6 m7
  obtain ⟨z0, z1, z2, z3, z4, z5, z6, z7, hBZ⟩ := hF
  have HB := hid hBZ
  clear hBZ
  go_wp2
  exact bodyPost_ret (v := .tuple #[.agg #[.string yi, .string ⟨(s'.ar 2).toArray⟩, .string ⟨(s'.ar 3).toArray⟩, .string ⟨(s'.ar 4).toArray⟩], .agg #[.int .i64 s'.steps, .int .i64 s'.zero, .int .i64 s'.kind, .int .i64 s'.n]]) (by simp [results, Try.results14, go_sem, z0, z1, z2, z3, z4, z5, z6, z7]) rfl ⟨rfl, HB.out⟩
theorem Rw.less {w w1 : World} {y : Img} {cl : Int} (h : Rw w (((((w1.setCell ⟨w.heap.size, 0, none⟩ (.string y.I)).setCell ⟨w.heap.size, 1, none⟩ (.string y.Q)).setCell ⟨w.heap.size, 2, none⟩ (.string y.M)).setCell ⟨w.heap.size, 3, none⟩ (.string y.R)).alloc (.cells (run0 cl) 75)) w1.heap.size y cl) :
    ((((w1.setCell ⟨w.heap.size, 0, none⟩ (.string y.I)).setCell ⟨w.heap.size, 1, none⟩ (.string y.Q)).setCell ⟨w.heap.size, 2, none⟩ (.string y.M)).setCell ⟨w.heap.size, 3, none⟩ (.string y.R)).heap[w.heap.size]? = some (.cells #[.string y.I, .string y.Q, .string y.M, .string y.R] 24 (0, 0)) ∧ ((((w1.setCell ⟨w.heap.size, 0, none⟩ (.string y.I)).setCell ⟨w.heap.size, 1, none⟩ (.string y.Q)).setCell ⟨w.heap.size, 2, none⟩ (.string y.M)).setCell ⟨w.heap.size, 3, none⟩ (.string y.R)).heap[w.heap.size + 1]? = some (.cells #[.string ⟨#[]⟩, .string ⟨#[]⟩, .string ⟨#[]⟩, .string ⟨#[]⟩] 24 (0, 0)) ∧ ((((w1.setCell ⟨w.heap.size, 0, none⟩ (.string y.I)).setCell ⟨w.heap.size, 1, none⟩ (.string y.Q)).setCell ⟨w.heap.size, 2, none⟩ (.string y.M)).setCell ⟨w.heap.size, 3, none⟩ (.string y.R)).heap[w.heap.size + 2]? = some (.cells #[.int .i64 0, .int .i64 0, .int .i64 0, .int .i64 0] 39 (0, 0)) := by
  have h1 := h.r1
  exact ⟨(heap_alloc_old _ _ (by simp; omega)).symm.trans h.img, (heap_alloc_old _ _ (by simp; omega)).symm.trans h.res, (heap_alloc_old _ _ (by simp; omega)).symm.trans h.scan⟩
set_option maxHeartbeats 1000000 in
theorem run_nil (x : Img) (t : Int) (w : World) (hx : imgOk x) :
    Calls Try.prog 14 #[.pointer none, x.val, .int .i64 t] w fun e w' => e = .returned (.tuple #[(fitV x).val, .agg #[.int .i64 0, .int .i64 0, .int .i64 0, .int .i64 0]]) ∧ Below w.heap.size w w' := by
  have F := hid fun W => fit_any x W hx
  obtain ⟨y, hy⟩ : ∃ y, y = fitV x := ⟨_, rfl⟩
  rw [← hy] at F ⊢
  obtain ⟨xi, xq, xm, xr⟩ := x
  obtain ⟨yi, yq, ym, yr⟩ := y
  simp only [Img.val] at F ⊢
  clear hy
  go_enter Try.func14, Try.ntmps14
  go_upto_region 3 with (first
    | (go_at_call 13; refine (F.out _).mono ?_; rintro e w1 ⟨rfl, hb⟩; have hbc := (bcell hb).1; have hbf := (bcell hb).2; (try simp only [World.size_alloc, World.size_setCell] at hbc hbf); have hlt : w.heap.size + 2 < w1.heap.size := by (have hsz := hb.size; simp only [World.size_alloc, World.size_setCell] at hsz; omega)))
  have hW := (Rw.mk' (x := ⟨xi, xq, xm, xr⟩) (y := ⟨yi, yq, ym, yr⟩) 0 hb).less
  have hBW : Below w.heap.size w ((((w1.setCell ⟨w.heap.size, 0, none⟩ (.string yi)).setCell ⟨w.heap.size, 1, none⟩ (.string yq)).setCell ⟨w.heap.size, 2, none⟩ (.string ym)).setCell ⟨w.heap.size, 3, none⟩ (.string yr)) := (by repeat (first | exact Below.refl _ _ | assumption | (with_reducible refine below_alloc' ?_ _) | (with_reducible refine below_drew' ?_) | (with_reducible refine below_drewN' ?_ _) | (with_reducible refine below_setCell' ?_ (by first | omega | (simp; omega) | (simp; done)) _) | (refine below_then' ?_ (by assumption))))
  simp only at hW
  obtain ⟨W, hWe⟩ : ∃ W, W = ((((w1.setCell ⟨w.heap.size, 0, none⟩ (.string yi)).setCell ⟨w.heap.size, 1, none⟩ (.string yq)).setCell ⟨w.heap.size, 2, none⟩ (.string ym)).setCell ⟨w.heap.size, 3, none⟩ (.string yr)) := ⟨_, rfl⟩
  rw [← hWe] at hW hBW ⊢
  obtain ⟨g0, g1, g2⟩ := hW
  clear hWe hbc hbf hb hlt
  have i0 : W.cell? ⟨w.heap.size, 0, none⟩ = some (.string yi) := cell_of_heap g0 0
  have i1 : W.cell? ⟨w.heap.size, 1, none⟩ = some (.string yq) := cell_of_heap g0 1
  have i2 : W.cell? ⟨w.heap.size, 2, none⟩ = some (.string ym) := cell_of_heap g0 2
  have i3 : W.cell? ⟨w.heap.size, 3, none⟩ = some (.string yr) := cell_of_heap g0 3
  have j0 : W.cell? ⟨w.heap.size + 1, 0, none⟩ = some (.string ⟨#[]⟩) := cell_of_heap g1 0
  have j1 : W.cell? ⟨w.heap.size + 1, 1, none⟩ = some (.string ⟨#[]⟩) := cell_of_heap g1 1
  have j2 : W.cell? ⟨w.heap.size + 1, 2, none⟩ = some (.string ⟨#[]⟩) := cell_of_heap g1 2
  have j3 : W.cell? ⟨w.heap.size + 1, 3, none⟩ = some (.string ⟨#[]⟩) := cell_of_heap g1 3
  have k0 : W.cell? ⟨w.heap.size + 1 + 1, 0, none⟩ = some (.int .i64 0) := cell_of_heap g2 0
  have k1 : W.cell? ⟨w.heap.size + 1 + 1, 1, none⟩ = some (.int .i64 0) := cell_of_heap g2 1
  have k2 : W.cell? ⟨w.heap.size + 1 + 1, 2, none⟩ = some (.int .i64 0) := cell_of_heap g2 2
  have k3 : W.cell? ⟨w.heap.size + 1 + 1, 3, none⟩ = some (.int .i64 0) := cell_of_heap g2 3
  have f0 := frozen_of_heap g1
  have f1 : ∀ o, W.frozen? ⟨w.heap.size + 1 + 1, o, none⟩ = false := frozen_of_heap g2
  have l0 := heap_lt g0
  have l1 := heap_lt g1
  have l2 : w.heap.size + 1 + 1 < W.heap.size := heap_lt g2
  have HB := hid hBW
  clear hBW g0 g1 g2
  go_wp2
  have HB' := HB.out
  exact bodyPost_ret (v := .tuple #[.agg #[.string yi, .string yq, .string ym, .string yr], .agg #[.int .i64 0, .int .i64 0, .int .i64 0, .int .i64 0]]) (by simp [results, Try.results14, go_sem, j0, j1, j2, j3, k0, k1, k2, k3, l1, l2]) rfl ⟨rfl, (by repeat (first | (with_reducible exact HB') | (with_reducible refine below_setCell' ?_ (by simp <;> omega) _)))⟩
end Go.Proofs.Ytkhnalboodkddaa
