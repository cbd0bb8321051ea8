import Derived.Test.YtkhnalboodkddaaProg
import Derived.WalkKit
import Derived.WalkSpells
import Derived.WalkLawsBesides
import Derived.Deep.QuietTactic
import Derived.BigQuiet
import Derived.Deep.Light
import Derived.StillTailTactics
namespace Go.Proofs.Ytkhnalboodkddaa
open Go.RowKit

theorem hid {p : Prop} (h : p) : Hid p := h
theorem bcell {W w1 : World} (hb : Below W.heap.size W w1) : (∀ b o, b < W.heap.size → w1.cell? ⟨b, o, none⟩ = W.cell? ⟨b, o, none⟩) ∧ (∀ b o, b < W.heap.size → w1.frozen? ⟨b, o, none⟩ = W.frozen? ⟨b, o, none⟩) :=
  ⟨fun b o h => hb.cell (p := ⟨b, o, none⟩) h, fun b o h => hb.frozen (p := ⟨b, o, none⟩) h⟩
theorem below_of_alloc {w w1 : World} {o : Obj} (hb : Below (w.alloc o).heap.size (w.alloc o) w1) : Below w.heap.size w w1 := ((Below.refl _ _).alloc (Nat.le_refl _) o).trans (hb.mono (by simp))
theorem below_alloc' {w w1 : World} (hb : Below w.heap.size w w1) (o : Obj) : Below w.heap.size w (w1.alloc o) := hb.alloc hb.size o
theorem below_then' {w X W : World} (h : Below w.heap.size w X) (k : Below X.heap.size X W) : Below w.heap.size w W := h.trans (k.mono h.size)
theorem below_drew' {w X : World} (h : Below w.heap.size w X) : Below w.heap.size w X.drew := h.drew
theorem below_drewN' {w X : World} (h : Below w.heap.size w X) (n : Nat) : Below w.heap.size w (X.drewN n) := ⟨h.os, h.tape, h.output, h.size, h.block⟩
theorem below_setCell' {w X : World} {p : Addr} (h : Below w.heap.size w X) (hp : w.heap.size ≤ p.block) (u : Value) : Below w.heap.size w (X.setCell p u) := h.setCell hp u
/-- Of the blocks of w none but those listed have turned. -/
structure Only (bs : List Nat) (w w' : World) : Prop where
  os : w'.os = w.os
  tape : w'.tape = w.tape
  output : w'.output = w.output
  size : w.heap.size ≤ w'.heap.size
  block : ∀ k, k < w.heap.size → k ∉ bs → w'.heap[k]? = w.heap[k]?
theorem Only.refl (bs : List Nat) (w : World) : Only bs w w := ⟨rfl, rfl, rfl, Nat.le_refl _, fun _ _ _ => rfl⟩
theorem Only.of_below {bs : List Nat} {w w' : World} (h : Below w.heap.size w w') : Only bs w w' := ⟨h.os, h.tape, h.output, h.size, fun k hk _ => h.block k hk⟩
theorem Only.trans {bs cs : List Nat} {a b c : World} (h : Only bs a b) (k : Only cs b c) (hs : ∀ x, x ∈ cs → x ∈ bs ∨ a.heap.size ≤ x) : Only bs a c :=
  ⟨k.os.trans h.os, k.tape.trans h.tape, k.output.trans h.output, Nat.le_trans h.size k.size, fun i hi hn =>
    (k.block i (Nat.lt_of_lt_of_le hi h.size) (fun hm => by rcases hs i hm with h' | h'; exact hn h'; omega)).trans (h.block i hi hn)⟩
theorem Only.then_ {bs : List Nat} {a b c : World} (h : Only bs a b) (k : Only bs b c) : Only bs a c := h.trans k fun _ hx => Or.inl hx
theorem Only.thenB {bs : List Nat} {a b c : World} (h : Only bs a b) (k : Below b.heap.size b c) : Only bs a c := h.trans (Only.of_below (bs := []) k) fun _ hx => by cases hx
theorem Only.below {bs : List Nat} {w w' : World} {B : Nat} (h : Only bs w w') (hB : B ≤ w.heap.size) (hb : ∀ x, x ∈ bs → B ≤ x) : Below B w w' :=
  ⟨h.os, h.tape, h.output, h.size, fun k hk => h.block k (by omega) (fun hm => by have := hb k hm; omega)⟩
theorem Only.setCell {bs : List Nat} {w X : World} {p : Addr} (h : Only bs w X) (hp : p.block ∈ bs ∨ w.heap.size ≤ p.block) (u : Value) : Only bs w (X.setCell p u) :=
  h.trans (cs := [p.block]) ⟨rfl, rfl, rfl, by simp [World.setCell], fun k _ hk => Below.heap_setCell _ _ _ _ (by simpa using hk)⟩ (fun x hx => by simp at hx; subst hx; exact hp)
theorem Only.alloc {bs : List Nat} {w X : World} (h : Only bs w X) (o : Obj) : Only bs w (X.alloc o) := h.thenB ((Below.refl _ _).alloc (Nat.le_refl _) o)
theorem Only.drew {bs : List Nat} {w X : World} (h : Only bs w X) : Only bs w X.drew := ⟨h.os, h.tape, h.output, h.size, h.block⟩
theorem Only.drewN {bs : List Nat} {w X : World} (h : Only bs w X) (n : Nat) : Only bs w (X.drewN n) := ⟨h.os, h.tape, h.output, h.size, h.block⟩
theorem Only.cell {bs : List Nat} {w w' : World} (h : Only bs w w') {b : Nat} (hb : b < w.heap.size) (hn : b ∉ bs) (o : Nat) : w'.cell? ⟨b, o, none⟩ = w.cell? ⟨b, o, none⟩ := World.cell?_of_block (w := w) (h.block b hb hn)
theorem Only.frozen {bs : List Nat} {w w' : World} (h : Only bs w w') {b : Nat} (hb : b < w.heap.size) (hn : b ∉ bs) (o : Nat) : w'.frozen? ⟨b, o, none⟩ = w.frozen? ⟨b, o, none⟩ := World.frozen?_of_block (w := w) (h.block b hb hn)
theorem cell_of_heap {w : World} {b : Nat} {cs : Array Value} {e : TypeId} {fr : Nat × Nat} (h : w.heap[b]? = some (.cells cs e fr)) (o : Nat) : w.cell? ⟨b, o, none⟩ = cs[o]? := by
  simp [World.cell?, h]
theorem frozen_of_heap {w : World} {b : Nat} {cs : Array Value} {e : TypeId} (h : w.heap[b]? = some (.cells cs e (0, 0))) (o : Nat) : w.frozen? ⟨b, o, none⟩ = false := by
  simp [World.frozen?, h]
theorem heap_new (w : World) (o : Obj) : (w.alloc o).heap[w.heap.size]? = some o := by
  show (w.heap.push o)[w.heap.size]? = _
  simp
theorem still_tail {P : Program} {id : Nat} {Q : Exit → Act → World → Prop} {a : Act} {w : World} {l : List Oper} (n : Nat) (hm : P.follows .mixedOrders = true) (hB : Region.lexTailB .any l.toArray n = true)
    (h : wpStill P l.toArray w.drew (fun a' => wpList P l.toArray Q (l.drop n) a' w.drew) (l.take n) a) : (Code.region id l.toArray true).wp P Q a w := wp_region_still_tail n hm hB h
theorem below_of_grown {w w' : World} (h : w.grownBy w' none) : Below w.heap.size w w' := ⟨h.os, h.tape, h.output, h.size, fun k hk => h.block k hk (by simp)⟩
/-- A block of cells of a type. -/
def Typ (w : World) (b : Nat) (T : TypeId) : Prop := ∃ cs fr, w.heap[b]? = some (.cells cs T fr)
theorem Typ.new (w : World) (cs : Array Value) (T : TypeId) : Typ (w.alloc (.cells cs T)) w.heap.size T := ⟨cs, _, heap_new w _⟩
theorem Typ.lt {w : World} {b : Nat} {T : TypeId} (h : Typ w b T) : b < w.heap.size := by
  obtain ⟨cs, fr, h⟩ := h
  exact (Array.getElem?_eq_some_iff.1 h).1
theorem Typ.setCell {w : World} {b : Nat} {T : TypeId} (h : Typ w b T) (a : Addr) (v : Value) : Typ (w.setCell a v) b T := by
  obtain ⟨cs, fr, h⟩ := h
  by_cases e : a.block = b
  · refine ⟨if a.spot.isSome then cs else cs.setIfInBounds a.off v, fr, ?_⟩
    simp only [World.setCell, Array.getElem?_modify, e, if_true, h, Option.map_some]
  · exact ⟨cs, fr, by rw [Below.heap_setCell _ _ _ _ (fun h => e h.symm)]; exact h⟩
theorem Typ.only {w w' : World} {b : Nat} {T : TypeId} {bs : List Nat} (h : Typ w b T) (ho : Only bs w w') (hn : b ∉ bs) : Typ w' b T := by
  have hlt := h.lt
  obtain ⟨cs, fr, h⟩ := h
  exact ⟨cs, fr, (ho.block b hlt hn).trans h⟩
theorem Typ.below {w w' : World} {b : Nat} {T : TypeId} (h : Typ w b T) (ho : Below w.heap.size w w') : Typ w' b T := h.only (Only.of_below (bs := []) ho) (by simp)
theorem Typ.alloc {w : World} {b : Nat} {T : TypeId} (h : Typ w b T) (o : Obj) : Typ (w.alloc o) b T := h.below ((Below.refl _ _).alloc (Nat.le_refl _) o)
theorem Typ.ne {w : World} {b : Nat} {T U : TypeId} (h : Typ w b T) (hTU : T ≠ U) (cs : Array Value) (fr : Nat × Nat) : w.heap[b]? ≠ some (.cells cs U fr) := by
  obtain ⟨cs', fr', h⟩ := h
  rw [h]
  intro e
  injection e with e
  injection e with _ e
  exact hTU e
theorem heap_setCell_same {w : World} {b : Nat} {cs : Array Value} {T : TypeId} {fr : Nat × Nat} (h : w.heap[b]? = some (.cells cs T fr)) (o : Nat) (v : Value) :
    (w.setCell ⟨b, o, none⟩ v).heap[b]? = some (.cells (cs.setIfInBounds o v) T fr) := by
  simp [World.setCell, Array.getElem?_modify, h]
theorem heap_lt {w : World} {b : Nat} {o : Obj} (h : w.heap[b]? = some o) : b < w.heap.size := (Array.getElem?_eq_some_iff.1 h).1
theorem ret_int {k : IntKind} {a b : Int} (h : a = b) : Ending.returned (.int k a) = .returned (.int k b) := by rw [h]
theorem ret_bool {a b : Bool} (h : a = b) : Ending.returned (.bool a) = .returned (.bool b) := by rw [h]
end Go.Proofs.Ytkhnalboodkddaa
