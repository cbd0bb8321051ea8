import Derived.Test.YtkhnalboodkddaaVer11
set_option linter.unusedSimpArgs false
set_option linter.unusedVariables false
set_option maxRecDepth 100000
namespace Go.Proofs.Ytkhnalboodkddaa
open Go.RowKit
abbrev Tab := List (Option Ah)
/-- One instruction, of the table: an error, or the table behind it. -/
def stepV (n : Nat) (t : Tab) (k : Nat) (i : Ins) : Except (Int × Nat) Tab :=
  if rightB i = false then .error (3, k) else
  match t.getD k none with
  | none => .ok t
  | some a =>
    if jumpsB i.op = true ∧ (i.at_ ≤ k ∨ (n : Int) < i.at_) then .error (7, k)
    else if behE i a ≠ 0 then .error (behE i a, k)
    else if onB i.op = true ∧ leadB t (k + 1) (behA i a) = false then .error (7, k)
    else if jumpsB i.op = true ∧ leadB (if onB i.op then leadT t (k + 1) (behA i a) else t) i.at_.toNat (behA i a) = false then .error (7, k)
    else .ok (if jumpsB i.op then leadT (if onB i.op then leadT t (k + 1) (behA i a) else t) i.at_.toNat (behA i a) else if onB i.op then leadT t (k + 1) (behA i a) else t)
def runV (n : Nat) : Nat → List Ins → Tab → Except (Int × Nat) Tab
  | _, [], t => .ok t
  | k, i :: r, t => match stepV n t k i with
    | .error e => .error e
    | .ok t' => runV n (k + 1) r t'
def endV (n : Nat) (x : Except (Int × Nat) Tab) : Except (Int × Nat) Tab :=
  match x with
  | .error e => .error e
  | .ok t => match t.getD n none with
    | none => .ok t
    | some a => if a.op = [] then .ok t else .error (3, n)
def startV (n : Nat) : Tab := some ⟨0, []⟩ :: List.replicate n none
def verifyV (code : List Ins) : Except (Int × Nat) Tab := if 200 < code.length then .error (2, 200) else endV code.length (runV code.length 0 code (startV code.length))
theorem runV_step {n k : Nat} {code : List Ins} (hk : k < code.length) (t : Tab) : runV n k (code.drop k) t = (match stepV n t k (code.getD k ⟨0, 0, 0, 0, 0⟩) with
    | .error e => .error e
    | .ok t' => runV n (k + 1) (code.drop (k + 1)) t') := by
  rw [List.drop_eq_getElem_cons hk, runV]
  rw [List.getD_eq_getElem?_getD, List.getElem?_eq_getElem hk]
  rfl
theorem leadT_length (t : Tab) (to : Nat) (a : Ah) : (leadT t to a).length = t.length := by
  unfold leadT
  split
  · simp
  · split <;> simp
  · rfl
theorem behA_len (i : Ins) (a : Ah) (h : a.op.length ≤ 8) (he : behE i a = 0) : (behA i a).op.length ≤ 8 := by
  unfold behA
  split
  · exact h
  split
  · exact h
  split
  · rename_i h1 h2 h3
    simp only [behE, h3] at he
    unfold pushA
    split
    · exact h
    split
    · exact h
    · simp; omega
  split
  · unfold popA
    split
    · exact h
    split
    · exact h
    · simp; omega
  · exact h
/-- Instructions that a slice holds. -/
def InsAt (w : World) (A : Option Addr) (code : List Ins) : Prop :=
  code ≠ [] → ∃ b o, A = some ⟨b, o, none⟩ ∧ b < w.heap.size ∧ ∀ i, i < code.length → w.cell? ⟨b, o + i * 5, none⟩ = some (.int .i64 (code.getD i ⟨0, 0, 0, 0, 0⟩).op) ∧ w.cell? ⟨b, o + i * 5 + 1, none⟩ = some (.int .i64 (code.getD i ⟨0, 0, 0, 0, 0⟩).kind) ∧
    w.cell? ⟨b, o + i * 5 + 2, none⟩ = some (.int .i64 (code.getD i ⟨0, 0, 0, 0, 0⟩).area) ∧ w.cell? ⟨b, o + i * 5 + 3, none⟩ = some (.int .i64 (code.getD i ⟨0, 0, 0, 0, 0⟩).at_) ∧ w.cell? ⟨b, o + i * 5 + 4, none⟩ = some (.int .i64 (code.getD i ⟨0, 0, 0, 0, 0⟩).n)
theorem InsAt.below {w w' : World} {A : Option Addr} {code : List Ins} (h : InsAt w A code) (hb : Below w.heap.size w w') : InsAt w' A code := by
  intro hne
  obtain ⟨b, o, e, hlt, hc⟩ := h hne
  refine ⟨b, o, e, Nat.lt_of_lt_of_le hlt hb.size, fun i hi => ?_⟩
  obtain ⟨c0, c1, c2, c3, c4⟩ := hc i hi
  exact ⟨(hb.cell hlt).trans c0, (hb.cell hlt).trans c1, (hb.cell hlt).trans c2, (hb.cell hlt).trans c3, (hb.cell hlt).trans c4⟩
/-- What verify.all answers. -/
def AllRet (w : World) (code : List Ins) (e : Ending) (w' : World) : Prop :=
  match verifyV code with
  | .error (x, k) => e = .returned (.tuple #[.slice none 0 0, .int .i64 x, .int .i64 (k : Int)]) ∧ Below w.heap.size w w'
  | .ok t => ∃ tb p, e = .returned (.tuple #[.slice (some ⟨tb, 0, none⟩) (code.length + 1) (code.length + 1), .int .i64 0, .int .i64 0]) ∧ TRep w' w.heap.size tb t p ∧ t.length = code.length + 1 ∧ Below w.heap.size w w'
/-- The table as it is made. -/
theorem TRep.start {w' : World} {B tb q n : Nat} {cs : Array Value} (h1 : w'.heap[tb]? = some (.cells cs 111 (0, 0))) (h2 : cs.size = n + 1) (h3 : cs[0]? = some (.pointer (some ⟨q, 0, none⟩)))
    (h4 : ∀ i, 0 < i → i < n + 1 → cs[i]? = some (.pointer none)) (h5 : w'.heap[q]? = some (.cells #[.int .i64 0, .slice none 0 0] 114 (0, 0))) (hB : B ≤ tb) (hq : B ≤ q) : TRep w' B tb (startV n) (fun _ => q) := by
  have key : ∀ i a, (startV n)[i]? = some (some a) → i = 0 ∧ a = ⟨0, []⟩ := by
    intro i a hi
    cases i with
    | zero => simp [startV] at hi; exact ⟨rfl, hi.symm⟩
    | succ i => simp [startV, List.getElem?_replicate] at hi
  refine ⟨⟨cs, h1, by simp [startV, h2], fun i a hi => ?_⟩, fun i a hi => ?_, fun i j a b hi hj _ => ?_, hB, fun i a hi => hq, fun i a hi => ?_⟩
  · cases i with
    | zero => simp [startV] at hi; subst hi; exact h3
    | succ i =>
      simp [startV, List.getElem?_replicate] at hi
      obtain ⟨hi, rfl⟩ := hi
      exact h4 (i + 1) (by omega) (by omega)
  · obtain ⟨rfl, rfl⟩ := key i a hi
    exact ⟨none, 0, h5, fun h => absurd rfl h, by simp, by simp⟩
  · rw [(key i a hi).1, (key j b hj).1]
  · obtain ⟨rfl, rfl⟩ := key i a hi
    simp
end Go.Proofs.Ytkhnalboodkddaa
