import Derived.Test.YtkhnalboodkddaaVer6
set_option linter.unusedSimpArgs false
set_option linter.unusedVariables false
set_option maxRecDepth 100000
namespace Go.Proofs.Ytkhnalboodkddaa
open Go.RowKit
def behE (i : Ins) (a : Ah) : Int :=
  if i.op = 1 ∨ i.op = 25 then 0
  else if i.op = 2 then mustI (logicB i.kind)
  else if i.op = 3 then mustI (a.kind == i.kind)
  else if i.op = 4 then mustI (a.kind == i.kind && logicB i.kind)
  else if i.op = 5 ∨ i.op = 6 then mustI (a.kind == 1 && i.kind == 1)
  else if i.op = 13 then mustI (logicB a.kind)
  else if i.op = 26 ∨ i.op = 27 ∨ i.op = 34 ∨ i.op = 35 ∨ i.op = 36 then mustI (a.kind == 1)
  else if i.op = 28 ∨ i.op = 29 ∨ i.op = 30 then retE i.op a.kind a.op.length
  else if i.op = 31 then mustI (a.kind != 0)
  else if i.op = 32 then pushE i.at_ a
  else if i.op = 33 then popE a
  else mustI (a.kind == i.kind && mayK i.op i.kind)
def behA (i : Ins) (a : Ah) : Ah :=
  if i.op = 1 ∨ i.op = 2 ∨ i.op = 31 then ⟨i.kind, a.op⟩
  else if i.op = 3 ∨ i.op = 4 ∨ i.op = 5 ∨ i.op = 6 ∨ i.op = 13 ∨ i.op = 25 ∨ i.op = 26 ∨ i.op = 27 ∨ i.op = 34 ∨ i.op = 35 ∨ i.op = 36 ∨ i.op = 28 ∨ i.op = 29 ∨ i.op = 30 then a
  else if i.op = 32 then pushA i.at_ a
  else if i.op = 33 then popA a
  else ⟨madeI i.op i.kind, a.op⟩
theorem behind_any (kind : Int) (A : Option Addr) (n c : Nat) (op kd ar at_ nn : Int) (l : List Br) (w : World) (hn : n = l.length) (hc1 : l.length ≤ c) (hc2 : c ≤ 9223372036854775807) (hb : BrAt w A l) (h8 : l.length ≤ 8) :
    Calls Try.prog 60 #[.agg #[.int .i64 kind, .slice A n c], .agg #[.int .i64 op, .int .i64 kd, .int .i64 ar, .int .i64 at_, .int .i64 nn]] w (AhRet w (behA ⟨op, kd, ar, at_, nn⟩ ⟨kind, l⟩) (behE ⟨op, kd, ar, at_, nn⟩ ⟨kind, l⟩)) := by
  by_cases h1 : op = 1
  · subst h1; exact behind_1 kind A n c kd ar at_ nn l w hn hc1 hc2 hb
  by_cases h2 : op = 2
  · subst h2; exact behind_2 kind A n c kd ar at_ nn l w hn hc1 hc2 hb
  by_cases h3 : op = 3
  · subst h3; exact behind_3 kind A n c kd ar at_ nn l w hn hc1 hc2 hb
  by_cases h4 : op = 4
  · subst h4
    cases hk : (kind == kd)
    · have e : behE ⟨4, kd, ar, at_, nn⟩ ⟨kind, l⟩ = mustI false := by simp [behE, hk]
      rw [e]; exact behind_4n kind A n c kd ar at_ nn l w hn hc1 hc2 hb hk
    · have e : behE ⟨4, kd, ar, at_, nn⟩ ⟨kind, l⟩ = mustI (logicB kd) := by simp [behE, hk]
      rw [e]; exact behind_4y kind A n c kd ar at_ nn l w hn hc1 hc2 hb hk
  by_cases h5 : op = 5
  · subst h5
    cases hk : (kind == 1)
    · have e : behE ⟨5, kd, ar, at_, nn⟩ ⟨kind, l⟩ = mustI false := by simp [behE, hk]
      rw [e]; exact behind_5n kind A n c kd ar at_ nn l w hn hc1 hc2 hb hk
    · have e : behE ⟨5, kd, ar, at_, nn⟩ ⟨kind, l⟩ = mustI (kd == 1) := by simp [behE, hk]
      rw [e]; exact behind_5y kind A n c kd ar at_ nn l w hn hc1 hc2 hb hk
  by_cases h6 : op = 6
  · subst h6
    cases hk : (kind == 1)
    · have e : behE ⟨6, kd, ar, at_, nn⟩ ⟨kind, l⟩ = mustI false := by simp [behE, hk]
      rw [e]; exact behind_6n kind A n c kd ar at_ nn l w hn hc1 hc2 hb hk
    · have e : behE ⟨6, kd, ar, at_, nn⟩ ⟨kind, l⟩ = mustI (kd == 1) := by simp [behE, hk]
      rw [e]; exact behind_6y kind A n c kd ar at_ nn l w hn hc1 hc2 hb hk
  by_cases h13 : op = 13
  · subst h13; exact behind_13 kind A n c kd ar at_ nn l w hn hc1 hc2 hb
  by_cases h25 : op = 25
  · subst h25; exact behind_25 kind A n c kd ar at_ nn l w hn hc1 hc2 hb
  by_cases h26 : op = 26
  · subst h26; exact behind_26 kind A n c kd ar at_ nn l w hn hc1 hc2 hb
  by_cases h27 : op = 27
  · subst h27; exact behind_27 kind A n c kd ar at_ nn l w hn hc1 hc2 hb
  by_cases h34 : op = 34
  · subst h34; exact behind_34 kind A n c kd ar at_ nn l w hn hc1 hc2 hb
  by_cases h35 : op = 35
  · subst h35; exact behind_35 kind A n c kd ar at_ nn l w hn hc1 hc2 hb
  by_cases h36 : op = 36
  · subst h36; exact behind_36 kind A n c kd ar at_ nn l w hn hc1 hc2 hb
  by_cases h28 : op = 28
  · subst h28; subst hn; exact behind_28 kind A _ c kd ar at_ nn l w rfl hc1 hc2 hb
  by_cases h29 : op = 29
  · subst h29; subst hn; exact behind_29 kind A _ c kd ar at_ nn l w rfl hc1 hc2 hb
  by_cases h30 : op = 30
  · subst h30; subst hn; exact behind_30 kind A _ c kd ar at_ nn l w rfl hc1 hc2 hb
  by_cases h31 : op = 31
  · subst h31; exact behind_31 kind A n c kd ar at_ nn l w hn hc1 hc2 hb
  by_cases h32 : op = 32
  · subst h32; exact behind_32 kind A n c kd ar at_ nn l w hn hc1 hc2 hb h8
  by_cases h33 : op = 33
  · subst h33; exact behind_33 kind A n c kd ar at_ nn l w hn hc1 hc2 hb
  have e1 : behA ⟨op, kd, ar, at_, nn⟩ ⟨kind, l⟩ = ⟨madeI op kd, l⟩ := by simp [behA, *]
  have e2 : behE ⟨op, kd, ar, at_, nn⟩ ⟨kind, l⟩ = mustI (kind == kd && mayK op kd) := by simp [behE, *]
  rw [e1, e2]
  cases hk : (kind == kd)
  · exact behind_nn kind A n c op kd ar at_ nn l w hn hc1 hc2 hb ⟨h1, h2, h3, h4, h5, h6, h13, h25, h26, h27, h34, h35, h36, h28, h29, h30, h31, h32, h33⟩ hk
  · exact behind_ny kind A n c op kd ar at_ nn l w hn hc1 hc2 hb ⟨h1, h2, h3, h4, h5, h6, h13, h25, h26, h27, h34, h35, h36, h28, h29, h30, h31, h32, h33⟩ hk
end Go.Proofs.Ytkhnalboodkddaa
