import Derived.Test.YtkhnalboodkddaaIec2
set_option linter.unusedSimpArgs false
set_option linter.unusedVariables false
namespace Go.Proofs.Ytkhnalboodkddaa
open Go.RowKit
@[go_sem] theorem ksize_1 : ksize 1 = 1 := rfl
@[go_sem] theorem ksigned_1 : ksigned 1 = false := rfl
@[go_sem] theorem kbits_1 : kbits 1 = true := rfl
@[go_sem] theorem isKind_1 : isKind 1 = true := rfl
@[go_sem] theorem ksize_2 : ksize 2 = 1 := rfl
@[go_sem] theorem ksigned_2 : ksigned 2 = true := rfl
@[go_sem] theorem kbits_2 : kbits 2 = false := rfl
@[go_sem] theorem isKind_2 : isKind 2 = true := rfl
@[go_sem] theorem ksize_3 : ksize 3 = 2 := rfl
@[go_sem] theorem ksigned_3 : ksigned 3 = true := rfl
@[go_sem] theorem kbits_3 : kbits 3 = false := rfl
@[go_sem] theorem isKind_3 : isKind 3 = true := rfl
@[go_sem] theorem ksize_4 : ksize 4 = 4 := rfl
@[go_sem] theorem ksigned_4 : ksigned 4 = true := rfl
@[go_sem] theorem kbits_4 : kbits 4 = false := rfl
@[go_sem] theorem isKind_4 : isKind 4 = true := rfl
@[go_sem] theorem ksize_5 : ksize 5 = 2 := rfl
@[go_sem] theorem ksigned_5 : ksigned 5 = false := rfl
@[go_sem] theorem kbits_5 : kbits 5 = false := rfl
@[go_sem] theorem isKind_5 : isKind 5 = true := rfl
@[go_sem] theorem ksize_6 : ksize 6 = 2 := rfl
@[go_sem] theorem ksigned_6 : ksigned 6 = false := rfl
@[go_sem] theorem kbits_6 : kbits 6 = true := rfl
@[go_sem] theorem isKind_6 : isKind 6 = true := rfl
@[go_sem] theorem ksize_7 : ksize 7 = 4 := rfl
@[go_sem] theorem ksigned_7 : ksigned 7 = false := rfl
@[go_sem] theorem kbits_7 : kbits 7 = true := rfl
@[go_sem] theorem isKind_7 : isKind 7 = true := rfl
theorem isKind_no {k : Int} (h : k < 1 ∨ 7 < k) : isKind k = false := by simp [isKind]; omega
theorem ksize_no {k : Int} (h : k < 1 ∨ 7 < k) : ksize k = 0 := by
  unfold ksize
  repeat rw [if_neg (by omega)]
def wrapK (k v : Int) : Int := if k = 1 then (if v = 0 then 0 else 1) else if k = 2 then (v+128)%256-128 else if k = 3 then (v+32768)%65536-32768 else if k = 4 then (v+2147483648)%4294967296-2147483648 else if k = 5 then v % 65536 else if k = 6 then v % 65536 else if k = 7 then v % 4294967296 else 0
theorem wrapK_no {k v : Int} (h : k < 1 ∨ 7 < k) : wrapK k v = 0 := by
  unfold wrapK
  repeat rw [if_neg (by omega)]
theorem wrap64_i8 (v : Int) : wrap64 (IntKind.i8.wrap v) = (v+128)%256-128 := by
  unfold wrap64; simp only [IntKind.wrap, IntKind.bits, IntKind.signed]; simp; split <;> omega
theorem wrap64_i16 (v : Int) : wrap64 (IntKind.i16.wrap v) = (v+32768)%65536-32768 := by
  unfold wrap64; simp only [IntKind.wrap, IntKind.bits, IntKind.signed]; simp; split <;> omega
theorem wrap64_i32 (v : Int) : wrap64 (wrap32 v) = (v+2147483648)%4294967296-2147483648 := by
  unfold wrap64 wrap32; omega
theorem wrap64_u16 (v : Int) : wrap64 (IntKind.u16.wrap v) = v % 65536 := by
  unfold wrap64; simp only [IntKind.wrap, IntKind.bits, IntKind.signed]; simp; omega
theorem wrap64_u32 (v : Int) : wrap64 (IntKind.u32.wrap v) = v % 4294967296 := by
  unfold wrap64; rw [IntKind.wrap_u32]; omega
theorem wrap_1 (v : Int) (w : World) :
    Calls Try.prog 72 #[.int .i64 1, .int .i64 v] w fun e w' => e = .returned (.int .i64 (wrapK 1 v)) ∧ Below w.heap.size w w' := by
  by_cases hv : v = 0
  · have h0 : (v != 0) = false := by simp [hv]
    have h0' : (v == 0) = true := by simp [hv]
    have HV := hid hv
    clear hv
    go_enter Try.func72, Try.ntmps72
    go_wp2_with fail
    refine (of_any _ _).mono ?_
    rintro e w1 ⟨rfl, hb⟩
    go_wp2
    go_ret
    exact ⟨ret_int (by rw [wrapK, if_pos rfl, if_pos HV.out]), below_alloc' hb _⟩
  · have h0 : (v != 0) = true := by simp [hv]
    have h0' : (v == 0) = false := by simp [hv]
    have HV := hid hv
    clear hv
    go_enter Try.func72, Try.ntmps72
    go_wp2_with fail
    refine (of_any _ _).mono ?_
    rintro e w1 ⟨rfl, hb⟩
    go_wp2
    go_ret
    exact ⟨ret_int (by rw [wrapK, if_pos rfl, if_neg HV.out]), below_alloc' hb _⟩
theorem wrap_2 (v : Int) (w : World) :
    Calls Try.prog 72 #[.int .i64 2, .int .i64 v] w fun e w' => e = .returned (.int .i64 (wrapK 2 v)) ∧ Below w.heap.size w w' := by
  go_enter Try.func72, Try.ntmps72
  go_wp2_with fail
  refine (of_any _ _).mono ?_
  rintro e w1 ⟨rfl, hb⟩
  go_wp2
  go_ret
  exact ⟨ret_int (by first | exact wrap64_i8 v | (rw [wrap64_i8 v]; rfl) | (simp [wrapK, wrap64_i8]; done)), below_alloc' hb _⟩
theorem wrap_3 (v : Int) (w : World) :
    Calls Try.prog 72 #[.int .i64 3, .int .i64 v] w fun e w' => e = .returned (.int .i64 (wrapK 3 v)) ∧ Below w.heap.size w w' := by
  go_enter Try.func72, Try.ntmps72
  go_wp2_with fail
  refine (of_any _ _).mono ?_
  rintro e w1 ⟨rfl, hb⟩
  go_wp2
  go_ret
  exact ⟨ret_int (by first | exact wrap64_i16 v | (rw [wrap64_i16 v]; rfl) | (simp [wrapK, wrap64_i16]; done)), below_alloc' hb _⟩
theorem wrap_4 (v : Int) (w : World) :
    Calls Try.prog 72 #[.int .i64 4, .int .i64 v] w fun e w' => e = .returned (.int .i64 (wrapK 4 v)) ∧ Below w.heap.size w w' := by
  go_enter Try.func72, Try.ntmps72
  go_wp2_with fail
  refine (of_any _ _).mono ?_
  rintro e w1 ⟨rfl, hb⟩
  go_wp2
  go_ret
  exact ⟨ret_int (by first | exact wrap64_i32 v | (rw [wrap64_i32 v]; rfl) | (simp [wrapK, wrap64_i32]; done)), below_alloc' hb _⟩
theorem wrap_5 (v : Int) (w : World) :
    Calls Try.prog 72 #[.int .i64 5, .int .i64 v] w fun e w' => e = .returned (.int .i64 (wrapK 5 v)) ∧ Below w.heap.size w w' := by
  go_enter Try.func72, Try.ntmps72
  go_wp2_with fail
  refine (of_any _ _).mono ?_
  rintro e w1 ⟨rfl, hb⟩
  go_wp2
  go_ret
  exact ⟨ret_int (by first | exact wrap64_u16 v | (rw [wrap64_u16 v]; rfl) | (simp [wrapK, wrap64_u16]; done)), below_alloc' hb _⟩
theorem wrap_6 (v : Int) (w : World) :
    Calls Try.prog 72 #[.int .i64 6, .int .i64 v] w fun e w' => e = .returned (.int .i64 (wrapK 6 v)) ∧ Below w.heap.size w w' := by
  go_enter Try.func72, Try.ntmps72
  go_wp2_with fail
  refine (of_any _ _).mono ?_
  rintro e w1 ⟨rfl, hb⟩
  go_wp2
  go_ret
  exact ⟨ret_int (by first | exact wrap64_u16 v | (rw [wrap64_u16 v]; rfl) | (simp [wrapK, wrap64_u16]; done)), below_alloc' hb _⟩
theorem wrap_7 (v : Int) (w : World) :
    Calls Try.prog 72 #[.int .i64 7, .int .i64 v] w fun e w' => e = .returned (.int .i64 (wrapK 7 v)) ∧ Below w.heap.size w w' := by
  go_enter Try.func72, Try.ntmps72
  go_wp2_with fail
  refine (of_any _ _).mono ?_
  rintro e w1 ⟨rfl, hb⟩
  go_wp2
  go_ret
  exact ⟨ret_int (by first | exact wrap64_u32 v | (rw [wrap64_u32 v]; rfl) | (simp [wrapK, wrap64_u32]; done)), below_alloc' hb _⟩
theorem wrap_no (k v : Int) (w : World) (h : k < 1 ∨ 7 < k) :
    Calls Try.prog 72 #[.int .i64 k, .int .i64 v] w fun e w' => e = .returned (.int .i64 (wrapK k v)) ∧ Below w.heap.size w w' := by
  have e3 := isKind_no h
  have H := hid h
  clear h
  go_enter Try.func72, Try.ntmps72
  go_wp2_with fail
  refine (of_any _ _).mono ?_
  rintro e w1 ⟨rfl, hb⟩
  go_wp2
  go_ret
  exact ⟨ret_int (by rw [wrapK_no H.out]), below_alloc' hb _⟩
theorem wrap_any (k v : Int) (w : World) :
    Calls Try.prog 72 #[.int .i64 k, .int .i64 v] w fun e w' => e = .returned (.int .i64 (wrapK k v)) ∧ Below w.heap.size w w' := by
  rcases kind_cases k with (rfl | rfl | rfl | rfl | rfl | rfl | rfl) | h
  · exact wrap_1 v w
  · exact wrap_2 v w
  · exact wrap_3 v w
  · exact wrap_4 v w
  · exact wrap_5 v w
  · exact wrap_6 v w
  · exact wrap_7 v w
  · exact wrap_no k v w h
end Go.Proofs.Ytkhnalboodkddaa
