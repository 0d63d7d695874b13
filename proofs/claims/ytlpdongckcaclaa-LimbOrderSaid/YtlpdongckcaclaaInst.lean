/- What is known of the types and the functions. -/
import Derived.Test.YtlpdongckcaclaaEng6
import Derived.Test.YtlpdongckcaclaaProg
namespace Go.Proofs.Ytlpdongckcaclaa.Own
open Go Go.Proofs
set_option linter.unusedVariables false
def tiT : List (Nat × Bool × Nat) := [(2, false, 1), (3, false, 1), (4, false, 1), (5, false, 1), (6, false, 1), (7, true, 4), (8, true, 4), (9, false, 1), (10, false, 1), (11, false, 1), (12, false, 1), (13, true, 2), (14, true, 2), (15, false, 1), (16, false, 1), (17, false, 1), (18, true, 1), (19, true, 1), (21, false, 1), (22, false, 1), (23, true, 2), (24, true, 2), (25, true, 4), (26, true, 4), (29, true, 7), (30, true, 7), (37, true, 3), (38, true, 3), (45, false, 1), (52, true, 4), (54, false, 1), (57, false, 1), (60, true, 2), (70, false, 1), (73, true, 4), (74, true, 4), (75, true, 0), (76, true, 0), (77, true, 0), (79, false, 1), (80, false, 1), (82, false, 1), (83, false, 1), (84, false, 1), (85, true, 11), (86, true, 11), (87, false, 1)]
theorem tiOK : (tiT.all fun x => decide (tinfo Try.prog x.1 = some x.2)) = true := by kernel_rfl
theorem ti {t n : Nat} {b : Bool} (h : lookN tiT t = some (b, n)) : tinfo Try.prog t = some (b, n) := of_decide_eq_true (List.all_eq_true.1 tiOK _ (lookN_mem h))
def fiT : List (Nat × Nat × Nat × Bool × Nat) := [(7, 0, 0, false, 1), (7, 1, 1, false, 1), (7, 2, 2, false, 1), (7, 3, 3, false, 1), (8, 0, 0, false, 1), (8, 1, 1, false, 1), (8, 2, 2, false, 1), (8, 3, 3, false, 1), (13, 0, 0, false, 1), (13, 1, 1, false, 1), (14, 0, 0, false, 1), (14, 1, 1, false, 1), (18, 0, 0, false, 1), (19, 0, 0, false, 1), (23, 0, 0, false, 1), (23, 1, 1, false, 1), (24, 0, 0, false, 1), (24, 1, 1, false, 1), (25, 0, 0, true, 2), (25, 1, 2, true, 2), (26, 0, 0, true, 2), (26, 1, 2, true, 2), (29, 0, 0, true, 4), (29, 1, 4, true, 2), (29, 2, 6, false, 1), (30, 0, 0, true, 4), (30, 1, 4, true, 2), (30, 2, 6, false, 1), (37, 0, 0, true, 2), (37, 1, 2, false, 1), (38, 0, 0, true, 2), (38, 1, 2, false, 1), (73, 0, 0, false, 1), (73, 1, 1, false, 1), (73, 2, 2, false, 1), (73, 3, 3, false, 1), (74, 0, 0, false, 1), (74, 1, 1, false, 1), (74, 2, 2, false, 1), (74, 3, 3, false, 1), (76, 0, 0, true, 0), (77, 0, 0, true, 0), (85, 0, 0, false, 1), (85, 1, 1, false, 1), (85, 2, 2, false, 1), (85, 3, 3, false, 1), (85, 4, 4, false, 1), (85, 5, 5, false, 1), (85, 6, 6, false, 1), (85, 7, 7, false, 1), (85, 8, 8, false, 1), (85, 9, 9, false, 1), (85, 10, 10, false, 1), (86, 0, 0, false, 1), (86, 1, 1, false, 1), (86, 2, 2, false, 1), (86, 3, 3, false, 1), (86, 4, 4, false, 1), (86, 5, 5, false, 1), (86, 6, 6, false, 1), (86, 7, 7, false, 1), (86, 8, 8, false, 1), (86, 9, 9, false, 1), (86, 10, 10, false, 1)]
theorem fiOK : (fiT.all fun x => decide (finfo Try.prog x.1 x.2.1 = some x.2.2)) = true := by kernel_rfl
theorem fi {t i off n : Nat} {b : Bool} (h : lookN2 fiT t i = some (off, b, n)) : finfo Try.prog t i = some (off, b, n) := of_decide_eq_true (List.all_eq_true.1 fiOK _ (lookN2_mem h))
def siT : List (Nat × Nat) := [(57, 22), (70, 3)]
theorem siOK : (siT.all fun x => isSlice Try.prog x.1 x.2) = true := by kernel_rfl
theorem si {t e : Nat} (h : lookN siT t = some e) : Try.prog.underlying t = some (.slice e) := isSlice_eq (List.all_eq_true.1 siOK _ (lookN_mem h))
def aiT : List (Nat × Nat × Nat) := [(52, 4, 22), (60, 2, 22), (75, 0, 16)]
theorem aiOK : (aiT.all fun x => isArray Try.prog x.1 x.2.1 x.2.2) = true := by kernel_rfl
theorem ai {t len e : Nat} (h : lookN aiT t = some (len, e)) : Try.prog.underlying t = some (.array len e) := isArray_eq (List.all_eq_true.1 aiOK _ (lookN_mem h))
def iiT : List (Nat × IntKind) := [(2, .i64), (3, .i64), (5, .u8), (6, .u8), (12, .u64), (21, .i32), (22, .u64), (45, .u32), (54, .u64), (79, .u8), (80, .u8), (83, .i32), (84, .i32)]
theorem iiOK : (iiT.all fun x => isInt Try.prog x.1 x.2) = true := by kernel_rfl
theorem ii {t : Nat} {k : IntKind} (h : lookN iiT t = some k) : Try.prog.underlying t = some (.int k) := isInt_eq (List.all_eq_true.1 iiOK _ (lookN_mem h))
def fnT : List Nat := [3, 4, 5, 6, 7, 8, 9, 10, 11, 12, 13, 14, 15, 16, 17, 18, 19, 20, 21, 22, 23, 24, 25, 26, 27, 28, 29, 30, 31, 32, 33, 34, 35, 36, 39, 40, 42, 43, 44, 46]
theorem fnOK : (fnT.all fun f => isFn Try.prog f) = true := by kernel_rfl
theorem fn {f : Nat} (h : hasN fnT f = true) : isFn Try.prog f = true := List.all_eq_true.1 fnOK _ (hasN_mem h)
theorem btA0 : Try.prog.underlying 4 = some .bool := by kernel_rfl
theorem zi2 : zinfo Try.prog 2 = some (.int .i64 0) := by kernel_rfl
theorem zi3 : zinfo Try.prog 3 = some (.int .i64 0) := by kernel_rfl
theorem zi4 : zinfo Try.prog 4 = some (.bool false) := by kernel_rfl
theorem zi5 : zinfo Try.prog 5 = some (.int .u8 0) := by kernel_rfl
theorem zi6 : zinfo Try.prog 6 = some (.int .u8 0) := by kernel_rfl
theorem zi7 : zinfo Try.prog 7 = some (.agg #[.int .i64 0, .int .i64 0, .bool false, .int .u8 0]) := by kernel_rfl
theorem zi8 : zinfo Try.prog 8 = some (.agg #[.int .i64 0, .int .i64 0, .bool false, .int .u8 0]) := by kernel_rfl
theorem zi9 : zinfo Try.prog 9 = some (.string ⟨#[]⟩) := by kernel_rfl
theorem zi10 : zinfo Try.prog 10 = some (.string ⟨#[]⟩) := by kernel_rfl
theorem zi11 : zinfo Try.prog 11 = some (.string ⟨#[]⟩) := by kernel_rfl
theorem zi12 : zinfo Try.prog 12 = some (.int .u64 0) := by kernel_rfl
theorem zi13 : zinfo Try.prog 13 = some (.agg #[.string ⟨#[]⟩, .int .u64 0]) := by kernel_rfl
theorem zi14 : zinfo Try.prog 14 = some (.agg #[.string ⟨#[]⟩, .int .u64 0]) := by kernel_rfl
theorem zi15 : zinfo Try.prog 15 = some (.pointer none) := by kernel_rfl
theorem zi16 : zinfo Try.prog 16 = some (.pointer none) := by kernel_rfl
theorem zi17 : zinfo Try.prog 17 = some (.pointer none) := by kernel_rfl
theorem zi18 : zinfo Try.prog 18 = some (.agg #[.pointer none]) := by kernel_rfl
theorem zi19 : zinfo Try.prog 19 = some (.agg #[.pointer none]) := by kernel_rfl
theorem zi21 : zinfo Try.prog 21 = some (.int .i32 0) := by kernel_rfl
theorem zi22 : zinfo Try.prog 22 = some (.int .u64 0) := by kernel_rfl
theorem zi23 : zinfo Try.prog 23 = some (.agg #[.int .u64 0, .int .u64 0]) := by kernel_rfl
theorem zi24 : zinfo Try.prog 24 = some (.agg #[.int .u64 0, .int .u64 0]) := by kernel_rfl
theorem zi25 : zinfo Try.prog 25 = some (.agg #[.int .u64 0, .int .u64 0, .int .u64 0, .int .u64 0]) := by kernel_rfl
theorem zi26 : zinfo Try.prog 26 = some (.agg #[.int .u64 0, .int .u64 0, .int .u64 0, .int .u64 0]) := by kernel_rfl
theorem zi29 : zinfo Try.prog 29 = some (.agg #[.int .u64 0, .int .u64 0, .int .u64 0, .int .u64 0, .int .u64 0, .int .u64 0, .bool false]) := by kernel_rfl
theorem zi30 : zinfo Try.prog 30 = some (.agg #[.int .u64 0, .int .u64 0, .int .u64 0, .int .u64 0, .int .u64 0, .int .u64 0, .bool false]) := by kernel_rfl
theorem zi37 : zinfo Try.prog 37 = some (.agg #[.int .u64 0, .int .u64 0, .bool false]) := by kernel_rfl
theorem zi38 : zinfo Try.prog 38 = some (.agg #[.int .u64 0, .int .u64 0, .bool false]) := by kernel_rfl
theorem zi45 : zinfo Try.prog 45 = some (.int .u32 0) := by kernel_rfl
theorem zi52 : zinfo Try.prog 52 = some (.agg #[.int .u64 0, .int .u64 0, .int .u64 0, .int .u64 0]) := by kernel_rfl
theorem zi54 : zinfo Try.prog 54 = some (.int .u64 0) := by kernel_rfl
theorem zi57 : zinfo Try.prog 57 = some (.slice none 0 0) := by kernel_rfl
theorem zi60 : zinfo Try.prog 60 = some (.agg #[.int .u64 0, .int .u64 0]) := by kernel_rfl
theorem zi70 : zinfo Try.prog 70 = some (.slice none 0 0) := by kernel_rfl
theorem zi73 : zinfo Try.prog 73 = some (.agg #[.pointer none, .pointer none, .pointer none, .string ⟨#[]⟩]) := by kernel_rfl
theorem zi74 : zinfo Try.prog 74 = some (.agg #[.pointer none, .pointer none, .pointer none, .string ⟨#[]⟩]) := by kernel_rfl
theorem zi75 : zinfo Try.prog 75 = some (.agg #[]) := by kernel_rfl
theorem zi76 : zinfo Try.prog 76 = some (.agg #[]) := by kernel_rfl
theorem zi77 : zinfo Try.prog 77 = some (.agg #[]) := by kernel_rfl
theorem zi79 : zinfo Try.prog 79 = some (.int .u8 0) := by kernel_rfl
theorem zi80 : zinfo Try.prog 80 = some (.int .u8 0) := by kernel_rfl
theorem zi82 : zinfo Try.prog 82 = some (.pointer none) := by kernel_rfl
theorem zi83 : zinfo Try.prog 83 = some (.int .i32 0) := by kernel_rfl
theorem zi84 : zinfo Try.prog 84 = some (.int .i32 0) := by kernel_rfl
theorem zi85 : zinfo Try.prog 85 = some (.agg #[.int .u64 0, .int .u64 0, .int .u32 0, .int .u8 0, .int .u8 0, .int .u8 0, .int .u8 0, .nilFunc, .pointer none, .int .i32 0, .int .i32 0]) := by kernel_rfl
theorem zi86 : zinfo Try.prog 86 = some (.agg #[.int .u64 0, .int .u64 0, .int .u32 0, .int .u8 0, .int .u8 0, .int .u8 0, .int .u8 0, .nilFunc, .pointer none, .int .i32 0, .int .i32 0]) := by kernel_rfl
def ziT (t : Nat) : Option Value := bif Nat.beq t 2 then some (.int .i64 0) else (bif Nat.beq t 3 then some (.int .i64 0) else (bif Nat.beq t 4 then some (.bool false) else (bif Nat.beq t 5 then some (.int .u8 0) else (bif Nat.beq t 6 then some (.int .u8 0) else (bif Nat.beq t 7 then some (.agg #[.int .i64 0, .int .i64 0, .bool false, .int .u8 0]) else (bif Nat.beq t 8 then some (.agg #[.int .i64 0, .int .i64 0, .bool false, .int .u8 0]) else (bif Nat.beq t 9 then some (.string ⟨#[]⟩) else (bif Nat.beq t 10 then some (.string ⟨#[]⟩) else (bif Nat.beq t 11 then some (.string ⟨#[]⟩) else (bif Nat.beq t 12 then some (.int .u64 0) else (bif Nat.beq t 13 then some (.agg #[.string ⟨#[]⟩, .int .u64 0]) else (bif Nat.beq t 14 then some (.agg #[.string ⟨#[]⟩, .int .u64 0]) else (bif Nat.beq t 15 then some (.pointer none) else (bif Nat.beq t 16 then some (.pointer none) else (bif Nat.beq t 17 then some (.pointer none) else (bif Nat.beq t 18 then some (.agg #[.pointer none]) else (bif Nat.beq t 19 then some (.agg #[.pointer none]) else (bif Nat.beq t 21 then some (.int .i32 0) else (bif Nat.beq t 22 then some (.int .u64 0) else (bif Nat.beq t 23 then some (.agg #[.int .u64 0, .int .u64 0]) else (bif Nat.beq t 24 then some (.agg #[.int .u64 0, .int .u64 0]) else (bif Nat.beq t 25 then some (.agg #[.int .u64 0, .int .u64 0, .int .u64 0, .int .u64 0]) else (bif Nat.beq t 26 then some (.agg #[.int .u64 0, .int .u64 0, .int .u64 0, .int .u64 0]) else (bif Nat.beq t 29 then some (.agg #[.int .u64 0, .int .u64 0, .int .u64 0, .int .u64 0, .int .u64 0, .int .u64 0, .bool false]) else (bif Nat.beq t 30 then some (.agg #[.int .u64 0, .int .u64 0, .int .u64 0, .int .u64 0, .int .u64 0, .int .u64 0, .bool false]) else (bif Nat.beq t 37 then some (.agg #[.int .u64 0, .int .u64 0, .bool false]) else (bif Nat.beq t 38 then some (.agg #[.int .u64 0, .int .u64 0, .bool false]) else (bif Nat.beq t 45 then some (.int .u32 0) else (bif Nat.beq t 52 then some (.agg #[.int .u64 0, .int .u64 0, .int .u64 0, .int .u64 0]) else (bif Nat.beq t 54 then some (.int .u64 0) else (bif Nat.beq t 57 then some (.slice none 0 0) else (bif Nat.beq t 60 then some (.agg #[.int .u64 0, .int .u64 0]) else (bif Nat.beq t 70 then some (.slice none 0 0) else (bif Nat.beq t 73 then some (.agg #[.pointer none, .pointer none, .pointer none, .string ⟨#[]⟩]) else (bif Nat.beq t 74 then some (.agg #[.pointer none, .pointer none, .pointer none, .string ⟨#[]⟩]) else (bif Nat.beq t 75 then some (.agg #[]) else (bif Nat.beq t 76 then some (.agg #[]) else (bif Nat.beq t 77 then some (.agg #[]) else (bif Nat.beq t 79 then some (.int .u8 0) else (bif Nat.beq t 80 then some (.int .u8 0) else (bif Nat.beq t 82 then some (.pointer none) else (bif Nat.beq t 83 then some (.int .i32 0) else (bif Nat.beq t 84 then some (.int .i32 0) else (bif Nat.beq t 85 then some (.agg #[.int .u64 0, .int .u64 0, .int .u32 0, .int .u8 0, .int .u8 0, .int .u8 0, .int .u8 0, .nilFunc, .pointer none, .int .i32 0, .int .i32 0]) else (bif Nat.beq t 86 then some (.agg #[.int .u64 0, .int .u64 0, .int .u32 0, .int .u8 0, .int .u8 0, .int .u8 0, .int .u8 0, .nilFunc, .pointer none, .int .i32 0, .int .i32 0]) else (none))))))))))))))))))))))))))))))))))))))))))))))
theorem ziOf {t : Nat} {z : Value} (h : ziT t = some z) : zinfo Try.prog t = some z := by
  unfold ziT at h
  by_cases e2 : t = 2
  · subst e2; rw [show Nat.beq 2 2 = true from rfl, cond_true] at h; rw [← h]; exact zi2
  have f2 : Nat.beq t 2 = false := by rw [Bool.eq_false_iff]; exact fun q => e2 (Nat.eq_of_beq_eq_true q)
  rw [f2, cond_false] at h
  by_cases e3 : t = 3
  · subst e3; rw [show Nat.beq 3 3 = true from rfl, cond_true] at h; rw [← h]; exact zi3
  have f3 : Nat.beq t 3 = false := by rw [Bool.eq_false_iff]; exact fun q => e3 (Nat.eq_of_beq_eq_true q)
  rw [f3, cond_false] at h
  by_cases e4 : t = 4
  · subst e4; rw [show Nat.beq 4 4 = true from rfl, cond_true] at h; rw [← h]; exact zi4
  have f4 : Nat.beq t 4 = false := by rw [Bool.eq_false_iff]; exact fun q => e4 (Nat.eq_of_beq_eq_true q)
  rw [f4, cond_false] at h
  by_cases e5 : t = 5
  · subst e5; rw [show Nat.beq 5 5 = true from rfl, cond_true] at h; rw [← h]; exact zi5
  have f5 : Nat.beq t 5 = false := by rw [Bool.eq_false_iff]; exact fun q => e5 (Nat.eq_of_beq_eq_true q)
  rw [f5, cond_false] at h
  by_cases e6 : t = 6
  · subst e6; rw [show Nat.beq 6 6 = true from rfl, cond_true] at h; rw [← h]; exact zi6
  have f6 : Nat.beq t 6 = false := by rw [Bool.eq_false_iff]; exact fun q => e6 (Nat.eq_of_beq_eq_true q)
  rw [f6, cond_false] at h
  by_cases e7 : t = 7
  · subst e7; rw [show Nat.beq 7 7 = true from rfl, cond_true] at h; rw [← h]; exact zi7
  have f7 : Nat.beq t 7 = false := by rw [Bool.eq_false_iff]; exact fun q => e7 (Nat.eq_of_beq_eq_true q)
  rw [f7, cond_false] at h
  by_cases e8 : t = 8
  · subst e8; rw [show Nat.beq 8 8 = true from rfl, cond_true] at h; rw [← h]; exact zi8
  have f8 : Nat.beq t 8 = false := by rw [Bool.eq_false_iff]; exact fun q => e8 (Nat.eq_of_beq_eq_true q)
  rw [f8, cond_false] at h
  by_cases e9 : t = 9
  · subst e9; rw [show Nat.beq 9 9 = true from rfl, cond_true] at h; rw [← h]; exact zi9
  have f9 : Nat.beq t 9 = false := by rw [Bool.eq_false_iff]; exact fun q => e9 (Nat.eq_of_beq_eq_true q)
  rw [f9, cond_false] at h
  by_cases e10 : t = 10
  · subst e10; rw [show Nat.beq 10 10 = true from rfl, cond_true] at h; rw [← h]; exact zi10
  have f10 : Nat.beq t 10 = false := by rw [Bool.eq_false_iff]; exact fun q => e10 (Nat.eq_of_beq_eq_true q)
  rw [f10, cond_false] at h
  by_cases e11 : t = 11
  · subst e11; rw [show Nat.beq 11 11 = true from rfl, cond_true] at h; rw [← h]; exact zi11
  have f11 : Nat.beq t 11 = false := by rw [Bool.eq_false_iff]; exact fun q => e11 (Nat.eq_of_beq_eq_true q)
  rw [f11, cond_false] at h
  by_cases e12 : t = 12
  · subst e12; rw [show Nat.beq 12 12 = true from rfl, cond_true] at h; rw [← h]; exact zi12
  have f12 : Nat.beq t 12 = false := by rw [Bool.eq_false_iff]; exact fun q => e12 (Nat.eq_of_beq_eq_true q)
  rw [f12, cond_false] at h
  by_cases e13 : t = 13
  · subst e13; rw [show Nat.beq 13 13 = true from rfl, cond_true] at h; rw [← h]; exact zi13
  have f13 : Nat.beq t 13 = false := by rw [Bool.eq_false_iff]; exact fun q => e13 (Nat.eq_of_beq_eq_true q)
  rw [f13, cond_false] at h
  by_cases e14 : t = 14
  · subst e14; rw [show Nat.beq 14 14 = true from rfl, cond_true] at h; rw [← h]; exact zi14
  have f14 : Nat.beq t 14 = false := by rw [Bool.eq_false_iff]; exact fun q => e14 (Nat.eq_of_beq_eq_true q)
  rw [f14, cond_false] at h
  by_cases e15 : t = 15
  · subst e15; rw [show Nat.beq 15 15 = true from rfl, cond_true] at h; rw [← h]; exact zi15
  have f15 : Nat.beq t 15 = false := by rw [Bool.eq_false_iff]; exact fun q => e15 (Nat.eq_of_beq_eq_true q)
  rw [f15, cond_false] at h
  by_cases e16 : t = 16
  · subst e16; rw [show Nat.beq 16 16 = true from rfl, cond_true] at h; rw [← h]; exact zi16
  have f16 : Nat.beq t 16 = false := by rw [Bool.eq_false_iff]; exact fun q => e16 (Nat.eq_of_beq_eq_true q)
  rw [f16, cond_false] at h
  by_cases e17 : t = 17
  · subst e17; rw [show Nat.beq 17 17 = true from rfl, cond_true] at h; rw [← h]; exact zi17
  have f17 : Nat.beq t 17 = false := by rw [Bool.eq_false_iff]; exact fun q => e17 (Nat.eq_of_beq_eq_true q)
  rw [f17, cond_false] at h
  by_cases e18 : t = 18
  · subst e18; rw [show Nat.beq 18 18 = true from rfl, cond_true] at h; rw [← h]; exact zi18
  have f18 : Nat.beq t 18 = false := by rw [Bool.eq_false_iff]; exact fun q => e18 (Nat.eq_of_beq_eq_true q)
  rw [f18, cond_false] at h
  by_cases e19 : t = 19
  · subst e19; rw [show Nat.beq 19 19 = true from rfl, cond_true] at h; rw [← h]; exact zi19
  have f19 : Nat.beq t 19 = false := by rw [Bool.eq_false_iff]; exact fun q => e19 (Nat.eq_of_beq_eq_true q)
  rw [f19, cond_false] at h
  by_cases e21 : t = 21
  · subst e21; rw [show Nat.beq 21 21 = true from rfl, cond_true] at h; rw [← h]; exact zi21
  have f21 : Nat.beq t 21 = false := by rw [Bool.eq_false_iff]; exact fun q => e21 (Nat.eq_of_beq_eq_true q)
  rw [f21, cond_false] at h
  by_cases e22 : t = 22
  · subst e22; rw [show Nat.beq 22 22 = true from rfl, cond_true] at h; rw [← h]; exact zi22
  have f22 : Nat.beq t 22 = false := by rw [Bool.eq_false_iff]; exact fun q => e22 (Nat.eq_of_beq_eq_true q)
  rw [f22, cond_false] at h
  by_cases e23 : t = 23
  · subst e23; rw [show Nat.beq 23 23 = true from rfl, cond_true] at h; rw [← h]; exact zi23
  have f23 : Nat.beq t 23 = false := by rw [Bool.eq_false_iff]; exact fun q => e23 (Nat.eq_of_beq_eq_true q)
  rw [f23, cond_false] at h
  by_cases e24 : t = 24
  · subst e24; rw [show Nat.beq 24 24 = true from rfl, cond_true] at h; rw [← h]; exact zi24
  have f24 : Nat.beq t 24 = false := by rw [Bool.eq_false_iff]; exact fun q => e24 (Nat.eq_of_beq_eq_true q)
  rw [f24, cond_false] at h
  by_cases e25 : t = 25
  · subst e25; rw [show Nat.beq 25 25 = true from rfl, cond_true] at h; rw [← h]; exact zi25
  have f25 : Nat.beq t 25 = false := by rw [Bool.eq_false_iff]; exact fun q => e25 (Nat.eq_of_beq_eq_true q)
  rw [f25, cond_false] at h
  by_cases e26 : t = 26
  · subst e26; rw [show Nat.beq 26 26 = true from rfl, cond_true] at h; rw [← h]; exact zi26
  have f26 : Nat.beq t 26 = false := by rw [Bool.eq_false_iff]; exact fun q => e26 (Nat.eq_of_beq_eq_true q)
  rw [f26, cond_false] at h
  by_cases e29 : t = 29
  · subst e29; rw [show Nat.beq 29 29 = true from rfl, cond_true] at h; rw [← h]; exact zi29
  have f29 : Nat.beq t 29 = false := by rw [Bool.eq_false_iff]; exact fun q => e29 (Nat.eq_of_beq_eq_true q)
  rw [f29, cond_false] at h
  by_cases e30 : t = 30
  · subst e30; rw [show Nat.beq 30 30 = true from rfl, cond_true] at h; rw [← h]; exact zi30
  have f30 : Nat.beq t 30 = false := by rw [Bool.eq_false_iff]; exact fun q => e30 (Nat.eq_of_beq_eq_true q)
  rw [f30, cond_false] at h
  by_cases e37 : t = 37
  · subst e37; rw [show Nat.beq 37 37 = true from rfl, cond_true] at h; rw [← h]; exact zi37
  have f37 : Nat.beq t 37 = false := by rw [Bool.eq_false_iff]; exact fun q => e37 (Nat.eq_of_beq_eq_true q)
  rw [f37, cond_false] at h
  by_cases e38 : t = 38
  · subst e38; rw [show Nat.beq 38 38 = true from rfl, cond_true] at h; rw [← h]; exact zi38
  have f38 : Nat.beq t 38 = false := by rw [Bool.eq_false_iff]; exact fun q => e38 (Nat.eq_of_beq_eq_true q)
  rw [f38, cond_false] at h
  by_cases e45 : t = 45
  · subst e45; rw [show Nat.beq 45 45 = true from rfl, cond_true] at h; rw [← h]; exact zi45
  have f45 : Nat.beq t 45 = false := by rw [Bool.eq_false_iff]; exact fun q => e45 (Nat.eq_of_beq_eq_true q)
  rw [f45, cond_false] at h
  by_cases e52 : t = 52
  · subst e52; rw [show Nat.beq 52 52 = true from rfl, cond_true] at h; rw [← h]; exact zi52
  have f52 : Nat.beq t 52 = false := by rw [Bool.eq_false_iff]; exact fun q => e52 (Nat.eq_of_beq_eq_true q)
  rw [f52, cond_false] at h
  by_cases e54 : t = 54
  · subst e54; rw [show Nat.beq 54 54 = true from rfl, cond_true] at h; rw [← h]; exact zi54
  have f54 : Nat.beq t 54 = false := by rw [Bool.eq_false_iff]; exact fun q => e54 (Nat.eq_of_beq_eq_true q)
  rw [f54, cond_false] at h
  by_cases e57 : t = 57
  · subst e57; rw [show Nat.beq 57 57 = true from rfl, cond_true] at h; rw [← h]; exact zi57
  have f57 : Nat.beq t 57 = false := by rw [Bool.eq_false_iff]; exact fun q => e57 (Nat.eq_of_beq_eq_true q)
  rw [f57, cond_false] at h
  by_cases e60 : t = 60
  · subst e60; rw [show Nat.beq 60 60 = true from rfl, cond_true] at h; rw [← h]; exact zi60
  have f60 : Nat.beq t 60 = false := by rw [Bool.eq_false_iff]; exact fun q => e60 (Nat.eq_of_beq_eq_true q)
  rw [f60, cond_false] at h
  by_cases e70 : t = 70
  · subst e70; rw [show Nat.beq 70 70 = true from rfl, cond_true] at h; rw [← h]; exact zi70
  have f70 : Nat.beq t 70 = false := by rw [Bool.eq_false_iff]; exact fun q => e70 (Nat.eq_of_beq_eq_true q)
  rw [f70, cond_false] at h
  by_cases e73 : t = 73
  · subst e73; rw [show Nat.beq 73 73 = true from rfl, cond_true] at h; rw [← h]; exact zi73
  have f73 : Nat.beq t 73 = false := by rw [Bool.eq_false_iff]; exact fun q => e73 (Nat.eq_of_beq_eq_true q)
  rw [f73, cond_false] at h
  by_cases e74 : t = 74
  · subst e74; rw [show Nat.beq 74 74 = true from rfl, cond_true] at h; rw [← h]; exact zi74
  have f74 : Nat.beq t 74 = false := by rw [Bool.eq_false_iff]; exact fun q => e74 (Nat.eq_of_beq_eq_true q)
  rw [f74, cond_false] at h
  by_cases e75 : t = 75
  · subst e75; rw [show Nat.beq 75 75 = true from rfl, cond_true] at h; rw [← h]; exact zi75
  have f75 : Nat.beq t 75 = false := by rw [Bool.eq_false_iff]; exact fun q => e75 (Nat.eq_of_beq_eq_true q)
  rw [f75, cond_false] at h
  by_cases e76 : t = 76
  · subst e76; rw [show Nat.beq 76 76 = true from rfl, cond_true] at h; rw [← h]; exact zi76
  have f76 : Nat.beq t 76 = false := by rw [Bool.eq_false_iff]; exact fun q => e76 (Nat.eq_of_beq_eq_true q)
  rw [f76, cond_false] at h
  by_cases e77 : t = 77
  · subst e77; rw [show Nat.beq 77 77 = true from rfl, cond_true] at h; rw [← h]; exact zi77
  have f77 : Nat.beq t 77 = false := by rw [Bool.eq_false_iff]; exact fun q => e77 (Nat.eq_of_beq_eq_true q)
  rw [f77, cond_false] at h
  by_cases e79 : t = 79
  · subst e79; rw [show Nat.beq 79 79 = true from rfl, cond_true] at h; rw [← h]; exact zi79
  have f79 : Nat.beq t 79 = false := by rw [Bool.eq_false_iff]; exact fun q => e79 (Nat.eq_of_beq_eq_true q)
  rw [f79, cond_false] at h
  by_cases e80 : t = 80
  · subst e80; rw [show Nat.beq 80 80 = true from rfl, cond_true] at h; rw [← h]; exact zi80
  have f80 : Nat.beq t 80 = false := by rw [Bool.eq_false_iff]; exact fun q => e80 (Nat.eq_of_beq_eq_true q)
  rw [f80, cond_false] at h
  by_cases e82 : t = 82
  · subst e82; rw [show Nat.beq 82 82 = true from rfl, cond_true] at h; rw [← h]; exact zi82
  have f82 : Nat.beq t 82 = false := by rw [Bool.eq_false_iff]; exact fun q => e82 (Nat.eq_of_beq_eq_true q)
  rw [f82, cond_false] at h
  by_cases e83 : t = 83
  · subst e83; rw [show Nat.beq 83 83 = true from rfl, cond_true] at h; rw [← h]; exact zi83
  have f83 : Nat.beq t 83 = false := by rw [Bool.eq_false_iff]; exact fun q => e83 (Nat.eq_of_beq_eq_true q)
  rw [f83, cond_false] at h
  by_cases e84 : t = 84
  · subst e84; rw [show Nat.beq 84 84 = true from rfl, cond_true] at h; rw [← h]; exact zi84
  have f84 : Nat.beq t 84 = false := by rw [Bool.eq_false_iff]; exact fun q => e84 (Nat.eq_of_beq_eq_true q)
  rw [f84, cond_false] at h
  by_cases e85 : t = 85
  · subst e85; rw [show Nat.beq 85 85 = true from rfl, cond_true] at h; rw [← h]; exact zi85
  have f85 : Nat.beq t 85 = false := by rw [Bool.eq_false_iff]; exact fun q => e85 (Nat.eq_of_beq_eq_true q)
  rw [f85, cond_false] at h
  by_cases e86 : t = 86
  · subst e86; rw [show Nat.beq 86 86 = true from rfl, cond_true] at h; rw [← h]; exact zi86
  have f86 : Nat.beq t 86 = false := by rw [Bool.eq_false_iff]; exact fun q => e86 (Nat.eq_of_beq_eq_true q)
  rw [f86, cond_false] at h
  cases h
theorem biA0 : BI Try.prog 8 [.int .i64 0, .int .i64 0, .bool false, .int .u8 0] [(0, 1), (1, 1), (2, 1), (3, 1)] := ⟨by kernel_rfl, fun w => by kernel_rfl⟩
theorem biA1 : BI Try.prog 14 [.string ⟨#[]⟩, .int .u64 0] [(0, 1), (1, 1)] := ⟨by kernel_rfl, fun w => by kernel_rfl⟩
theorem biA2 : BI Try.prog 19 [.pointer none] [(0, 1)] := ⟨by kernel_rfl, fun w => by kernel_rfl⟩
theorem biA3 : BI Try.prog 24 [.int .u64 0, .int .u64 0] [(0, 1), (1, 1)] := ⟨by kernel_rfl, fun w => by kernel_rfl⟩
theorem biA4 : BI Try.prog 26 [.int .u64 0, .int .u64 0, .int .u64 0, .int .u64 0] [(0, 2), (2, 2)] := ⟨by kernel_rfl, fun w => by kernel_rfl⟩
theorem biA5 : BI Try.prog 30 [.int .u64 0, .int .u64 0, .int .u64 0, .int .u64 0, .int .u64 0, .int .u64 0, .bool false] [(0, 4), (4, 2), (6, 1)] := ⟨by kernel_rfl, fun w => by kernel_rfl⟩
theorem biA6 : BI Try.prog 38 [.int .u64 0, .int .u64 0, .bool false] [(0, 2), (2, 1)] := ⟨by kernel_rfl, fun w => by kernel_rfl⟩
theorem biA7 : BI Try.prog 74 [.pointer none, .pointer none, .pointer none, .string ⟨#[]⟩] [(0, 1), (1, 1), (2, 1), (3, 1)] := ⟨by kernel_rfl, fun w => by kernel_rfl⟩
theorem biA8 : BI Try.prog 77 [] [(0, 0)] := ⟨by kernel_rfl, fun w => by kernel_rfl⟩
theorem biA9 : BI Try.prog 86 [.int .u64 0, .int .u64 0, .int .u32 0, .int .u8 0, .int .u8 0, .int .u8 0, .int .u8 0, .nilFunc, .pointer none, .int .i32 0, .int .i32 0] [(0, 1), (1, 1), (2, 1), (3, 1), (4, 1), (5, 1), (6, 1), (7, 1), (8, 1), (9, 1), (10, 1)] := ⟨by kernel_rfl, fun w => by kernel_rfl⟩
theorem biA10 : True := trivial
theorem biA11 : True := trivial
theorem biA12 : True := trivial
theorem biA13 : True := trivial
theorem biA14 : True := trivial
theorem biA15 : True := trivial
theorem biA16 : True := trivial
theorem biA17 : True := trivial
theorem biA18 : True := trivial
theorem biA19 : True := trivial
theorem biA20 : True := trivial
theorem biA21 : True := trivial
theorem btA1 : True := trivial
theorem eqv24 {d : Nat} {x0 y0 x1 y1 : Int} : EqR Try.prog (d + 2) 24 (.agg #[.int .u64 x0, .int .u64 x1]) (.agg #[.int .u64 y0, .int .u64 y1]) ((x0 == y0) && ((x1 == y1) && (true))) :=
  eq_struct (d := d + 1) (xs := [.int .u64 x0, .int .u64 x1]) (ys := [.int .u64 y0, .int .u64 y1]) Try.underlying24 (by kernel_rfl) (FEq.one (by decide) (ti rfl) rfl rfl (eq_int (hi := ii rfl) (d := d + 0)) (FEq.one (by decide) (ti rfl) rfl rfl (eq_int (hi := ii rfl) (d := d + 0)) FEq.nil))
theorem eqA0 {x0 y0 x1 y1 : Int} : EqOK Try.prog 24 [.int .u64 x0, .int .u64 x1] [.int .u64 y0, .int .u64 y1] ((x0 == y0) && ((x1 == y1) && (true))) := ⟨by kernel_rfl, eqv24 (d := 9998)⟩
theorem eqv26 {d : Nat} {x0 y0 x1 y1 x2 y2 x3 y3 : Int} : EqR Try.prog (d + 3) 26 (.agg #[.int .u64 x0, .int .u64 x1, .int .u64 x2, .int .u64 x3]) (.agg #[.int .u64 y0, .int .u64 y1, .int .u64 y2, .int .u64 y3]) (((x0 == y0) && ((x1 == y1) && (true))) && (((x2 == y2) && ((x3 == y3) && (true))) && (true))) :=
  eq_struct (d := d + 2) (xs := [.int .u64 x0, .int .u64 x1, .int .u64 x2, .int .u64 x3]) (ys := [.int .u64 y0, .int .u64 y1, .int .u64 y2, .int .u64 y3]) Try.underlying26 (by kernel_rfl) (FEq.agg (by decide) (ti rfl) rfl rfl (eqv24 (d := d + 0)) (FEq.agg (by decide) (ti rfl) rfl rfl (eqv24 (d := d + 0)) FEq.nil))
theorem eqA1 {x0 y0 x1 y1 x2 y2 x3 y3 : Int} : EqOK Try.prog 26 [.int .u64 x0, .int .u64 x1, .int .u64 x2, .int .u64 x3] [.int .u64 y0, .int .u64 y1, .int .u64 y2, .int .u64 y3] (((x0 == y0) && ((x1 == y1) && (true))) && (((x2 == y2) && ((x3 == y3) && (true))) && (true))) := ⟨by kernel_rfl, eqv26 (d := 9997)⟩
theorem eqA2 : True := trivial
theorem eqA3 : True := trivial
theorem eqA4 : True := trivial
theorem eqA5 : True := trivial
theorem eqA6 : True := trivial
theorem eqA7 : True := trivial
theorem eqA8 : True := trivial
theorem eqA9 : True := trivial
theorem eqA10 : True := trivial
theorem eqA11 : True := trivial
theorem eqA12 : True := trivial
theorem eqA13 : True := trivial
theorem eqA14 : True := trivial
theorem eqA15 : True := trivial
end Go.Proofs.Ytlpdongckcaclaa.Own
