/- What is known of the types and the functions. -/
import Derived.Test.YtedfbamihjnhhaaEng6
import Derived.Test.YtedfbamihjnhhaaProg
namespace Go.Proofs.Ytedfbamihjnhhaa.Own
open Go Go.Proofs
set_option linter.unusedVariables false
set_option maxRecDepth 100000
def tiT : List (Nat × Bool × Nat) := [(2, false, 1), (3, false, 1), (4, false, 1), (5, false, 1), (6, false, 1), (7, true, 4), (8, true, 4), (9, false, 1), (10, false, 1), (11, false, 1), (12, false, 1), (13, true, 2), (14, true, 2), (15, false, 1), (16, false, 1), (17, false, 1), (18, true, 1), (19, true, 1), (21, false, 1), (22, false, 1), (23, true, 2), (24, true, 2), (25, false, 1), (26, false, 1), (27, false, 1), (28, false, 1), (29, true, 4), (30, true, 4), (31, false, 1), (32, true, 24), (33, true, 24), (36, false, 1), (41, true, 3), (42, true, 3), (44, true, 5), (45, true, 5), (49, false, 1), (52, true, 20), (53, true, 20), (58, false, 1), (59, false, 1), (61, true, 10), (62, true, 10), (64, false, 1), (65, true, 6), (66, true, 6), (67, true, 4), (68, true, 4), (76, false, 1), (78, true, 2), (79, true, 2), (82, true, 3), (83, true, 3), (85, true, 4), (86, true, 4), (110, true, 3), (111, true, 3), (129, false, 1), (130, false, 1), (131, true, 2), (132, true, 2), (133, true, 5), (134, true, 5), (151, true, 2), (152, true, 2), (155, false, 1), (157, false, 1), (159, false, 1), (160, false, 1), (162, false, 1), (165, false, 1), (166, false, 1), (169, false, 1), (170, false, 1), (175, false, 1), (176, false, 1), (178, false, 1), (179, true, 4), (185, false, 1), (187, false, 1), (189, false, 1), (190, false, 1), (192, false, 1), (197, true, 8), (203, true, 7), (204, true, 7), (209, false, 1), (213, true, 4), (214, true, 4), (215, true, 0), (216, true, 0), (217, true, 0), (219, false, 1), (220, false, 1), (221, false, 1), (223, false, 1), (224, false, 1), (225, true, 11), (226, true, 11)]
theorem tiOK : (tiT.all fun x => decide (tinfo Try.prog x.1 = some x.2)) = true := by kernel_rfl
theorem ti {t n : Nat} {b : Bool} (h : lookN tiT t = some (b, n)) : tinfo Try.prog t = some (b, n) := of_decide_eq_true (List.all_eq_true.1 tiOK _ (lookN_mem h))
def fiT : List (Nat × Nat × Nat × Bool × Nat) := [(7, 0, 0, false, 1), (7, 1, 1, false, 1), (7, 2, 2, false, 1), (7, 3, 3, false, 1), (8, 0, 0, false, 1), (8, 1, 1, false, 1), (8, 2, 2, false, 1), (8, 3, 3, false, 1), (13, 0, 0, false, 1), (13, 1, 1, false, 1), (14, 0, 0, false, 1), (14, 1, 1, false, 1), (18, 0, 0, false, 1), (19, 0, 0, false, 1), (23, 0, 0, false, 1), (23, 1, 1, false, 1), (24, 0, 0, false, 1), (24, 1, 1, false, 1), (29, 0, 0, true, 2), (29, 1, 2, true, 2), (30, 0, 0, true, 2), (30, 1, 2, true, 2), (32, 0, 0, false, 1), (32, 1, 1, true, 2), (32, 2, 3, true, 2), (32, 3, 5, true, 2), (32, 4, 7, true, 2), (32, 5, 9, true, 2), (32, 6, 11, false, 1), (32, 7, 12, false, 1), (32, 8, 13, false, 1), (32, 9, 14, false, 1), (32, 10, 15, false, 1), (32, 11, 16, false, 1), (32, 12, 17, true, 2), (32, 13, 19, true, 4), (32, 14, 23, false, 1), (33, 0, 0, false, 1), (33, 1, 1, true, 2), (33, 2, 3, true, 2), (33, 3, 5, true, 2), (33, 4, 7, true, 2), (33, 5, 9, true, 2), (33, 6, 11, false, 1), (33, 7, 12, false, 1), (33, 8, 13, false, 1), (33, 9, 14, false, 1), (33, 10, 15, false, 1), (33, 11, 16, false, 1), (33, 12, 17, true, 2), (33, 13, 19, true, 4), (33, 14, 23, false, 1), (41, 0, 0, true, 2), (41, 1, 2, false, 1), (42, 0, 0, true, 2), (42, 1, 2, false, 1), (44, 0, 0, true, 4), (44, 1, 4, false, 1), (45, 0, 0, true, 4), (45, 1, 4, false, 1), (52, 0, 0, true, 2), (52, 1, 2, true, 2), (52, 2, 4, true, 4), (52, 3, 8, true, 4), (52, 4, 12, true, 2), (52, 5, 14, true, 2), (52, 6, 16, true, 2), (52, 7, 18, false, 1), (52, 8, 19, false, 1), (53, 0, 0, true, 2), (53, 1, 2, true, 2), (53, 2, 4, true, 4), (53, 3, 8, true, 4), (53, 4, 12, true, 2), (53, 5, 14, true, 2), (53, 6, 16, true, 2), (53, 7, 18, false, 1), (53, 8, 19, false, 1), (61, 0, 0, false, 1), (61, 1, 1, true, 2), (61, 2, 3, true, 2), (61, 3, 5, false, 1), (61, 4, 6, false, 1), (61, 5, 7, false, 1), (61, 6, 8, true, 2), (62, 0, 0, false, 1), (62, 1, 1, true, 2), (62, 2, 3, true, 2), (62, 3, 5, false, 1), (62, 4, 6, false, 1), (62, 5, 7, false, 1), (62, 6, 8, true, 2), (65, 0, 0, false, 1), (65, 1, 1, false, 1), (65, 2, 2, true, 2), (65, 3, 4, true, 2), (66, 0, 0, false, 1), (66, 1, 1, false, 1), (66, 2, 2, true, 2), (66, 3, 4, true, 2), (67, 0, 0, false, 1), (67, 1, 1, false, 1), (67, 2, 2, false, 1), (67, 3, 3, false, 1), (68, 0, 0, false, 1), (68, 1, 1, false, 1), (68, 2, 2, false, 1), (68, 3, 3, false, 1), (78, 0, 0, false, 1), (78, 1, 1, false, 1), (79, 0, 0, false, 1), (79, 1, 1, false, 1), (82, 0, 0, true, 2), (82, 1, 2, false, 1), (83, 0, 0, true, 2), (83, 1, 2, false, 1), (85, 0, 0, true, 2), (85, 1, 2, true, 2), (86, 0, 0, true, 2), (86, 1, 2, true, 2), (110, 0, 0, true, 2), (110, 1, 2, false, 1), (111, 0, 0, true, 2), (111, 1, 2, false, 1), (131, 0, 0, false, 1), (131, 1, 1, false, 1), (132, 0, 0, false, 1), (132, 1, 1, false, 1), (133, 0, 0, true, 2), (133, 1, 2, false, 1), (133, 2, 3, false, 1), (133, 3, 4, false, 1), (134, 0, 0, true, 2), (134, 1, 2, false, 1), (134, 2, 3, false, 1), (134, 3, 4, false, 1), (151, 0, 0, false, 1), (151, 1, 1, false, 1), (152, 0, 0, false, 1), (152, 1, 1, false, 1), (203, 0, 0, true, 4), (203, 1, 4, true, 2), (203, 2, 6, false, 1), (204, 0, 0, true, 4), (204, 1, 4, true, 2), (204, 2, 6, false, 1), (213, 0, 0, false, 1), (213, 1, 1, false, 1), (213, 2, 2, false, 1), (213, 3, 3, false, 1), (214, 0, 0, false, 1), (214, 1, 1, false, 1), (214, 2, 2, false, 1), (214, 3, 3, false, 1), (216, 0, 0, true, 0), (217, 0, 0, true, 0), (225, 0, 0, false, 1), (225, 1, 1, false, 1), (225, 2, 2, false, 1), (225, 3, 3, false, 1), (225, 4, 4, false, 1), (225, 5, 5, false, 1), (225, 6, 6, false, 1), (225, 7, 7, false, 1), (225, 8, 8, false, 1), (225, 9, 9, false, 1), (225, 10, 10, false, 1), (226, 0, 0, false, 1), (226, 1, 1, false, 1), (226, 2, 2, false, 1), (226, 3, 3, false, 1), (226, 4, 4, false, 1), (226, 5, 5, false, 1), (226, 6, 6, false, 1), (226, 7, 7, false, 1), (226, 8, 8, false, 1), (226, 9, 9, false, 1), (226, 10, 10, false, 1)]
theorem fiOK : (fiT.all fun x => decide (finfo Try.prog x.1 x.2.1 = some x.2.2)) = true := by kernel_rfl
theorem fi {t i off n : Nat} {b : Bool} (h : lookN2 fiT t i = some (off, b, n)) : finfo Try.prog t i = some (off, b, n) := of_decide_eq_true (List.all_eq_true.1 fiOK _ (lookN2_mem h))
def siT : List (Nat × Nat) := [(25, 53), (26, 66), (27, 62), (28, 3), (31, 68), (49, 5), (58, 33), (187, 155), (190, 157), (192, 162), (209, 22)]
theorem siOK : (siT.all fun x => isSlice Try.prog x.1 x.2) = true := by kernel_rfl
theorem si {t e : Nat} (h : lookN siT t = some e) : Try.prog.underlying t = some (.slice e) := isSlice_eq (List.all_eq_true.1 siOK _ (lookN_mem h))
def aiT : List (Nat × Nat × Nat) := [(179, 4, 22), (197, 8, 5), (215, 0, 16)]
theorem aiOK : (aiT.all fun x => isArray Try.prog x.1 x.2.1 x.2.2) = true := by kernel_rfl
theorem ai {t len e : Nat} (h : lookN aiT t = some (len, e)) : Try.prog.underlying t = some (.array len e) := isArray_eq (List.all_eq_true.1 aiOK _ (lookN_mem h))
def iiT : List (Nat × IntKind) := [(2, .i64), (3, .i64), (5, .u8), (6, .u8), (12, .u64), (21, .i32), (22, .u64), (36, .i64), (64, .u16), (76, .u64), (219, .u32), (220, .u8), (221, .u8), (223, .i32), (224, .i32)]
theorem iiOK : (iiT.all fun x => isInt Try.prog x.1 x.2) = true := by kernel_rfl
theorem ii {t : Nat} {k : IntKind} (h : lookN iiT t = some k) : Try.prog.underlying t = some (.int k) := isInt_eq (List.all_eq_true.1 iiOK _ (lookN_mem h))
def fnT : List Nat := [3, 4, 5, 6, 7, 8, 9, 10, 11, 12, 13, 14, 15, 16, 17, 18, 19, 20, 21, 22, 23, 24, 25, 26, 27, 28, 29, 30, 31, 32, 33, 34, 35, 36, 37, 38, 39, 40, 41, 42, 43, 44, 45, 46, 47, 48, 49, 50, 51, 52, 53, 54, 55, 56, 57, 58, 59, 60, 61, 62, 63, 64, 65, 66, 67, 68, 69, 70, 71, 72, 73, 74, 75, 76, 77, 78, 79, 80, 81, 82, 83, 84, 85, 86, 87, 88, 89, 90, 91, 92, 93, 94, 95, 97, 99, 100, 101, 102, 103, 104, 105, 106, 107, 108, 109, 110, 111, 112, 113, 114, 115, 116, 117, 118, 119, 120, 121, 122, 123, 124, 126, 127, 128, 129, 130, 131, 133, 134, 135, 136, 137, 138, 139, 140, 141, 142, 143, 144, 145, 146, 147, 148, 149, 150, 151, 152, 153]
theorem fnOK : (fnT.all fun f => isFn Try.prog f) = true := by kernel_rfl
theorem fn {f : Nat} (h : hasN fnT f = true) : isFn Try.prog f = true := List.all_eq_true.1 fnOK _ (hasN_mem h)
theorem btA0 : Try.prog.underlying 4 = some .bool := by kernel_rfl
theorem zi2 : zinfo Try.prog 2 = some (.int .i64 0) := by kernel_rfl
theorem zi3 : zinfo Try.prog 3 = some (.int .i64 0) := by kernel_rfl
theorem zi4 : zinfo Try.prog 4 = some (.bool false) := by kernel_rfl
theorem zi5 : zinfo Try.prog 5 = some (.int .u8 0) := by kernel_rfl
theorem zi6 : zinfo Try.prog 6 = some (.int .u8 0) := by kernel_rfl
theorem zi7 : zinfo Try.prog 7 = some (.agg #[.int .i64 0, .int .i64 0, .bool false, .int .u8 0]) := by kernel_rfl
theorem zi8 : zinfo Try.prog 8 = some (.agg #[.int .i64 0, .int .i64 0, .bool false, .int .u8 0]) := by kernel_rfl
theorem zi9 : zinfo Try.prog 9 = some (.string ⟨#[]⟩) := by kernel_rfl
theorem zi10 : zinfo Try.prog 10 = some (.string ⟨#[]⟩) := by kernel_rfl
theorem zi11 : zinfo Try.prog 11 = some (.string ⟨#[]⟩) := by kernel_rfl
theorem zi12 : zinfo Try.prog 12 = some (.int .u64 0) := by kernel_rfl
theorem zi13 : zinfo Try.prog 13 = some (.agg #[.string ⟨#[]⟩, .int .u64 0]) := by kernel_rfl
theorem zi14 : zinfo Try.prog 14 = some (.agg #[.string ⟨#[]⟩, .int .u64 0]) := by kernel_rfl
theorem zi15 : zinfo Try.prog 15 = some (.pointer none) := by kernel_rfl
theorem zi16 : zinfo Try.prog 16 = some (.pointer none) := by kernel_rfl
theorem zi17 : zinfo Try.prog 17 = some (.pointer none) := by kernel_rfl
theorem zi18 : zinfo Try.prog 18 = some (.agg #[.pointer none]) := by kernel_rfl
theorem zi19 : zinfo Try.prog 19 = some (.agg #[.pointer none]) := by kernel_rfl
theorem zi21 : zinfo Try.prog 21 = some (.int .i32 0) := by kernel_rfl
theorem zi22 : zinfo Try.prog 22 = some (.int .u64 0) := by kernel_rfl
theorem zi23 : zinfo Try.prog 23 = some (.agg #[.int .i64 0, .int .u64 0]) := by kernel_rfl
theorem zi24 : zinfo Try.prog 24 = some (.agg #[.int .i64 0, .int .u64 0]) := by kernel_rfl
theorem zi25 : zinfo Try.prog 25 = some (.slice none 0 0) := by kernel_rfl
theorem zi26 : zinfo Try.prog 26 = some (.slice none 0 0) := by kernel_rfl
theorem zi27 : zinfo Try.prog 27 = some (.slice none 0 0) := by kernel_rfl
theorem zi28 : zinfo Try.prog 28 = some (.slice none 0 0) := by kernel_rfl
theorem zi29 : zinfo Try.prog 29 = some (.agg #[.int .i64 0, .int .u64 0, .int .i64 0, .int .u64 0]) := by kernel_rfl
theorem zi30 : zinfo Try.prog 30 = some (.agg #[.int .i64 0, .int .u64 0, .int .i64 0, .int .u64 0]) := by kernel_rfl
theorem zi31 : zinfo Try.prog 31 = some (.slice none 0 0) := by kernel_rfl
theorem zi32 : zinfo Try.prog 32 = some (.agg #[.int .i64 0, .int .i64 0, .int .u64 0, .int .i64 0, .int .u64 0, .int .i64 0, .int .u64 0, .int .i64 0, .int .u64 0, .int .i64 0, .int .u64 0, .int .i64 0, .int .i64 0, .slice none 0 0, .slice none 0 0, .slice none 0 0, .slice none 0 0, .int .i64 0, .int .u64 0, .int .i64 0, .int .u64 0, .int .i64 0, .int .u64 0, .slice none 0 0]) := by kernel_rfl
theorem zi33 : zinfo Try.prog 33 = some (.agg #[.int .i64 0, .int .i64 0, .int .u64 0, .int .i64 0, .int .u64 0, .int .i64 0, .int .u64 0, .int .i64 0, .int .u64 0, .int .i64 0, .int .u64 0, .int .i64 0, .int .i64 0, .slice none 0 0, .slice none 0 0, .slice none 0 0, .slice none 0 0, .int .i64 0, .int .u64 0, .int .i64 0, .int .u64 0, .int .i64 0, .int .u64 0, .slice none 0 0]) := by kernel_rfl
theorem zi36 : zinfo Try.prog 36 = some (.int .i64 0) := by kernel_rfl
theorem zi41 : zinfo Try.prog 41 = some (.agg #[.int .i64 0, .int .u64 0, .int .i64 0]) := by kernel_rfl
theorem zi42 : zinfo Try.prog 42 = some (.agg #[.int .i64 0, .int .u64 0, .int .i64 0]) := by kernel_rfl
theorem zi44 : zinfo Try.prog 44 = some (.agg #[.int .i64 0, .int .u64 0, .int .i64 0, .int .u64 0, .int .i64 0]) := by kernel_rfl
theorem zi45 : zinfo Try.prog 45 = some (.agg #[.int .i64 0, .int .u64 0, .int .i64 0, .int .u64 0, .int .i64 0]) := by kernel_rfl
theorem zi49 : zinfo Try.prog 49 = some (.slice none 0 0) := by kernel_rfl
theorem zi52 : zinfo Try.prog 52 = some (.agg #[.int .i64 0, .int .u64 0, .int .i64 0, .int .u64 0, .int .i64 0, .int .u64 0, .int .i64 0, .int .u64 0, .int .i64 0, .int .u64 0, .int .i64 0, .int .u64 0, .int .i64 0, .int .u64 0, .int .i64 0, .int .u64 0, .int .i64 0, .int .u64 0, .int .i64 0, .int .i64 0]) := by kernel_rfl
theorem zi53 : zinfo Try.prog 53 = some (.agg #[.int .i64 0, .int .u64 0, .int .i64 0, .int .u64 0, .int .i64 0, .int .u64 0, .int .i64 0, .int .u64 0, .int .i64 0, .int .u64 0, .int .i64 0, .int .u64 0, .int .i64 0, .int .u64 0, .int .i64 0, .int .u64 0, .int .i64 0, .int .u64 0, .int .i64 0, .int .i64 0]) := by kernel_rfl
theorem zi58 : zinfo Try.prog 58 = some (.slice none 0 0) := by kernel_rfl
theorem zi59 : zinfo Try.prog 59 = some (.pointer none) := by kernel_rfl
theorem zi61 : zinfo Try.prog 61 = some (.agg #[.int .i64 0, .int .i64 0, .int .u64 0, .int .i64 0, .int .u64 0, .int .i64 0, .int .i64 0, .int .i64 0, .int .i64 0, .int .u64 0]) := by kernel_rfl
theorem zi62 : zinfo Try.prog 62 = some (.agg #[.int .i64 0, .int .i64 0, .int .u64 0, .int .i64 0, .int .u64 0, .int .i64 0, .int .i64 0, .int .i64 0, .int .i64 0, .int .u64 0]) := by kernel_rfl
theorem zi64 : zinfo Try.prog 64 = some (.int .u16 0) := by kernel_rfl
theorem zi65 : zinfo Try.prog 65 = some (.agg #[.int .i64 0, .int .i64 0, .int .i64 0, .int .u64 0, .int .i64 0, .int .u64 0]) := by kernel_rfl
theorem zi66 : zinfo Try.prog 66 = some (.agg #[.int .i64 0, .int .i64 0, .int .i64 0, .int .u64 0, .int .i64 0, .int .u64 0]) := by kernel_rfl
theorem zi67 : zinfo Try.prog 67 = some (.agg #[.int .i64 0, .int .i64 0, .int .i64 0, .int .i64 0]) := by kernel_rfl
theorem zi68 : zinfo Try.prog 68 = some (.agg #[.int .i64 0, .int .i64 0, .int .i64 0, .int .i64 0]) := by kernel_rfl
theorem zi76 : zinfo Try.prog 76 = some (.int .u64 0) := by kernel_rfl
theorem zi78 : zinfo Try.prog 78 = some (.agg #[.int .u64 0, .int .u64 0]) := by kernel_rfl
theorem zi79 : zinfo Try.prog 79 = some (.agg #[.int .u64 0, .int .u64 0]) := by kernel_rfl
theorem zi82 : zinfo Try.prog 82 = some (.agg #[.int .u64 0, .int .u64 0, .bool false]) := by kernel_rfl
theorem zi83 : zinfo Try.prog 83 = some (.agg #[.int .u64 0, .int .u64 0, .bool false]) := by kernel_rfl
theorem zi85 : zinfo Try.prog 85 = some (.agg #[.int .u64 0, .int .u64 0, .int .u64 0, .int .u64 0]) := by kernel_rfl
theorem zi86 : zinfo Try.prog 86 = some (.agg #[.int .u64 0, .int .u64 0, .int .u64 0, .int .u64 0]) := by kernel_rfl
theorem zi110 : zinfo Try.prog 110 = some (.agg #[.int .u64 0, .int .u64 0, .bool false]) := by kernel_rfl
theorem zi111 : zinfo Try.prog 111 = some (.agg #[.int .u64 0, .int .u64 0, .bool false]) := by kernel_rfl
theorem zi129 : zinfo Try.prog 129 = some (.pointer none) := by kernel_rfl
theorem zi130 : zinfo Try.prog 130 = some (.pointer none) := by kernel_rfl
theorem zi131 : zinfo Try.prog 131 = some (.agg #[.pointer none, .slice none 0 0]) := by kernel_rfl
theorem zi132 : zinfo Try.prog 132 = some (.agg #[.pointer none, .slice none 0 0]) := by kernel_rfl
theorem zi133 : zinfo Try.prog 133 = some (.agg #[.pointer none, .slice none 0 0, .string ⟨#[]⟩, .bool false, .bool false]) := by kernel_rfl
theorem zi134 : zinfo Try.prog 134 = some (.agg #[.pointer none, .slice none 0 0, .string ⟨#[]⟩, .bool false, .bool false]) := by kernel_rfl
theorem zi151 : zinfo Try.prog 151 = some (.agg #[.bool false, .int .i64 0]) := by kernel_rfl
theorem zi152 : zinfo Try.prog 152 = some (.agg #[.bool false, .int .i64 0]) := by kernel_rfl
theorem zi155 : zinfo Try.prog 155 = some (.pointer none) := by kernel_rfl
theorem zi157 : zinfo Try.prog 157 = some (.pointer none) := by kernel_rfl
theorem zi159 : zinfo Try.prog 159 = some (.pointer none) := by kernel_rfl
theorem zi160 : zinfo Try.prog 160 = some (.pointer none) := by kernel_rfl
theorem zi162 : zinfo Try.prog 162 = some (.pointer none) := by kernel_rfl
theorem zi165 : zinfo Try.prog 165 = some (.pointer none) := by kernel_rfl
theorem zi166 : zinfo Try.prog 166 = some (.pointer none) := by kernel_rfl
theorem zi169 : zinfo Try.prog 169 = some (.pointer none) := by kernel_rfl
theorem zi170 : zinfo Try.prog 170 = some (.pointer none) := by kernel_rfl
theorem zi175 : zinfo Try.prog 175 = some (.pointer none) := by kernel_rfl
theorem zi176 : zinfo Try.prog 176 = some (.pointer none) := by kernel_rfl
theorem zi178 : zinfo Try.prog 178 = some (.pointer none) := by kernel_rfl
theorem zi179 : zinfo Try.prog 179 = some (.agg #[.int .u64 0, .int .u64 0, .int .u64 0, .int .u64 0]) := by kernel_rfl
theorem zi187 : zinfo Try.prog 187 = some (.slice none 0 0) := by kernel_rfl
theorem zi189 : zinfo Try.prog 189 = some (.pointer none) := by kernel_rfl
theorem zi190 : zinfo Try.prog 190 = some (.slice none 0 0) := by kernel_rfl
theorem zi192 : zinfo Try.prog 192 = some (.slice none 0 0) := by kernel_rfl
theorem zi197 : zinfo Try.prog 197 = some (.agg #[.int .u8 0, .int .u8 0, .int .u8 0, .int .u8 0, .int .u8 0, .int .u8 0, .int .u8 0, .int .u8 0]) := by kernel_rfl
theorem zi203 : zinfo Try.prog 203 = some (.agg #[.int .u64 0, .int .u64 0, .int .u64 0, .int .u64 0, .int .u64 0, .int .u64 0, .bool false]) := by kernel_rfl
theorem zi204 : zinfo Try.prog 204 = some (.agg #[.int .u64 0, .int .u64 0, .int .u64 0, .int .u64 0, .int .u64 0, .int .u64 0, .bool false]) := by kernel_rfl
theorem zi209 : zinfo Try.prog 209 = some (.slice none 0 0) := by kernel_rfl
theorem zi213 : zinfo Try.prog 213 = some (.agg #[.pointer none, .pointer none, .pointer none, .string ⟨#[]⟩]) := by kernel_rfl
theorem zi214 : zinfo Try.prog 214 = some (.agg #[.pointer none, .pointer none, .pointer none, .string ⟨#[]⟩]) := by kernel_rfl
theorem zi215 : zinfo Try.prog 215 = some (.agg #[]) := by kernel_rfl
theorem zi216 : zinfo Try.prog 216 = some (.agg #[]) := by kernel_rfl
theorem zi217 : zinfo Try.prog 217 = some (.agg #[]) := by kernel_rfl
theorem zi219 : zinfo Try.prog 219 = some (.int .u32 0) := by kernel_rfl
theorem zi220 : zinfo Try.prog 220 = some (.int .u8 0) := by kernel_rfl
theorem zi221 : zinfo Try.prog 221 = some (.int .u8 0) := by kernel_rfl
theorem zi223 : zinfo Try.prog 223 = some (.int .i32 0) := by kernel_rfl
theorem zi224 : zinfo Try.prog 224 = some (.int .i32 0) := by kernel_rfl
theorem zi225 : zinfo Try.prog 225 = some (.agg #[.int .u64 0, .int .u64 0, .int .u32 0, .int .u8 0, .int .u8 0, .int .u8 0, .int .u8 0, .nilFunc, .pointer none, .int .i32 0, .int .i32 0]) := by kernel_rfl
theorem zi226 : zinfo Try.prog 226 = some (.agg #[.int .u64 0, .int .u64 0, .int .u32 0, .int .u8 0, .int .u8 0, .int .u8 0, .int .u8 0, .nilFunc, .pointer none, .int .i32 0, .int .i32 0]) := by kernel_rfl
def ziT (t : Nat) : Option Value := bif Nat.beq t 2 then some (.int .i64 0) else (bif Nat.beq t 3 then some (.int .i64 0) else (bif Nat.beq t 4 then some (.bool false) else (bif Nat.beq t 5 then some (.int .u8 0) else (bif Nat.beq t 6 then some (.int .u8 0) else (bif Nat.beq t 7 then some (.agg #[.int .i64 0, .int .i64 0, .bool false, .int .u8 0]) else (bif Nat.beq t 8 then some (.agg #[.int .i64 0, .int .i64 0, .bool false, .int .u8 0]) else (bif Nat.beq t 9 then some (.string ⟨#[]⟩) else (bif Nat.beq t 10 then some (.string ⟨#[]⟩) else (bif Nat.beq t 11 then some (.string ⟨#[]⟩) else (bif Nat.beq t 12 then some (.int .u64 0) else (bif Nat.beq t 13 then some (.agg #[.string ⟨#[]⟩, .int .u64 0]) else (bif Nat.beq t 14 then some (.agg #[.string ⟨#[]⟩, .int .u64 0]) else (bif Nat.beq t 15 then some (.pointer none) else (bif Nat.beq t 16 then some (.pointer none) else (bif Nat.beq t 17 then some (.pointer none) else (bif Nat.beq t 18 then some (.agg #[.pointer none]) else (bif Nat.beq t 19 then some (.agg #[.pointer none]) else (bif Nat.beq t 21 then some (.int .i32 0) else (bif Nat.beq t 22 then some (.int .u64 0) else (bif Nat.beq t 23 then some (.agg #[.int .i64 0, .int .u64 0]) else (bif Nat.beq t 24 then some (.agg #[.int .i64 0, .int .u64 0]) else (bif Nat.beq t 25 then some (.slice none 0 0) else (bif Nat.beq t 26 then some (.slice none 0 0) else (bif Nat.beq t 27 then some (.slice none 0 0) else (bif Nat.beq t 28 then some (.slice none 0 0) else (bif Nat.beq t 29 then some (.agg #[.int .i64 0, .int .u64 0, .int .i64 0, .int .u64 0]) else (bif Nat.beq t 30 then some (.agg #[.int .i64 0, .int .u64 0, .int .i64 0, .int .u64 0]) else (bif Nat.beq t 31 then some (.slice none 0 0) else (bif Nat.beq t 32 then some (.agg #[.int .i64 0, .int .i64 0, .int .u64 0, .int .i64 0, .int .u64 0, .int .i64 0, .int .u64 0, .int .i64 0, .int .u64 0, .int .i64 0, .int .u64 0, .int .i64 0, .int .i64 0, .slice none 0 0, .slice none 0 0, .slice none 0 0, .slice none 0 0, .int .i64 0, .int .u64 0, .int .i64 0, .int .u64 0, .int .i64 0, .int .u64 0, .slice none 0 0]) else (bif Nat.beq t 33 then some (.agg #[.int .i64 0, .int .i64 0, .int .u64 0, .int .i64 0, .int .u64 0, .int .i64 0, .int .u64 0, .int .i64 0, .int .u64 0, .int .i64 0, .int .u64 0, .int .i64 0, .int .i64 0, .slice none 0 0, .slice none 0 0, .slice none 0 0, .slice none 0 0, .int .i64 0, .int .u64 0, .int .i64 0, .int .u64 0, .int .i64 0, .int .u64 0, .slice none 0 0]) else (bif Nat.beq t 36 then some (.int .i64 0) else (bif Nat.beq t 41 then some (.agg #[.int .i64 0, .int .u64 0, .int .i64 0]) else (bif Nat.beq t 42 then some (.agg #[.int .i64 0, .int .u64 0, .int .i64 0]) else (bif Nat.beq t 44 then some (.agg #[.int .i64 0, .int .u64 0, .int .i64 0, .int .u64 0, .int .i64 0]) else (bif Nat.beq t 45 then some (.agg #[.int .i64 0, .int .u64 0, .int .i64 0, .int .u64 0, .int .i64 0]) else (bif Nat.beq t 49 then some (.slice none 0 0) else (bif Nat.beq t 52 then some (.agg #[.int .i64 0, .int .u64 0, .int .i64 0, .int .u64 0, .int .i64 0, .int .u64 0, .int .i64 0, .int .u64 0, .int .i64 0, .int .u64 0, .int .i64 0, .int .u64 0, .int .i64 0, .int .u64 0, .int .i64 0, .int .u64 0, .int .i64 0, .int .u64 0, .int .i64 0, .int .i64 0]) else (bif Nat.beq t 53 then some (.agg #[.int .i64 0, .int .u64 0, .int .i64 0, .int .u64 0, .int .i64 0, .int .u64 0, .int .i64 0, .int .u64 0, .int .i64 0, .int .u64 0, .int .i64 0, .int .u64 0, .int .i64 0, .int .u64 0, .int .i64 0, .int .u64 0, .int .i64 0, .int .u64 0, .int .i64 0, .int .i64 0]) else (bif Nat.beq t 58 then some (.slice none 0 0) else (bif Nat.beq t 59 then some (.pointer none) else (bif Nat.beq t 61 then some (.agg #[.int .i64 0, .int .i64 0, .int .u64 0, .int .i64 0, .int .u64 0, .int .i64 0, .int .i64 0, .int .i64 0, .int .i64 0, .int .u64 0]) else (bif Nat.beq t 62 then some (.agg #[.int .i64 0, .int .i64 0, .int .u64 0, .int .i64 0, .int .u64 0, .int .i64 0, .int .i64 0, .int .i64 0, .int .i64 0, .int .u64 0]) else (bif Nat.beq t 64 then some (.int .u16 0) else (bif Nat.beq t 65 then some (.agg #[.int .i64 0, .int .i64 0, .int .i64 0, .int .u64 0, .int .i64 0, .int .u64 0]) else (bif Nat.beq t 66 then some (.agg #[.int .i64 0, .int .i64 0, .int .i64 0, .int .u64 0, .int .i64 0, .int .u64 0]) else (bif Nat.beq t 67 then some (.agg #[.int .i64 0, .int .i64 0, .int .i64 0, .int .i64 0]) else (bif Nat.beq t 68 then some (.agg #[.int .i64 0, .int .i64 0, .int .i64 0, .int .i64 0]) else (bif Nat.beq t 76 then some (.int .u64 0) else (bif Nat.beq t 78 then some (.agg #[.int .u64 0, .int .u64 0]) else (bif Nat.beq t 79 then some (.agg #[.int .u64 0, .int .u64 0]) else (bif Nat.beq t 82 then some (.agg #[.int .u64 0, .int .u64 0, .bool false]) else (bif Nat.beq t 83 then some (.agg #[.int .u64 0, .int .u64 0, .bool false]) else (bif Nat.beq t 85 then some (.agg #[.int .u64 0, .int .u64 0, .int .u64 0, .int .u64 0]) else (bif Nat.beq t 86 then some (.agg #[.int .u64 0, .int .u64 0, .int .u64 0, .int .u64 0]) else (bif Nat.beq t 110 then some (.agg #[.int .u64 0, .int .u64 0, .bool false]) else (bif Nat.beq t 111 then some (.agg #[.int .u64 0, .int .u64 0, .bool false]) else (bif Nat.beq t 129 then some (.pointer none) else (bif Nat.beq t 130 then some (.pointer none) else (bif Nat.beq t 131 then some (.agg #[.pointer none, .slice none 0 0]) else (bif Nat.beq t 132 then some (.agg #[.pointer none, .slice none 0 0]) else (bif Nat.beq t 133 then some (.agg #[.pointer none, .slice none 0 0, .string ⟨#[]⟩, .bool false, .bool false]) else (bif Nat.beq t 134 then some (.agg #[.pointer none, .slice none 0 0, .string ⟨#[]⟩, .bool false, .bool false]) else (bif Nat.beq t 151 then some (.agg #[.bool false, .int .i64 0]) else (bif Nat.beq t 152 then some (.agg #[.bool false, .int .i64 0]) else (bif Nat.beq t 155 then some (.pointer none) else (bif Nat.beq t 157 then some (.pointer none) else (bif Nat.beq t 159 then some (.pointer none) else (bif Nat.beq t 160 then some (.pointer none) else (bif Nat.beq t 162 then some (.pointer none) else (bif Nat.beq t 165 then some (.pointer none) else (bif Nat.beq t 166 then some (.pointer none) else (bif Nat.beq t 169 then some (.pointer none) else (bif Nat.beq t 170 then some (.pointer none) else (bif Nat.beq t 175 then some (.pointer none) else (bif Nat.beq t 176 then some (.pointer none) else (bif Nat.beq t 178 then some (.pointer none) else (bif Nat.beq t 179 then some (.agg #[.int .u64 0, .int .u64 0, .int .u64 0, .int .u64 0]) else (bif Nat.beq t 187 then some (.slice none 0 0) else (bif Nat.beq t 189 then some (.pointer none) else (bif Nat.beq t 190 then some (.slice none 0 0) else (bif Nat.beq t 192 then some (.slice none 0 0) else (bif Nat.beq t 197 then some (.agg #[.int .u8 0, .int .u8 0, .int .u8 0, .int .u8 0, .int .u8 0, .int .u8 0, .int .u8 0, .int .u8 0]) else (bif Nat.beq t 203 then some (.agg #[.int .u64 0, .int .u64 0, .int .u64 0, .int .u64 0, .int .u64 0, .int .u64 0, .bool false]) else (bif Nat.beq t 204 then some (.agg #[.int .u64 0, .int .u64 0, .int .u64 0, .int .u64 0, .int .u64 0, .int .u64 0, .bool false]) else (bif Nat.beq t 209 then some (.slice none 0 0) else (bif Nat.beq t 213 then some (.agg #[.pointer none, .pointer none, .pointer none, .string ⟨#[]⟩]) else (bif Nat.beq t 214 then some (.agg #[.pointer none, .pointer none, .pointer none, .string ⟨#[]⟩]) else (bif Nat.beq t 215 then some (.agg #[]) else (bif Nat.beq t 216 then some (.agg #[]) else (bif Nat.beq t 217 then some (.agg #[]) else (bif Nat.beq t 219 then some (.int .u32 0) else (bif Nat.beq t 220 then some (.int .u8 0) else (bif Nat.beq t 221 then some (.int .u8 0) else (bif Nat.beq t 223 then some (.int .i32 0) else (bif Nat.beq t 224 then some (.int .i32 0) else (bif Nat.beq t 225 then some (.agg #[.int .u64 0, .int .u64 0, .int .u32 0, .int .u8 0, .int .u8 0, .int .u8 0, .int .u8 0, .nilFunc, .pointer none, .int .i32 0, .int .i32 0]) else (bif Nat.beq t 226 then some (.agg #[.int .u64 0, .int .u64 0, .int .u32 0, .int .u8 0, .int .u8 0, .int .u8 0, .int .u8 0, .nilFunc, .pointer none, .int .i32 0, .int .i32 0]) else (none))))))))))))))))))))))))))))))))))))))))))))))))))))))))))))))))))))))))))))))))))))))))))))))))))
theorem ziOf {t : Nat} {z : Value} (h : ziT t = some z) : zinfo Try.prog t = some z := by
 unfold ziT at h
 by_cases e2 : t = 2
 ·subst e2; rw [show Nat.beq 2 2 = true from rfl, cond_true] at h; rw [← h]; exact zi2
 have f2 : Nat.beq t 2 = false := by rw [Bool.eq_false_iff]; exact fun q => e2 (Nat.eq_of_beq_eq_true q)
 rw [f2, cond_false] at h
 by_cases e3 : t = 3
 ·subst e3; rw [show Nat.beq 3 3 = true from rfl, cond_true] at h; rw [← h]; exact zi3
 have f3 : Nat.beq t 3 = false := by rw [Bool.eq_false_iff]; exact fun q => e3 (Nat.eq_of_beq_eq_true q)
 rw [f3, cond_false] at h
 by_cases e4 : t = 4
 ·subst e4; rw [show Nat.beq 4 4 = true from rfl, cond_true] at h; rw [← h]; exact zi4
 have f4 : Nat.beq t 4 = false := by rw [Bool.eq_false_iff]; exact fun q => e4 (Nat.eq_of_beq_eq_true q)
 rw [f4, cond_false] at h
 by_cases e5 : t = 5
 ·subst e5; rw [show Nat.beq 5 5 = true from rfl, cond_true] at h; rw [← h]; exact zi5
 have f5 : Nat.beq t 5 = false := by rw [Bool.eq_false_iff]; exact fun q => e5 (Nat.eq_of_beq_eq_true q)
 rw [f5, cond_false] at h
 by_cases e6 : t = 6
 ·subst e6; rw [show Nat.beq 6 6 = true from rfl, cond_true] at h; rw [← h]; exact zi6
 have f6 : Nat.beq t 6 = false := by rw [Bool.eq_false_iff]; exact fun q => e6 (Nat.eq_of_beq_eq_true q)
 rw [f6, cond_false] at h
 by_cases e7 : t = 7
 ·subst e7; rw [show Nat.beq 7 7 = true from rfl, cond_true] at h; rw [← h]; exact zi7
 have f7 : Nat.beq t 7 = false := by rw [Bool.eq_false_iff]; exact fun q => e7 (Nat.eq_of_beq_eq_true q)
 rw [f7, cond_false] at h
 by_cases e8 : t = 8
 ·subst e8; rw [show Nat.beq 8 8 = true from rfl, cond_true] at h; rw [← h]; exact zi8
 have f8 : Nat.beq t 8 = false := by rw [Bool.eq_false_iff]; exact fun q => e8 (Nat.eq_of_beq_eq_true q)
 rw [f8, cond_false] at h
 by_cases e9 : t = 9
 ·subst e9; rw [show Nat.beq 9 9 = true from rfl, cond_true] at h; rw [← h]; exact zi9
 have f9 : Nat.beq t 9 = false := by rw [Bool.eq_false_iff]; exact fun q => e9 (Nat.eq_of_beq_eq_true q)
 rw [f9, cond_false] at h
 by_cases e10 : t = 10
 ·subst e10; rw [show Nat.beq 10 10 = true from rfl, cond_true] at h; rw [← h]; exact zi10
 have f10 : Nat.beq t 10 = false := by rw [Bool.eq_false_iff]; exact fun q => e10 (Nat.eq_of_beq_eq_true q)
 rw [f10, cond_false] at h
 by_cases e11 : t = 11
 ·subst e11; rw [show Nat.beq 11 11 = true from rfl, cond_true] at h; rw [← h]; exact zi11
 have f11 : Nat.beq t 11 = false := by rw [Bool.eq_false_iff]; exact fun q => e11 (Nat.eq_of_beq_eq_true q)
 rw [f11, cond_false] at h
 by_cases e12 : t = 12
 ·subst e12; rw [show Nat.beq 12 12 = true from rfl, cond_true] at h; rw [← h]; exact zi12
 have f12 : Nat.beq t 12 = false := by rw [Bool.eq_false_iff]; exact fun q => e12 (Nat.eq_of_beq_eq_true q)
 rw [f12, cond_false] at h
 by_cases e13 : t = 13
 ·subst e13; rw [show Nat.beq 13 13 = true from rfl, cond_true] at h; rw [← h]; exact zi13
 have f13 : Nat.beq t 13 = false := by rw [Bool.eq_false_iff]; exact fun q => e13 (Nat.eq_of_beq_eq_true q)
 rw [f13, cond_false] at h
 by_cases e14 : t = 14
 ·subst e14; rw [show Nat.beq 14 14 = true from rfl, cond_true] at h; rw [← h]; exact zi14
 have f14 : Nat.beq t 14 = false := by rw [Bool.eq_false_iff]; exact fun q => e14 (Nat.eq_of_beq_eq_true q)
 rw [f14, cond_false] at h
 by_cases e15 : t = 15
 ·subst e15; rw [show Nat.beq 15 15 = true from rfl, cond_true] at h; rw [← h]; exact zi15
 have f15 : Nat.beq t 15 = false := by rw [Bool.eq_false_iff]; exact fun q => e15 (Nat.eq_of_beq_eq_true q)
 rw [f15, cond_false] at h
 by_cases e16 : t = 16
 ·subst e16; rw [show Nat.beq 16 16 = true from rfl, cond_true] at h; rw [← h]; exact zi16
 have f16 : Nat.beq t 16 = false := by rw [Bool.eq_false_iff]; exact fun q => e16 (Nat.eq_of_beq_eq_true q)
 rw [f16, cond_false] at h
 by_cases e17 : t = 17
 ·subst e17; rw [show Nat.beq 17 17 = true from rfl, cond_true] at h; rw [← h]; exact zi17
 have f17 : Nat.beq t 17 = false := by rw [Bool.eq_false_iff]; exact fun q => e17 (Nat.eq_of_beq_eq_true q)
 rw [f17, cond_false] at h
 by_cases e18 : t = 18
 ·subst e18; rw [show Nat.beq 18 18 = true from rfl, cond_true] at h; rw [← h]; exact zi18
 have f18 : Nat.beq t 18 = false := by rw [Bool.eq_false_iff]; exact fun q => e18 (Nat.eq_of_beq_eq_true q)
 rw [f18, cond_false] at h
 by_cases e19 : t = 19
 ·subst e19; rw [show Nat.beq 19 19 = true from rfl, cond_true] at h; rw [← h]; exact zi19
 have f19 : Nat.beq t 19 = false := by rw [Bool.eq_false_iff]; exact fun q => e19 (Nat.eq_of_beq_eq_true q)
 rw [f19, cond_false] at h
 by_cases e21 : t = 21
 ·subst e21; rw [show Nat.beq 21 21 = true from rfl, cond_true] at h; rw [← h]; exact zi21
 have f21 : Nat.beq t 21 = false := by rw [Bool.eq_false_iff]; exact fun q => e21 (Nat.eq_of_beq_eq_true q)
 rw [f21, cond_false] at h
 by_cases e22 : t = 22
 ·subst e22; rw [show Nat.beq 22 22 = true from rfl, cond_true] at h; rw [← h]; exact zi22
 have f22 : Nat.beq t 22 = false := by rw [Bool.eq_false_iff]; exact fun q => e22 (Nat.eq_of_beq_eq_true q)
 rw [f22, cond_false] at h
 by_cases e23 : t = 23
 ·subst e23; rw [show Nat.beq 23 23 = true from rfl, cond_true] at h; rw [← h]; exact zi23
 have f23 : Nat.beq t 23 = false := by rw [Bool.eq_false_iff]; exact fun q => e23 (Nat.eq_of_beq_eq_true q)
 rw [f23, cond_false] at h
 by_cases e24 : t = 24
 ·subst e24; rw [show Nat.beq 24 24 = true from rfl, cond_true] at h; rw [← h]; exact zi24
 have f24 : Nat.beq t 24 = false := by rw [Bool.eq_false_iff]; exact fun q => e24 (Nat.eq_of_beq_eq_true q)
 rw [f24, cond_false] at h
 by_cases e25 : t = 25
 ·subst e25; rw [show Nat.beq 25 25 = true from rfl, cond_true] at h; rw [← h]; exact zi25
 have f25 : Nat.beq t 25 = false := by rw [Bool.eq_false_iff]; exact fun q => e25 (Nat.eq_of_beq_eq_true q)
 rw [f25, cond_false] at h
 by_cases e26 : t = 26
 ·subst e26; rw [show Nat.beq 26 26 = true from rfl, cond_true] at h; rw [← h]; exact zi26
 have f26 : Nat.beq t 26 = false := by rw [Bool.eq_false_iff]; exact fun q => e26 (Nat.eq_of_beq_eq_true q)
 rw [f26, cond_false] at h
 by_cases e27 : t = 27
 ·subst e27; rw [show Nat.beq 27 27 = true from rfl, cond_true] at h; rw [← h]; exact zi27
 have f27 : Nat.beq t 27 = false := by rw [Bool.eq_false_iff]; exact fun q => e27 (Nat.eq_of_beq_eq_true q)
 rw [f27, cond_false] at h
 by_cases e28 : t = 28
 ·subst e28; rw [show Nat.beq 28 28 = true from rfl, cond_true] at h; rw [← h]; exact zi28
 have f28 : Nat.beq t 28 = false := by rw [Bool.eq_false_iff]; exact fun q => e28 (Nat.eq_of_beq_eq_true q)
 rw [f28, cond_false] at h
 by_cases e29 : t = 29
 ·subst e29; rw [show Nat.beq 29 29 = true from rfl, cond_true] at h; rw [← h]; exact zi29
 have f29 : Nat.beq t 29 = false := by rw [Bool.eq_false_iff]; exact fun q => e29 (Nat.eq_of_beq_eq_true q)
 rw [f29, cond_false] at h
 by_cases e30 : t = 30
 ·subst e30; rw [show Nat.beq 30 30 = true from rfl, cond_true] at h; rw [← h]; exact zi30
 have f30 : Nat.beq t 30 = false := by rw [Bool.eq_false_iff]; exact fun q => e30 (Nat.eq_of_beq_eq_true q)
 rw [f30, cond_false] at h
 by_cases e31 : t = 31
 ·subst e31; rw [show Nat.beq 31 31 = true from rfl, cond_true] at h; rw [← h]; exact zi31
 have f31 : Nat.beq t 31 = false := by rw [Bool.eq_false_iff]; exact fun q => e31 (Nat.eq_of_beq_eq_true q)
 rw [f31, cond_false] at h
 by_cases e32 : t = 32
 ·subst e32; rw [show Nat.beq 32 32 = true from rfl, cond_true] at h; rw [← h]; exact zi32
 have f32 : Nat.beq t 32 = false := by rw [Bool.eq_false_iff]; exact fun q => e32 (Nat.eq_of_beq_eq_true q)
 rw [f32, cond_false] at h
 by_cases e33 : t = 33
 ·subst e33; rw [show Nat.beq 33 33 = true from rfl, cond_true] at h; rw [← h]; exact zi33
 have f33 : Nat.beq t 33 = false := by rw [Bool.eq_false_iff]; exact fun q => e33 (Nat.eq_of_beq_eq_true q)
 rw [f33, cond_false] at h
 by_cases e36 : t = 36
 ·subst e36; rw [show Nat.beq 36 36 = true from rfl, cond_true] at h; rw [← h]; exact zi36
 have f36 : Nat.beq t 36 = false := by rw [Bool.eq_false_iff]; exact fun q => e36 (Nat.eq_of_beq_eq_true q)
 rw [f36, cond_false] at h
 by_cases e41 : t = 41
 ·subst e41; rw [show Nat.beq 41 41 = true from rfl, cond_true] at h; rw [← h]; exact zi41
 have f41 : Nat.beq t 41 = false := by rw [Bool.eq_false_iff]; exact fun q => e41 (Nat.eq_of_beq_eq_true q)
 rw [f41, cond_false] at h
 by_cases e42 : t = 42
 ·subst e42; rw [show Nat.beq 42 42 = true from rfl, cond_true] at h; rw [← h]; exact zi42
 have f42 : Nat.beq t 42 = false := by rw [Bool.eq_false_iff]; exact fun q => e42 (Nat.eq_of_beq_eq_true q)
 rw [f42, cond_false] at h
 by_cases e44 : t = 44
 ·subst e44; rw [show Nat.beq 44 44 = true from rfl, cond_true] at h; rw [← h]; exact zi44
 have f44 : Nat.beq t 44 = false := by rw [Bool.eq_false_iff]; exact fun q => e44 (Nat.eq_of_beq_eq_true q)
 rw [f44, cond_false] at h
 by_cases e45 : t = 45
 ·subst e45; rw [show Nat.beq 45 45 = true from rfl, cond_true] at h; rw [← h]; exact zi45
 have f45 : Nat.beq t 45 = false := by rw [Bool.eq_false_iff]; exact fun q => e45 (Nat.eq_of_beq_eq_true q)
 rw [f45, cond_false] at h
 by_cases e49 : t = 49
 ·subst e49; rw [show Nat.beq 49 49 = true from rfl, cond_true] at h; rw [← h]; exact zi49
 have f49 : Nat.beq t 49 = false := by rw [Bool.eq_false_iff]; exact fun q => e49 (Nat.eq_of_beq_eq_true q)
 rw [f49, cond_false] at h
 by_cases e52 : t = 52
 ·subst e52; rw [show Nat.beq 52 52 = true from rfl, cond_true] at h; rw [← h]; exact zi52
 have f52 : Nat.beq t 52 = false := by rw [Bool.eq_false_iff]; exact fun q => e52 (Nat.eq_of_beq_eq_true q)
 rw [f52, cond_false] at h
 by_cases e53 : t = 53
 ·subst e53; rw [show Nat.beq 53 53 = true from rfl, cond_true] at h; rw [← h]; exact zi53
 have f53 : Nat.beq t 53 = false := by rw [Bool.eq_false_iff]; exact fun q => e53 (Nat.eq_of_beq_eq_true q)
 rw [f53, cond_false] at h
 by_cases e58 : t = 58
 ·subst e58; rw [show Nat.beq 58 58 = true from rfl, cond_true] at h; rw [← h]; exact zi58
 have f58 : Nat.beq t 58 = false := by rw [Bool.eq_false_iff]; exact fun q => e58 (Nat.eq_of_beq_eq_true q)
 rw [f58, cond_false] at h
 by_cases e59 : t = 59
 ·subst e59; rw [show Nat.beq 59 59 = true from rfl, cond_true] at h; rw [← h]; exact zi59
 have f59 : Nat.beq t 59 = false := by rw [Bool.eq_false_iff]; exact fun q => e59 (Nat.eq_of_beq_eq_true q)
 rw [f59, cond_false] at h
 by_cases e61 : t = 61
 ·subst e61; rw [show Nat.beq 61 61 = true from rfl, cond_true] at h; rw [← h]; exact zi61
 have f61 : Nat.beq t 61 = false := by rw [Bool.eq_false_iff]; exact fun q => e61 (Nat.eq_of_beq_eq_true q)
 rw [f61, cond_false] at h
 by_cases e62 : t = 62
 ·subst e62; rw [show Nat.beq 62 62 = true from rfl, cond_true] at h; rw [← h]; exact zi62
 have f62 : Nat.beq t 62 = false := by rw [Bool.eq_false_iff]; exact fun q => e62 (Nat.eq_of_beq_eq_true q)
 rw [f62, cond_false] at h
 by_cases e64 : t = 64
 ·subst e64; rw [show Nat.beq 64 64 = true from rfl, cond_true] at h; rw [← h]; exact zi64
 have f64 : Nat.beq t 64 = false := by rw [Bool.eq_false_iff]; exact fun q => e64 (Nat.eq_of_beq_eq_true q)
 rw [f64, cond_false] at h
 by_cases e65 : t = 65
 ·subst e65; rw [show Nat.beq 65 65 = true from rfl, cond_true] at h; rw [← h]; exact zi65
 have f65 : Nat.beq t 65 = false := by rw [Bool.eq_false_iff]; exact fun q => e65 (Nat.eq_of_beq_eq_true q)
 rw [f65, cond_false] at h
 by_cases e66 : t = 66
 ·subst e66; rw [show Nat.beq 66 66 = true from rfl, cond_true] at h; rw [← h]; exact zi66
 have f66 : Nat.beq t 66 = false := by rw [Bool.eq_false_iff]; exact fun q => e66 (Nat.eq_of_beq_eq_true q)
 rw [f66, cond_false] at h
 by_cases e67 : t = 67
 ·subst e67; rw [show Nat.beq 67 67 = true from rfl, cond_true] at h; rw [← h]; exact zi67
 have f67 : Nat.beq t 67 = false := by rw [Bool.eq_false_iff]; exact fun q => e67 (Nat.eq_of_beq_eq_true q)
 rw [f67, cond_false] at h
 by_cases e68 : t = 68
 ·subst e68; rw [show Nat.beq 68 68 = true from rfl, cond_true] at h; rw [← h]; exact zi68
 have f68 : Nat.beq t 68 = false := by rw [Bool.eq_false_iff]; exact fun q => e68 (Nat.eq_of_beq_eq_true q)
 rw [f68, cond_false] at h
 by_cases e76 : t = 76
 ·subst e76; rw [show Nat.beq 76 76 = true from rfl, cond_true] at h; rw [← h]; exact zi76
 have f76 : Nat.beq t 76 = false := by rw [Bool.eq_false_iff]; exact fun q => e76 (Nat.eq_of_beq_eq_true q)
 rw [f76, cond_false] at h
 by_cases e78 : t = 78
 ·subst e78; rw [show Nat.beq 78 78 = true from rfl, cond_true] at h; rw [← h]; exact zi78
 have f78 : Nat.beq t 78 = false := by rw [Bool.eq_false_iff]; exact fun q => e78 (Nat.eq_of_beq_eq_true q)
 rw [f78, cond_false] at h
 by_cases e79 : t = 79
 ·subst e79; rw [show Nat.beq 79 79 = true from rfl, cond_true] at h; rw [← h]; exact zi79
 have f79 : Nat.beq t 79 = false := by rw [Bool.eq_false_iff]; exact fun q => e79 (Nat.eq_of_beq_eq_true q)
 rw [f79, cond_false] at h
 by_cases e82 : t = 82
 ·subst e82; rw [show Nat.beq 82 82 = true from rfl, cond_true] at h; rw [← h]; exact zi82
 have f82 : Nat.beq t 82 = false := by rw [Bool.eq_false_iff]; exact fun q => e82 (Nat.eq_of_beq_eq_true q)
 rw [f82, cond_false] at h
 by_cases e83 : t = 83
 ·subst e83; rw [show Nat.beq 83 83 = true from rfl, cond_true] at h; rw [← h]; exact zi83
 have f83 : Nat.beq t 83 = false := by rw [Bool.eq_false_iff]; exact fun q => e83 (Nat.eq_of_beq_eq_true q)
 rw [f83, cond_false] at h
 by_cases e85 : t = 85
 ·subst e85; rw [show Nat.beq 85 85 = true from rfl, cond_true] at h; rw [← h]; exact zi85
 have f85 : Nat.beq t 85 = false := by rw [Bool.eq_false_iff]; exact fun q => e85 (Nat.eq_of_beq_eq_true q)
 rw [f85, cond_false] at h
 by_cases e86 : t = 86
 ·subst e86; rw [show Nat.beq 86 86 = true from rfl, cond_true] at h; rw [← h]; exact zi86
 have f86 : Nat.beq t 86 = false := by rw [Bool.eq_false_iff]; exact fun q => e86 (Nat.eq_of_beq_eq_true q)
 rw [f86, cond_false] at h
 by_cases e110 : t = 110
 ·subst e110; rw [show Nat.beq 110 110 = true from rfl, cond_true] at h; rw [← h]; exact zi110
 have f110 : Nat.beq t 110 = false := by rw [Bool.eq_false_iff]; exact fun q => e110 (Nat.eq_of_beq_eq_true q)
 rw [f110, cond_false] at h
 by_cases e111 : t = 111
 ·subst e111; rw [show Nat.beq 111 111 = true from rfl, cond_true] at h; rw [← h]; exact zi111
 have f111 : Nat.beq t 111 = false := by rw [Bool.eq_false_iff]; exact fun q => e111 (Nat.eq_of_beq_eq_true q)
 rw [f111, cond_false] at h
 by_cases e129 : t = 129
 ·subst e129; rw [show Nat.beq 129 129 = true from rfl, cond_true] at h; rw [← h]; exact zi129
 have f129 : Nat.beq t 129 = false := by rw [Bool.eq_false_iff]; exact fun q => e129 (Nat.eq_of_beq_eq_true q)
 rw [f129, cond_false] at h
 by_cases e130 : t = 130
 ·subst e130; rw [show Nat.beq 130 130 = true from rfl, cond_true] at h; rw [← h]; exact zi130
 have f130 : Nat.beq t 130 = false := by rw [Bool.eq_false_iff]; exact fun q => e130 (Nat.eq_of_beq_eq_true q)
 rw [f130, cond_false] at h
 by_cases e131 : t = 131
 ·subst e131; rw [show Nat.beq 131 131 = true from rfl, cond_true] at h; rw [← h]; exact zi131
 have f131 : Nat.beq t 131 = false := by rw [Bool.eq_false_iff]; exact fun q => e131 (Nat.eq_of_beq_eq_true q)
 rw [f131, cond_false] at h
 by_cases e132 : t = 132
 ·subst e132; rw [show Nat.beq 132 132 = true from rfl, cond_true] at h; rw [← h]; exact zi132
 have f132 : Nat.beq t 132 = false := by rw [Bool.eq_false_iff]; exact fun q => e132 (Nat.eq_of_beq_eq_true q)
 rw [f132, cond_false] at h
 by_cases e133 : t = 133
 ·subst e133; rw [show Nat.beq 133 133 = true from rfl, cond_true] at h; rw [← h]; exact zi133
 have f133 : Nat.beq t 133 = false := by rw [Bool.eq_false_iff]; exact fun q => e133 (Nat.eq_of_beq_eq_true q)
 rw [f133, cond_false] at h
 by_cases e134 : t = 134
 ·subst e134; rw [show Nat.beq 134 134 = true from rfl, cond_true] at h; rw [← h]; exact zi134
 have f134 : Nat.beq t 134 = false := by rw [Bool.eq_false_iff]; exact fun q => e134 (Nat.eq_of_beq_eq_true q)
 rw [f134, cond_false] at h
 by_cases e151 : t = 151
 ·subst e151; rw [show Nat.beq 151 151 = true from rfl, cond_true] at h; rw [← h]; exact zi151
 have f151 : Nat.beq t 151 = false := by rw [Bool.eq_false_iff]; exact fun q => e151 (Nat.eq_of_beq_eq_true q)
 rw [f151, cond_false] at h
 by_cases e152 : t = 152
 ·subst e152; rw [show Nat.beq 152 152 = true from rfl, cond_true] at h; rw [← h]; exact zi152
 have f152 : Nat.beq t 152 = false := by rw [Bool.eq_false_iff]; exact fun q => e152 (Nat.eq_of_beq_eq_true q)
 rw [f152, cond_false] at h
 by_cases e155 : t = 155
 ·subst e155; rw [show Nat.beq 155 155 = true from rfl, cond_true] at h; rw [← h]; exact zi155
 have f155 : Nat.beq t 155 = false := by rw [Bool.eq_false_iff]; exact fun q => e155 (Nat.eq_of_beq_eq_true q)
 rw [f155, cond_false] at h
 by_cases e157 : t = 157
 ·subst e157; rw [show Nat.beq 157 157 = true from rfl, cond_true] at h; rw [← h]; exact zi157
 have f157 : Nat.beq t 157 = false := by rw [Bool.eq_false_iff]; exact fun q => e157 (Nat.eq_of_beq_eq_true q)
 rw [f157, cond_false] at h
 by_cases e159 : t = 159
 ·subst e159; rw [show Nat.beq 159 159 = true from rfl, cond_true] at h; rw [← h]; exact zi159
 have f159 : Nat.beq t 159 = false := by rw [Bool.eq_false_iff]; exact fun q => e159 (Nat.eq_of_beq_eq_true q)
 rw [f159, cond_false] at h
 by_cases e160 : t = 160
 ·subst e160; rw [show Nat.beq 160 160 = true from rfl, cond_true] at h; rw [← h]; exact zi160
 have f160 : Nat.beq t 160 = false := by rw [Bool.eq_false_iff]; exact fun q => e160 (Nat.eq_of_beq_eq_true q)
 rw [f160, cond_false] at h
 by_cases e162 : t = 162
 ·subst e162; rw [show Nat.beq 162 162 = true from rfl, cond_true] at h; rw [← h]; exact zi162
 have f162 : Nat.beq t 162 = false := by rw [Bool.eq_false_iff]; exact fun q => e162 (Nat.eq_of_beq_eq_true q)
 rw [f162, cond_false] at h
 by_cases e165 : t = 165
 ·subst e165; rw [show Nat.beq 165 165 = true from rfl, cond_true] at h; rw [← h]; exact zi165
 have f165 : Nat.beq t 165 = false := by rw [Bool.eq_false_iff]; exact fun q => e165 (Nat.eq_of_beq_eq_true q)
 rw [f165, cond_false] at h
 by_cases e166 : t = 166
 ·subst e166; rw [show Nat.beq 166 166 = true from rfl, cond_true] at h; rw [← h]; exact zi166
 have f166 : Nat.beq t 166 = false := by rw [Bool.eq_false_iff]; exact fun q => e166 (Nat.eq_of_beq_eq_true q)
 rw [f166, cond_false] at h
 by_cases e169 : t = 169
 ·subst e169; rw [show Nat.beq 169 169 = true from rfl, cond_true] at h; rw [← h]; exact zi169
 have f169 : Nat.beq t 169 = false := by rw [Bool.eq_false_iff]; exact fun q => e169 (Nat.eq_of_beq_eq_true q)
 rw [f169, cond_false] at h
 by_cases e170 : t = 170
 ·subst e170; rw [show Nat.beq 170 170 = true from rfl, cond_true] at h; rw [← h]; exact zi170
 have f170 : Nat.beq t 170 = false := by rw [Bool.eq_false_iff]; exact fun q => e170 (Nat.eq_of_beq_eq_true q)
 rw [f170, cond_false] at h
 by_cases e175 : t = 175
 ·subst e175; rw [show Nat.beq 175 175 = true from rfl, cond_true] at h; rw [← h]; exact zi175
 have f175 : Nat.beq t 175 = false := by rw [Bool.eq_false_iff]; exact fun q => e175 (Nat.eq_of_beq_eq_true q)
 rw [f175, cond_false] at h
 by_cases e176 : t = 176
 ·subst e176; rw [show Nat.beq 176 176 = true from rfl, cond_true] at h; rw [← h]; exact zi176
 have f176 : Nat.beq t 176 = false := by rw [Bool.eq_false_iff]; exact fun q => e176 (Nat.eq_of_beq_eq_true q)
 rw [f176, cond_false] at h
 by_cases e178 : t = 178
 ·subst e178; rw [show Nat.beq 178 178 = true from rfl, cond_true] at h; rw [← h]; exact zi178
 have f178 : Nat.beq t 178 = false := by rw [Bool.eq_false_iff]; exact fun q => e178 (Nat.eq_of_beq_eq_true q)
 rw [f178, cond_false] at h
 by_cases e179 : t = 179
 ·subst e179; rw [show Nat.beq 179 179 = true from rfl, cond_true] at h; rw [← h]; exact zi179
 have f179 : Nat.beq t 179 = false := by rw [Bool.eq_false_iff]; exact fun q => e179 (Nat.eq_of_beq_eq_true q)
 rw [f179, cond_false] at h
 by_cases e187 : t = 187
 ·subst e187; rw [show Nat.beq 187 187 = true from rfl, cond_true] at h; rw [← h]; exact zi187
 have f187 : Nat.beq t 187 = false := by rw [Bool.eq_false_iff]; exact fun q => e187 (Nat.eq_of_beq_eq_true q)
 rw [f187, cond_false] at h
 by_cases e189 : t = 189
 ·subst e189; rw [show Nat.beq 189 189 = true from rfl, cond_true] at h; rw [← h]; exact zi189
 have f189 : Nat.beq t 189 = false := by rw [Bool.eq_false_iff]; exact fun q => e189 (Nat.eq_of_beq_eq_true q)
 rw [f189, cond_false] at h
 by_cases e190 : t = 190
 ·subst e190; rw [show Nat.beq 190 190 = true from rfl, cond_true] at h; rw [← h]; exact zi190
 have f190 : Nat.beq t 190 = false := by rw [Bool.eq_false_iff]; exact fun q => e190 (Nat.eq_of_beq_eq_true q)
 rw [f190, cond_false] at h
 by_cases e192 : t = 192
 ·subst e192; rw [show Nat.beq 192 192 = true from rfl, cond_true] at h; rw [← h]; exact zi192
 have f192 : Nat.beq t 192 = false := by rw [Bool.eq_false_iff]; exact fun q => e192 (Nat.eq_of_beq_eq_true q)
 rw [f192, cond_false] at h
 by_cases e197 : t = 197
 ·subst e197; rw [show Nat.beq 197 197 = true from rfl, cond_true] at h; rw [← h]; exact zi197
 have f197 : Nat.beq t 197 = false := by rw [Bool.eq_false_iff]; exact fun q => e197 (Nat.eq_of_beq_eq_true q)
 rw [f197, cond_false] at h
 by_cases e203 : t = 203
 ·subst e203; rw [show Nat.beq 203 203 = true from rfl, cond_true] at h; rw [← h]; exact zi203
 have f203 : Nat.beq t 203 = false := by rw [Bool.eq_false_iff]; exact fun q => e203 (Nat.eq_of_beq_eq_true q)
 rw [f203, cond_false] at h
 by_cases e204 : t = 204
 ·subst e204; rw [show Nat.beq 204 204 = true from rfl, cond_true] at h; rw [← h]; exact zi204
 have f204 : Nat.beq t 204 = false := by rw [Bool.eq_false_iff]; exact fun q => e204 (Nat.eq_of_beq_eq_true q)
 rw [f204, cond_false] at h
 by_cases e209 : t = 209
 ·subst e209; rw [show Nat.beq 209 209 = true from rfl, cond_true] at h; rw [← h]; exact zi209
 have f209 : Nat.beq t 209 = false := by rw [Bool.eq_false_iff]; exact fun q => e209 (Nat.eq_of_beq_eq_true q)
 rw [f209, cond_false] at h
 by_cases e213 : t = 213
 ·subst e213; rw [show Nat.beq 213 213 = true from rfl, cond_true] at h; rw [← h]; exact zi213
 have f213 : Nat.beq t 213 = false := by rw [Bool.eq_false_iff]; exact fun q => e213 (Nat.eq_of_beq_eq_true q)
 rw [f213, cond_false] at h
 by_cases e214 : t = 214
 ·subst e214; rw [show Nat.beq 214 214 = true from rfl, cond_true] at h; rw [← h]; exact zi214
 have f214 : Nat.beq t 214 = false := by rw [Bool.eq_false_iff]; exact fun q => e214 (Nat.eq_of_beq_eq_true q)
 rw [f214, cond_false] at h
 by_cases e215 : t = 215
 ·subst e215; rw [show Nat.beq 215 215 = true from rfl, cond_true] at h; rw [← h]; exact zi215
 have f215 : Nat.beq t 215 = false := by rw [Bool.eq_false_iff]; exact fun q => e215 (Nat.eq_of_beq_eq_true q)
 rw [f215, cond_false] at h
 by_cases e216 : t = 216
 ·subst e216; rw [show Nat.beq 216 216 = true from rfl, cond_true] at h; rw [← h]; exact zi216
 have f216 : Nat.beq t 216 = false := by rw [Bool.eq_false_iff]; exact fun q => e216 (Nat.eq_of_beq_eq_true q)
 rw [f216, cond_false] at h
 by_cases e217 : t = 217
 ·subst e217; rw [show Nat.beq 217 217 = true from rfl, cond_true] at h; rw [← h]; exact zi217
 have f217 : Nat.beq t 217 = false := by rw [Bool.eq_false_iff]; exact fun q => e217 (Nat.eq_of_beq_eq_true q)
 rw [f217, cond_false] at h
 by_cases e219 : t = 219
 ·subst e219; rw [show Nat.beq 219 219 = true from rfl, cond_true] at h; rw [← h]; exact zi219
 have f219 : Nat.beq t 219 = false := by rw [Bool.eq_false_iff]; exact fun q => e219 (Nat.eq_of_beq_eq_true q)
 rw [f219, cond_false] at h
 by_cases e220 : t = 220
 ·subst e220; rw [show Nat.beq 220 220 = true from rfl, cond_true] at h; rw [← h]; exact zi220
 have f220 : Nat.beq t 220 = false := by rw [Bool.eq_false_iff]; exact fun q => e220 (Nat.eq_of_beq_eq_true q)
 rw [f220, cond_false] at h
 by_cases e221 : t = 221
 ·subst e221; rw [show Nat.beq 221 221 = true from rfl, cond_true] at h; rw [← h]; exact zi221
 have f221 : Nat.beq t 221 = false := by rw [Bool.eq_false_iff]; exact fun q => e221 (Nat.eq_of_beq_eq_true q)
 rw [f221, cond_false] at h
 by_cases e223 : t = 223
 ·subst e223; rw [show Nat.beq 223 223 = true from rfl, cond_true] at h; rw [← h]; exact zi223
 have f223 : Nat.beq t 223 = false := by rw [Bool.eq_false_iff]; exact fun q => e223 (Nat.eq_of_beq_eq_true q)
 rw [f223, cond_false] at h
 by_cases e224 : t = 224
 ·subst e224; rw [show Nat.beq 224 224 = true from rfl, cond_true] at h; rw [← h]; exact zi224
 have f224 : Nat.beq t 224 = false := by rw [Bool.eq_false_iff]; exact fun q => e224 (Nat.eq_of_beq_eq_true q)
 rw [f224, cond_false] at h
 by_cases e225 : t = 225
 ·subst e225; rw [show Nat.beq 225 225 = true from rfl, cond_true] at h; rw [← h]; exact zi225
 have f225 : Nat.beq t 225 = false := by rw [Bool.eq_false_iff]; exact fun q => e225 (Nat.eq_of_beq_eq_true q)
 rw [f225, cond_false] at h
 by_cases e226 : t = 226
 ·subst e226; rw [show Nat.beq 226 226 = true from rfl, cond_true] at h; rw [← h]; exact zi226
 have f226 : Nat.beq t 226 = false := by rw [Bool.eq_false_iff]; exact fun q => e226 (Nat.eq_of_beq_eq_true q)
 rw [f226, cond_false] at h
 cases h
theorem bi8 : BI Try.prog 8 [.int .i64 0, .int .i64 0, .bool false, .int .u8 0] [(0, 1), (1, 1), (2, 1), (3, 1)] := ⟨by kernel_rfl, fun w => by kernel_rfl⟩
theorem bi14 : BI Try.prog 14 [.string ⟨#[]⟩, .int .u64 0] [(0, 1), (1, 1)] := ⟨by kernel_rfl, fun w => by kernel_rfl⟩
theorem bi19 : BI Try.prog 19 [.pointer none] [(0, 1)] := ⟨by kernel_rfl, fun w => by kernel_rfl⟩
theorem bi24 : BI Try.prog 24 [.int .i64 0, .int .u64 0] [(0, 1), (1, 1)] := ⟨by kernel_rfl, fun w => by kernel_rfl⟩
theorem bi30 : BI Try.prog 30 [.int .i64 0, .int .u64 0, .int .i64 0, .int .u64 0] [(0, 2), (2, 2)] := ⟨by kernel_rfl, fun w => by kernel_rfl⟩
theorem bi33 : BI Try.prog 33 [.int .i64 0, .int .i64 0, .int .u64 0, .int .i64 0, .int .u64 0, .int .i64 0, .int .u64 0, .int .i64 0, .int .u64 0, .int .i64 0, .int .u64 0, .int .i64 0, .int .i64 0, .slice none 0 0, .slice none 0 0, .slice none 0 0, .slice none 0 0, .int .i64 0, .int .u64 0, .int .i64 0, .int .u64 0, .int .i64 0, .int .u64 0, .slice none 0 0] [(0, 1), (1, 2), (3, 2), (5, 2), (7, 2), (9, 2), (11, 1), (12, 1), (13, 1), (14, 1), (15, 1), (16, 1), (17, 2), (19, 4), (23, 1)] := ⟨by kernel_rfl, fun w => by kernel_rfl⟩
theorem bi42 : BI Try.prog 42 [.int .i64 0, .int .u64 0, .int .i64 0] [(0, 2), (2, 1)] := ⟨by kernel_rfl, fun w => by kernel_rfl⟩
theorem bi45 : BI Try.prog 45 [.int .i64 0, .int .u64 0, .int .i64 0, .int .u64 0, .int .i64 0] [(0, 4), (4, 1)] := ⟨by kernel_rfl, fun w => by kernel_rfl⟩
theorem bi53 : BI Try.prog 53 [.int .i64 0, .int .u64 0, .int .i64 0, .int .u64 0, .int .i64 0, .int .u64 0, .int .i64 0, .int .u64 0, .int .i64 0, .int .u64 0, .int .i64 0, .int .u64 0, .int .i64 0, .int .u64 0, .int .i64 0, .int .u64 0, .int .i64 0, .int .u64 0, .int .i64 0, .int .i64 0] [(0, 2), (2, 2), (4, 4), (8, 4), (12, 2), (14, 2), (16, 2), (18, 1), (19, 1)] := ⟨by kernel_rfl, fun w => by kernel_rfl⟩
theorem bi62 : BI Try.prog 62 [.int .i64 0, .int .i64 0, .int .u64 0, .int .i64 0, .int .u64 0, .int .i64 0, .int .i64 0, .int .i64 0, .int .i64 0, .int .u64 0] [(0, 1), (1, 2), (3, 2), (5, 1), (6, 1), (7, 1), (8, 2)] := ⟨by kernel_rfl, fun w => by kernel_rfl⟩
theorem bi66 : BI Try.prog 66 [.int .i64 0, .int .i64 0, .int .i64 0, .int .u64 0, .int .i64 0, .int .u64 0] [(0, 1), (1, 1), (2, 2), (4, 2)] := ⟨by kernel_rfl, fun w => by kernel_rfl⟩
theorem bi68 : BI Try.prog 68 [.int .i64 0, .int .i64 0, .int .i64 0, .int .i64 0] [(0, 1), (1, 1), (2, 1), (3, 1)] := ⟨by kernel_rfl, fun w => by kernel_rfl⟩
theorem bi79 : BI Try.prog 79 [.int .u64 0, .int .u64 0] [(0, 1), (1, 1)] := ⟨by kernel_rfl, fun w => by kernel_rfl⟩
theorem bi83 : BI Try.prog 83 [.int .u64 0, .int .u64 0, .bool false] [(0, 2), (2, 1)] := ⟨by kernel_rfl, fun w => by kernel_rfl⟩
theorem bi86 : BI Try.prog 86 [.int .u64 0, .int .u64 0, .int .u64 0, .int .u64 0] [(0, 2), (2, 2)] := ⟨by kernel_rfl, fun w => by kernel_rfl⟩
theorem bi111 : BI Try.prog 111 [.int .u64 0, .int .u64 0, .bool false] [(0, 2), (2, 1)] := ⟨by kernel_rfl, fun w => by kernel_rfl⟩
theorem bi132 : BI Try.prog 132 [.pointer none, .slice none 0 0] [(0, 1), (1, 1)] := ⟨by kernel_rfl, fun w => by kernel_rfl⟩
theorem bi134 : BI Try.prog 134 [.pointer none, .slice none 0 0, .string ⟨#[]⟩, .bool false, .bool false] [(0, 2), (2, 1), (3, 1), (4, 1)] := ⟨by kernel_rfl, fun w => by kernel_rfl⟩
theorem bi152 : BI Try.prog 152 [.bool false, .int .i64 0] [(0, 1), (1, 1)] := ⟨by kernel_rfl, fun w => by kernel_rfl⟩
theorem bi204 : BI Try.prog 204 [.int .u64 0, .int .u64 0, .int .u64 0, .int .u64 0, .int .u64 0, .int .u64 0, .bool false] [(0, 4), (4, 2), (6, 1)] := ⟨by kernel_rfl, fun w => by kernel_rfl⟩
theorem bi214 : BI Try.prog 214 [.pointer none, .pointer none, .pointer none, .string ⟨#[]⟩] [(0, 1), (1, 1), (2, 1), (3, 1)] := ⟨by kernel_rfl, fun w => by kernel_rfl⟩
theorem bi217 : BI Try.prog 217 [] [(0, 0)] := ⟨by kernel_rfl, fun w => by kernel_rfl⟩
theorem bi226 : BI Try.prog 226 [.int .u64 0, .int .u64 0, .int .u32 0, .int .u8 0, .int .u8 0, .int .u8 0, .int .u8 0, .nilFunc, .pointer none, .int .i32 0, .int .i32 0] [(0, 1), (1, 1), (2, 1), (3, 1), (4, 1), (5, 1), (6, 1), (7, 1), (8, 1), (9, 1), (10, 1)] := ⟨by kernel_rfl, fun w => by kernel_rfl⟩
def biT (t : Nat) : Option (List Value × List (Nat × Nat)) := bif Nat.beq t 8 then some ([.int .i64 0, .int .i64 0, .bool false, .int .u8 0], [(0, 1), (1, 1), (2, 1), (3, 1)]) else (bif Nat.beq t 14 then some ([.string ⟨#[]⟩, .int .u64 0], [(0, 1), (1, 1)]) else (bif Nat.beq t 19 then some ([.pointer none], [(0, 1)]) else (bif Nat.beq t 24 then some ([.int .i64 0, .int .u64 0], [(0, 1), (1, 1)]) else (bif Nat.beq t 30 then some ([.int .i64 0, .int .u64 0, .int .i64 0, .int .u64 0], [(0, 2), (2, 2)]) else (bif Nat.beq t 33 then some ([.int .i64 0, .int .i64 0, .int .u64 0, .int .i64 0, .int .u64 0, .int .i64 0, .int .u64 0, .int .i64 0, .int .u64 0, .int .i64 0, .int .u64 0, .int .i64 0, .int .i64 0, .slice none 0 0, .slice none 0 0, .slice none 0 0, .slice none 0 0, .int .i64 0, .int .u64 0, .int .i64 0, .int .u64 0, .int .i64 0, .int .u64 0, .slice none 0 0], [(0, 1), (1, 2), (3, 2), (5, 2), (7, 2), (9, 2), (11, 1), (12, 1), (13, 1), (14, 1), (15, 1), (16, 1), (17, 2), (19, 4), (23, 1)]) else (bif Nat.beq t 42 then some ([.int .i64 0, .int .u64 0, .int .i64 0], [(0, 2), (2, 1)]) else (bif Nat.beq t 45 then some ([.int .i64 0, .int .u64 0, .int .i64 0, .int .u64 0, .int .i64 0], [(0, 4), (4, 1)]) else (bif Nat.beq t 53 then some ([.int .i64 0, .int .u64 0, .int .i64 0, .int .u64 0, .int .i64 0, .int .u64 0, .int .i64 0, .int .u64 0, .int .i64 0, .int .u64 0, .int .i64 0, .int .u64 0, .int .i64 0, .int .u64 0, .int .i64 0, .int .u64 0, .int .i64 0, .int .u64 0, .int .i64 0, .int .i64 0], [(0, 2), (2, 2), (4, 4), (8, 4), (12, 2), (14, 2), (16, 2), (18, 1), (19, 1)]) else (bif Nat.beq t 62 then some ([.int .i64 0, .int .i64 0, .int .u64 0, .int .i64 0, .int .u64 0, .int .i64 0, .int .i64 0, .int .i64 0, .int .i64 0, .int .u64 0], [(0, 1), (1, 2), (3, 2), (5, 1), (6, 1), (7, 1), (8, 2)]) else (bif Nat.beq t 66 then some ([.int .i64 0, .int .i64 0, .int .i64 0, .int .u64 0, .int .i64 0, .int .u64 0], [(0, 1), (1, 1), (2, 2), (4, 2)]) else (bif Nat.beq t 68 then some ([.int .i64 0, .int .i64 0, .int .i64 0, .int .i64 0], [(0, 1), (1, 1), (2, 1), (3, 1)]) else (bif Nat.beq t 79 then some ([.int .u64 0, .int .u64 0], [(0, 1), (1, 1)]) else (bif Nat.beq t 83 then some ([.int .u64 0, .int .u64 0, .bool false], [(0, 2), (2, 1)]) else (bif Nat.beq t 86 then some ([.int .u64 0, .int .u64 0, .int .u64 0, .int .u64 0], [(0, 2), (2, 2)]) else (bif Nat.beq t 111 then some ([.int .u64 0, .int .u64 0, .bool false], [(0, 2), (2, 1)]) else (bif Nat.beq t 132 then some ([.pointer none, .slice none 0 0], [(0, 1), (1, 1)]) else (bif Nat.beq t 134 then some ([.pointer none, .slice none 0 0, .string ⟨#[]⟩, .bool false, .bool false], [(0, 2), (2, 1), (3, 1), (4, 1)]) else (bif Nat.beq t 152 then some ([.bool false, .int .i64 0], [(0, 1), (1, 1)]) else (bif Nat.beq t 204 then some ([.int .u64 0, .int .u64 0, .int .u64 0, .int .u64 0, .int .u64 0, .int .u64 0, .bool false], [(0, 4), (4, 2), (6, 1)]) else (bif Nat.beq t 214 then some ([.pointer none, .pointer none, .pointer none, .string ⟨#[]⟩], [(0, 1), (1, 1), (2, 1), (3, 1)]) else (bif Nat.beq t 217 then some ([], [(0, 0)]) else (bif Nat.beq t 226 then some ([.int .u64 0, .int .u64 0, .int .u32 0, .int .u8 0, .int .u8 0, .int .u8 0, .int .u8 0, .nilFunc, .pointer none, .int .i32 0, .int .i32 0], [(0, 1), (1, 1), (2, 1), (3, 1), (4, 1), (5, 1), (6, 1), (7, 1), (8, 1), (9, 1), (10, 1)]) else (none)))))))))))))))))))))))
theorem biOf {t : Nat} {z : List Value} {pl : List (Nat × Nat)} (h : biT t = some (z, pl)) : BI Try.prog t z pl := by
 unfold biT at h
 by_cases e8 : t = 8
 ·subst e8; rw [show Nat.beq 8 8 = true from rfl, cond_true] at h; cases h; exact bi8
 have f8 : Nat.beq t 8 = false := by rw [Bool.eq_false_iff]; exact fun q => e8 (Nat.eq_of_beq_eq_true q)
 rw [f8, cond_false] at h
 by_cases e14 : t = 14
 ·subst e14; rw [show Nat.beq 14 14 = true from rfl, cond_true] at h; cases h; exact bi14
 have f14 : Nat.beq t 14 = false := by rw [Bool.eq_false_iff]; exact fun q => e14 (Nat.eq_of_beq_eq_true q)
 rw [f14, cond_false] at h
 by_cases e19 : t = 19
 ·subst e19; rw [show Nat.beq 19 19 = true from rfl, cond_true] at h; cases h; exact bi19
 have f19 : Nat.beq t 19 = false := by rw [Bool.eq_false_iff]; exact fun q => e19 (Nat.eq_of_beq_eq_true q)
 rw [f19, cond_false] at h
 by_cases e24 : t = 24
 ·subst e24; rw [show Nat.beq 24 24 = true from rfl, cond_true] at h; cases h; exact bi24
 have f24 : Nat.beq t 24 = false := by rw [Bool.eq_false_iff]; exact fun q => e24 (Nat.eq_of_beq_eq_true q)
 rw [f24, cond_false] at h
 by_cases e30 : t = 30
 ·subst e30; rw [show Nat.beq 30 30 = true from rfl, cond_true] at h; cases h; exact bi30
 have f30 : Nat.beq t 30 = false := by rw [Bool.eq_false_iff]; exact fun q => e30 (Nat.eq_of_beq_eq_true q)
 rw [f30, cond_false] at h
 by_cases e33 : t = 33
 ·subst e33; rw [show Nat.beq 33 33 = true from rfl, cond_true] at h; cases h; exact bi33
 have f33 : Nat.beq t 33 = false := by rw [Bool.eq_false_iff]; exact fun q => e33 (Nat.eq_of_beq_eq_true q)
 rw [f33, cond_false] at h
 by_cases e42 : t = 42
 ·subst e42; rw [show Nat.beq 42 42 = true from rfl, cond_true] at h; cases h; exact bi42
 have f42 : Nat.beq t 42 = false := by rw [Bool.eq_false_iff]; exact fun q => e42 (Nat.eq_of_beq_eq_true q)
 rw [f42, cond_false] at h
 by_cases e45 : t = 45
 ·subst e45; rw [show Nat.beq 45 45 = true from rfl, cond_true] at h; cases h; exact bi45
 have f45 : Nat.beq t 45 = false := by rw [Bool.eq_false_iff]; exact fun q => e45 (Nat.eq_of_beq_eq_true q)
 rw [f45, cond_false] at h
 by_cases e53 : t = 53
 ·subst e53; rw [show Nat.beq 53 53 = true from rfl, cond_true] at h; cases h; exact bi53
 have f53 : Nat.beq t 53 = false := by rw [Bool.eq_false_iff]; exact fun q => e53 (Nat.eq_of_beq_eq_true q)
 rw [f53, cond_false] at h
 by_cases e62 : t = 62
 ·subst e62; rw [show Nat.beq 62 62 = true from rfl, cond_true] at h; cases h; exact bi62
 have f62 : Nat.beq t 62 = false := by rw [Bool.eq_false_iff]; exact fun q => e62 (Nat.eq_of_beq_eq_true q)
 rw [f62, cond_false] at h
 by_cases e66 : t = 66
 ·subst e66; rw [show Nat.beq 66 66 = true from rfl, cond_true] at h; cases h; exact bi66
 have f66 : Nat.beq t 66 = false := by rw [Bool.eq_false_iff]; exact fun q => e66 (Nat.eq_of_beq_eq_true q)
 rw [f66, cond_false] at h
 by_cases e68 : t = 68
 ·subst e68; rw [show Nat.beq 68 68 = true from rfl, cond_true] at h; cases h; exact bi68
 have f68 : Nat.beq t 68 = false := by rw [Bool.eq_false_iff]; exact fun q => e68 (Nat.eq_of_beq_eq_true q)
 rw [f68, cond_false] at h
 by_cases e79 : t = 79
 ·subst e79; rw [show Nat.beq 79 79 = true from rfl, cond_true] at h; cases h; exact bi79
 have f79 : Nat.beq t 79 = false := by rw [Bool.eq_false_iff]; exact fun q => e79 (Nat.eq_of_beq_eq_true q)
 rw [f79, cond_false] at h
 by_cases e83 : t = 83
 ·subst e83; rw [show Nat.beq 83 83 = true from rfl, cond_true] at h; cases h; exact bi83
 have f83 : Nat.beq t 83 = false := by rw [Bool.eq_false_iff]; exact fun q => e83 (Nat.eq_of_beq_eq_true q)
 rw [f83, cond_false] at h
 by_cases e86 : t = 86
 ·subst e86; rw [show Nat.beq 86 86 = true from rfl, cond_true] at h; cases h; exact bi86
 have f86 : Nat.beq t 86 = false := by rw [Bool.eq_false_iff]; exact fun q => e86 (Nat.eq_of_beq_eq_true q)
 rw [f86, cond_false] at h
 by_cases e111 : t = 111
 ·subst e111; rw [show Nat.beq 111 111 = true from rfl, cond_true] at h; cases h; exact bi111
 have f111 : Nat.beq t 111 = false := by rw [Bool.eq_false_iff]; exact fun q => e111 (Nat.eq_of_beq_eq_true q)
 rw [f111, cond_false] at h
 by_cases e132 : t = 132
 ·subst e132; rw [show Nat.beq 132 132 = true from rfl, cond_true] at h; cases h; exact bi132
 have f132 : Nat.beq t 132 = false := by rw [Bool.eq_false_iff]; exact fun q => e132 (Nat.eq_of_beq_eq_true q)
 rw [f132, cond_false] at h
 by_cases e134 : t = 134
 ·subst e134; rw [show Nat.beq 134 134 = true from rfl, cond_true] at h; cases h; exact bi134
 have f134 : Nat.beq t 134 = false := by rw [Bool.eq_false_iff]; exact fun q => e134 (Nat.eq_of_beq_eq_true q)
 rw [f134, cond_false] at h
 by_cases e152 : t = 152
 ·subst e152; rw [show Nat.beq 152 152 = true from rfl, cond_true] at h; cases h; exact bi152
 have f152 : Nat.beq t 152 = false := by rw [Bool.eq_false_iff]; exact fun q => e152 (Nat.eq_of_beq_eq_true q)
 rw [f152, cond_false] at h
 by_cases e204 : t = 204
 ·subst e204; rw [show Nat.beq 204 204 = true from rfl, cond_true] at h; cases h; exact bi204
 have f204 : Nat.beq t 204 = false := by rw [Bool.eq_false_iff]; exact fun q => e204 (Nat.eq_of_beq_eq_true q)
 rw [f204, cond_false] at h
 by_cases e214 : t = 214
 ·subst e214; rw [show Nat.beq 214 214 = true from rfl, cond_true] at h; cases h; exact bi214
 have f214 : Nat.beq t 214 = false := by rw [Bool.eq_false_iff]; exact fun q => e214 (Nat.eq_of_beq_eq_true q)
 rw [f214, cond_false] at h
 by_cases e217 : t = 217
 ·subst e217; rw [show Nat.beq 217 217 = true from rfl, cond_true] at h; cases h; exact bi217
 have f217 : Nat.beq t 217 = false := by rw [Bool.eq_false_iff]; exact fun q => e217 (Nat.eq_of_beq_eq_true q)
 rw [f217, cond_false] at h
 by_cases e226 : t = 226
 ·subst e226; rw [show Nat.beq 226 226 = true from rfl, cond_true] at h; cases h; exact bi226
 have f226 : Nat.beq t 226 = false := by rw [Bool.eq_false_iff]; exact fun q => e226 (Nat.eq_of_beq_eq_true q)
 rw [f226, cond_false] at h
 cases h
theorem eqv24 {d : Nat} {x0 y0 x1 y1 : Int} : EqR Try.prog (d + 2) 24 (.agg #[.int .i64 x0, .int .u64 x1]) (.agg #[.int .i64 y0, .int .u64 y1]) ((x0 == y0) && ((x1 == y1) && (true))) :=
 eq_struct (d := d + 1) (xs := [.int .i64 x0, .int .u64 x1]) (ys := [.int .i64 y0, .int .u64 y1]) Try.underlying24 (by kernel_rfl) (FEq.one (by decide) (ti rfl) rfl rfl (eq_int (hi := ii rfl) (d := d + 0)) (FEq.one (by decide) (ti rfl) rfl rfl (eq_int (hi := ii rfl) (d := d + 0)) FEq.nil))
theorem eqA0 {x0 y0 x1 y1 : Int} : EqOK Try.prog 24 [.int .i64 x0, .int .u64 x1] [.int .i64 y0, .int .u64 y1] ((x0 == y0) && ((x1 == y1) && (true))) := ⟨by kernel_rfl, eqv24 (d := 9998)⟩
theorem eqv79 {d : Nat} {x0 y0 x1 y1 : Int} : EqR Try.prog (d + 2) 79 (.agg #[.int .u64 x0, .int .u64 x1]) (.agg #[.int .u64 y0, .int .u64 y1]) ((x0 == y0) && ((x1 == y1) && (true))) :=
 eq_struct (d := d + 1) (xs := [.int .u64 x0, .int .u64 x1]) (ys := [.int .u64 y0, .int .u64 y1]) Try.underlying79 (by kernel_rfl) (FEq.one (by decide) (ti rfl) rfl rfl (eq_int (hi := ii rfl) (d := d + 0)) (FEq.one (by decide) (ti rfl) rfl rfl (eq_int (hi := ii rfl) (d := d + 0)) FEq.nil))
theorem eqA8 {x0 y0 x1 y1 : Int} : EqOK Try.prog 79 [.int .u64 x0, .int .u64 x1] [.int .u64 y0, .int .u64 y1] ((x0 == y0) && ((x1 == y1) && (true))) := ⟨by kernel_rfl, eqv79 (d := 9998)⟩
end Go.Proofs.Ytedfbamihjnhhaa.Own
