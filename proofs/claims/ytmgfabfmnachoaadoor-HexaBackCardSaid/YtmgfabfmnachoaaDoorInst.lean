/- What is known of the types and the functions. -/
import Derived.Test.YtmgfabfmnachoaaDoorEng6
import Derived.Test.YtmgfabfmnachoaaDoorProg
namespace Go.Proofs.YtmgfabfmnachoaaDoor.Own
open Go Go.Proofs
set_option linter.unusedVariables false
set_option maxRecDepth 100000
def tiT : List (Nat × Bool × Nat) := [(2, false, 1), (3, false, 1), (4, false, 1), (5, false, 1), (6, false, 1), (7, true, 4), (8, true, 4), (9, false, 1), (10, false, 1), (11, false, 1), (12, false, 1), (13, true, 2), (14, true, 2), (15, false, 1), (16, false, 1), (17, false, 1), (18, true, 1), (19, true, 1), (21, false, 1), (22, false, 1), (23, true, 2), (24, true, 2), (28, true, 3), (29, true, 3), (34, false, 1), (36, false, 1), (39, false, 1), (46, true, 2), (47, true, 2), (48, false, 1), (49, true, 3), (50, true, 3), (52, true, 4), (53, true, 4), (58, true, 3), (59, true, 3), (62, true, 3), (63, true, 3), (67, true, 256), (68, true, 256), (72, false, 1), (73, true, 16), (89, true, 256), (90, true, 2), (91, true, 2), (92, true, 32), (95, true, 4), (96, true, 4), (97, true, 0), (98, true, 0), (99, true, 0), (101, false, 1), (102, false, 1), (104, false, 1), (105, false, 1), (106, false, 1), (107, true, 11), (108, true, 11), (109, false, 1)]
theorem tiOK : (tiT.all fun x => decide (tinfo Tryd.prog x.1 = some x.2)) = true := by kernel_rfl
theorem ti {t n : Nat} {b : Bool} (h : lookN tiT t = some (b, n)) : tinfo Tryd.prog t = some (b, n) := of_decide_eq_true (List.all_eq_true.1 tiOK _ (lookN_mem h))
def fiT : List (Nat × Nat × Nat × Bool × Nat) := [(7, 0, 0, false, 1), (7, 1, 1, false, 1), (7, 2, 2, false, 1), (7, 3, 3, false, 1), (8, 0, 0, false, 1), (8, 1, 1, false, 1), (8, 2, 2, false, 1), (8, 3, 3, false, 1), (13, 0, 0, false, 1), (13, 1, 1, false, 1), (14, 0, 0, false, 1), (14, 1, 1, false, 1), (18, 0, 0, false, 1), (19, 0, 0, false, 1), (23, 0, 0, false, 1), (23, 1, 1, false, 1), (24, 0, 0, false, 1), (24, 1, 1, false, 1), (28, 0, 0, true, 2), (28, 1, 2, false, 1), (29, 0, 0, true, 2), (29, 1, 2, false, 1), (46, 0, 0, false, 1), (46, 1, 1, false, 1), (47, 0, 0, false, 1), (47, 1, 1, false, 1), (49, 0, 0, true, 2), (49, 1, 2, false, 1), (50, 0, 0, true, 2), (50, 1, 2, false, 1), (52, 0, 0, true, 2), (52, 1, 2, true, 2), (53, 0, 0, true, 2), (53, 1, 2, true, 2), (58, 0, 0, true, 2), (58, 1, 2, false, 1), (59, 0, 0, true, 2), (59, 1, 2, false, 1), (62, 0, 0, true, 2), (62, 1, 2, false, 1), (63, 0, 0, true, 2), (63, 1, 2, false, 1), (90, 0, 0, false, 1), (90, 1, 1, false, 1), (91, 0, 0, false, 1), (91, 1, 1, false, 1), (95, 0, 0, false, 1), (95, 1, 1, false, 1), (95, 2, 2, false, 1), (95, 3, 3, false, 1), (96, 0, 0, false, 1), (96, 1, 1, false, 1), (96, 2, 2, false, 1), (96, 3, 3, false, 1), (98, 0, 0, true, 0), (99, 0, 0, true, 0), (107, 0, 0, false, 1), (107, 1, 1, false, 1), (107, 2, 2, false, 1), (107, 3, 3, false, 1), (107, 4, 4, false, 1), (107, 5, 5, false, 1), (107, 6, 6, false, 1), (107, 7, 7, false, 1), (107, 8, 8, false, 1), (107, 9, 9, false, 1), (107, 10, 10, false, 1), (108, 0, 0, false, 1), (108, 1, 1, false, 1), (108, 2, 2, false, 1), (108, 3, 3, false, 1), (108, 4, 4, false, 1), (108, 5, 5, false, 1), (108, 6, 6, false, 1), (108, 7, 7, false, 1), (108, 8, 8, false, 1), (108, 9, 9, false, 1), (108, 10, 10, false, 1)]
theorem fiOK : (fiT.all fun x => decide (finfo Tryd.prog x.1 x.2.1 = some x.2.2)) = true := by kernel_rfl
theorem fi {t i off n : Nat} {b : Bool} (h : lookN2 fiT t i = some (off, b, n)) : finfo Tryd.prog t i = some (off, b, n) := of_decide_eq_true (List.all_eq_true.1 fiOK _ (lookN2_mem h))
def siT : List (Nat × Nat) := [(34, 5), (39, 9)]
theorem siOK : (siT.all fun x => isSlice Tryd.prog x.1 x.2) = true := by kernel_rfl
theorem si {t e : Nat} (h : lookN siT t = some e) : Tryd.prog.underlying t = some (.slice e) := isSlice_eq (List.all_eq_true.1 siOK _ (lookN_mem h))
def aiT : List (Nat × Nat × Nat) := [(67, 256, 4), (68, 256, 4), (73, 16, 5), (89, 256, 5), (92, 16, 91), (97, 0, 16)]
theorem aiOK : (aiT.all fun x => isArray Tryd.prog x.1 x.2.1 x.2.2) = true := by kernel_rfl
theorem ai {t len e : Nat} (h : lookN aiT t = some (len, e)) : Tryd.prog.underlying t = some (.array len e) := isArray_eq (List.all_eq_true.1 aiOK _ (lookN_mem h))
def iiT : List (Nat × IntKind) := [(2, .i64), (3, .i64), (5, .u8), (6, .u8), (12, .u64), (21, .i32), (22, .u64), (36, .u32), (48, .u64), (101, .u8), (102, .u8), (105, .i32), (106, .i32)]
theorem iiOK : (iiT.all fun x => isInt Tryd.prog x.1 x.2) = true := by kernel_rfl
theorem ii {t : Nat} {k : IntKind} (h : lookN iiT t = some k) : Tryd.prog.underlying t = some (.int k) := isInt_eq (List.all_eq_true.1 iiOK _ (lookN_mem h))
def fnT : List Nat := [3, 4, 5, 6, 7, 8, 9, 10, 11, 12, 13, 14, 15, 16, 17, 18, 19, 20, 21, 22, 23, 24, 25, 26, 27, 28, 29, 30, 31, 32, 33, 34, 35, 36, 37, 38, 39, 40, 41, 47, 48, 50]
theorem fnOK : (fnT.all fun f => isFn Tryd.prog f) = true := by kernel_rfl
theorem fn {f : Nat} (h : hasN fnT f = true) : isFn Tryd.prog f = true := List.all_eq_true.1 fnOK _ (hasN_mem h)
theorem btA0 : Tryd.prog.underlying 4 = some .bool := by kernel_rfl
theorem zi2 : zinfo Tryd.prog 2 = some (.int .i64 0) := by kernel_rfl
theorem zi3 : zinfo Tryd.prog 3 = some (.int .i64 0) := by kernel_rfl
theorem zi4 : zinfo Tryd.prog 4 = some (.bool false) := by kernel_rfl
theorem zi5 : zinfo Tryd.prog 5 = some (.int .u8 0) := by kernel_rfl
theorem zi6 : zinfo Tryd.prog 6 = some (.int .u8 0) := by kernel_rfl
theorem zi7 : zinfo Tryd.prog 7 = some (.agg #[.int .i64 0, .int .i64 0, .bool false, .int .u8 0]) := by kernel_rfl
theorem zi8 : zinfo Tryd.prog 8 = some (.agg #[.int .i64 0, .int .i64 0, .bool false, .int .u8 0]) := by kernel_rfl
theorem zi9 : zinfo Tryd.prog 9 = some (.string ⟨#[]⟩) := by kernel_rfl
theorem zi10 : zinfo Tryd.prog 10 = some (.string ⟨#[]⟩) := by kernel_rfl
theorem zi11 : zinfo Tryd.prog 11 = some (.string ⟨#[]⟩) := by kernel_rfl
theorem zi12 : zinfo Tryd.prog 12 = some (.int .u64 0) := by kernel_rfl
theorem zi13 : zinfo Tryd.prog 13 = some (.agg #[.string ⟨#[]⟩, .int .u64 0]) := by kernel_rfl
theorem zi14 : zinfo Tryd.prog 14 = some (.agg #[.string ⟨#[]⟩, .int .u64 0]) := by kernel_rfl
theorem zi15 : zinfo Tryd.prog 15 = some (.pointer none) := by kernel_rfl
theorem zi16 : zinfo Tryd.prog 16 = some (.pointer none) := by kernel_rfl
theorem zi17 : zinfo Tryd.prog 17 = some (.pointer none) := by kernel_rfl
theorem zi18 : zinfo Tryd.prog 18 = some (.agg #[.pointer none]) := by kernel_rfl
theorem zi19 : zinfo Tryd.prog 19 = some (.agg #[.pointer none]) := by kernel_rfl
theorem zi21 : zinfo Tryd.prog 21 = some (.int .i32 0) := by kernel_rfl
theorem zi22 : zinfo Tryd.prog 22 = some (.int .u64 0) := by kernel_rfl
theorem zi23 : zinfo Tryd.prog 23 = some (.agg #[.int .i64 0, .int .u64 0]) := by kernel_rfl
theorem zi24 : zinfo Tryd.prog 24 = some (.agg #[.int .i64 0, .int .u64 0]) := by kernel_rfl
theorem zi28 : zinfo Tryd.prog 28 = some (.agg #[.int .i64 0, .int .u64 0, .bool false]) := by kernel_rfl
theorem zi29 : zinfo Tryd.prog 29 = some (.agg #[.int .i64 0, .int .u64 0, .bool false]) := by kernel_rfl
theorem zi34 : zinfo Tryd.prog 34 = some (.slice none 0 0) := by kernel_rfl
theorem zi36 : zinfo Tryd.prog 36 = some (.int .u32 0) := by kernel_rfl
theorem zi39 : zinfo Tryd.prog 39 = some (.slice none 0 0) := by kernel_rfl
theorem zi46 : zinfo Tryd.prog 46 = some (.agg #[.int .u64 0, .int .u64 0]) := by kernel_rfl
theorem zi47 : zinfo Tryd.prog 47 = some (.agg #[.int .u64 0, .int .u64 0]) := by kernel_rfl
theorem zi48 : zinfo Tryd.prog 48 = some (.int .u64 0) := by kernel_rfl
theorem zi49 : zinfo Tryd.prog 49 = some (.agg #[.int .i64 0, .int .u64 0, .int .i64 0]) := by kernel_rfl
theorem zi50 : zinfo Tryd.prog 50 = some (.agg #[.int .i64 0, .int .u64 0, .int .i64 0]) := by kernel_rfl
theorem zi52 : zinfo Tryd.prog 52 = some (.agg #[.int .u64 0, .int .u64 0, .int .u64 0, .int .u64 0]) := by kernel_rfl
theorem zi53 : zinfo Tryd.prog 53 = some (.agg #[.int .u64 0, .int .u64 0, .int .u64 0, .int .u64 0]) := by kernel_rfl
theorem zi58 : zinfo Tryd.prog 58 = some (.agg #[.int .u64 0, .int .u64 0, .bool false]) := by kernel_rfl
theorem zi59 : zinfo Tryd.prog 59 = some (.agg #[.int .u64 0, .int .u64 0, .bool false]) := by kernel_rfl
theorem zi62 : zinfo Tryd.prog 62 = some (.agg #[.int .u64 0, .int .u64 0, .bool false]) := by kernel_rfl
theorem zi63 : zinfo Tryd.prog 63 = some (.agg #[.int .u64 0, .int .u64 0, .bool false]) := by kernel_rfl
theorem zi67 : zinfo Tryd.prog 67 = some (.agg #[.bool false, .bool false, .bool false, .bool false, .bool false, .bool false, .bool false, .bool false, .bool false, .bool false, .bool false, .bool false, .bool false, .bool false, .bool false, .bool false, .bool false, .bool false, .bool false, .bool false, .bool false, .bool false, .bool false, .bool false, .bool false, .bool false, .bool false, .bool false, .bool false, .bool false, .bool false, .bool false, .bool false, .bool false, .bool false, .bool false, .bool false, .bool false, .bool false, .bool false, .bool false, .bool false, .bool false, .bool false, .bool false, .bool false, .bool false, .bool false, .bool false, .bool false, .bool false, .bool false, .bool false, .bool false, .bool false, .bool false, .bool false, .bool false, .bool false, .bool false, .bool false, .bool false, .bool false, .bool false, .bool false, .bool false, .bool false, .bool false, .bool false, .bool false, .bool false, .bool false, .bool false, .bool false, .bool false, .bool false, .bool false, .bool false, .bool false, .bool false, .bool false, .bool false, .bool false, .bool false, .bool false, .bool false, .bool false, .bool false, .bool false, .bool false, .bool false, .bool false, .bool false, .bool false, .bool false, .bool false, .bool false, .bool false, .bool false, .bool false, .bool false, .bool false, .bool false, .bool false, .bool false, .bool false, .bool false, .bool false, .bool false, .bool false, .bool false, .bool false, .bool false, .bool false, .bool false, .bool false, .bool false, .bool false, .bool false, .bool false, .bool false, .bool false, .bool false, .bool false, .bool false, .bool false, .bool false, .bool false, .bool false, .bool false, .bool false, .bool false, .bool false, .bool false, .bool false, .bool false, .bool false, .bool false, .bool false, .bool false, .bool false, .bool false, .bool false, .bool false, .bool false, .bool false, .bool false, .bool false, .bool false, .bool false, .bool false, .bool false, .bool false, .bool false, .bool false, .bool false, .bool false, .bool false, .bool false, .bool false, .bool false, .bool false, .bool false, .bool false, .bool false, .bool false, .bool false, .bool false, .bool false, .bool false, .bool false, .bool false, .bool false, .bool false, .bool false, .bool false, .bool false, .bool false, .bool false, .bool false, .bool false, .bool false, .bool false, .bool false, .bool false, .bool false, .bool false, .bool false, .bool false, .bool false, .bool false, .bool false, .bool false, .bool false, .bool false, .bool false, .bool false, .bool false, .bool false, .bool false, .bool false, .bool false, .bool false, .bool false, .bool false, .bool false, .bool false, .bool false, .bool false, .bool false, .bool false, .bool false, .bool false, .bool false, .bool false, .bool false, .bool false, .bool false, .bool false, .bool false, .bool false, .bool false, .bool false, .bool false, .bool false, .bool false, .bool false, .bool false, .bool false, .bool false, .bool false, .bool false, .bool false, .bool false, .bool false, .bool false, .bool false, .bool false, .bool false, .bool false, .bool false, .bool false, .bool false, .bool false, .bool false, .bool false, .bool false, .bool false, .bool false, .bool false, .bool false, .bool false, .bool false, .bool false, .bool false, .bool false]) := by kernel_rfl
theorem zi68 : zinfo Tryd.prog 68 = some (.agg #[.bool false, .bool false, .bool false, .bool false, .bool false, .bool false, .bool false, .bool false, .bool false, .bool false, .bool false, .bool false, .bool false, .bool false, .bool false, .bool false, .bool false, .bool false, .bool false, .bool false, .bool false, .bool false, .bool false, .bool false, .bool false, .bool false, .bool false, .bool false, .bool false, .bool false, .bool false, .bool false, .bool false, .bool false, .bool false, .bool false, .bool false, .bool false, .bool false, .bool false, .bool false, .bool false, .bool false, .bool false, .bool false, .bool false, .bool false, .bool false, .bool false, .bool false, .bool false, .bool false, .bool false, .bool false, .bool false, .bool false, .bool false, .bool false, .bool false, .bool false, .bool false, .bool false, .bool false, .bool false, .bool false, .bool false, .bool false, .bool false, .bool false, .bool false, .bool false, .bool false, .bool false, .bool false, .bool false, .bool false, .bool false, .bool false, .bool false, .bool false, .bool false, .bool false, .bool false, .bool false, .bool false, .bool false, .bool false, .bool false, .bool false, .bool false, .bool false, .bool false, .bool false, .bool false, .bool false, .bool false, .bool false, .bool false, .bool false, .bool false, .bool false, .bool false, .bool false, .bool false, .bool false, .bool false, .bool false, .bool false, .bool false, .bool false, .bool false, .bool false, .bool false, .bool false, .bool false, .bool false, .bool false, .bool false, .bool false, .bool false, .bool false, .bool false, .bool false, .bool false, .bool false, .bool false, .bool false, .bool false, .bool false, .bool false, .bool false, .bool false, .bool false, .bool false, .bool false, .bool false, .bool false, .bool false, .bool false, .bool false, .bool false, .bool false, .bool false, .bool false, .bool false, .bool false, .bool false, .bool false, .bool false, .bool false, .bool false, .bool false, .bool false, .bool false, .bool false, .bool false, .bool false, .bool false, .bool false, .bool false, .bool false, .bool false, .bool false, .bool false, .bool false, .bool false, .bool false, .bool false, .bool false, .bool false, .bool false, .bool false, .bool false, .bool false, .bool false, .bool false, .bool false, .bool false, .bool false, .bool false, .bool false, .bool false, .bool false, .bool false, .bool false, .bool false, .bool false, .bool false, .bool false, .bool false, .bool false, .bool false, .bool false, .bool false, .bool false, .bool false, .bool false, .bool false, .bool false, .bool false, .bool false, .bool false, .bool false, .bool false, .bool false, .bool false, .bool false, .bool false, .bool false, .bool false, .bool false, .bool false, .bool false, .bool false, .bool false, .bool false, .bool false, .bool false, .bool false, .bool false, .bool false, .bool false, .bool false, .bool false, .bool false, .bool false, .bool false, .bool false, .bool false, .bool false, .bool false, .bool false, .bool false, .bool false, .bool false, .bool false, .bool false, .bool false, .bool false, .bool false, .bool false, .bool false, .bool false, .bool false, .bool false, .bool false, .bool false, .bool false, .bool false, .bool false, .bool false, .bool false, .bool false, .bool false, .bool false, .bool false]) := by kernel_rfl
theorem zi72 : zinfo Tryd.prog 72 = some (.pointer none) := by kernel_rfl
theorem zi73 : zinfo Tryd.prog 73 = some (.agg #[.int .u8 0, .int .u8 0, .int .u8 0, .int .u8 0, .int .u8 0, .int .u8 0, .int .u8 0, .int .u8 0, .int .u8 0, .int .u8 0, .int .u8 0, .int .u8 0, .int .u8 0, .int .u8 0, .int .u8 0, .int .u8 0]) := by kernel_rfl
theorem zi89 : zinfo Tryd.prog 89 = some (.agg #[.int .u8 0, .int .u8 0, .int .u8 0, .int .u8 0, .int .u8 0, .int .u8 0, .int .u8 0, .int .u8 0, .int .u8 0, .int .u8 0, .int .u8 0, .int .u8 0, .int .u8 0, .int .u8 0, .int .u8 0, .int .u8 0, .int .u8 0, .int .u8 0, .int .u8 0, .int .u8 0, .int .u8 0, .int .u8 0, .int .u8 0, .int .u8 0, .int .u8 0, .int .u8 0, .int .u8 0, .int .u8 0, .int .u8 0, .int .u8 0, .int .u8 0, .int .u8 0, .int .u8 0, .int .u8 0, .int .u8 0, .int .u8 0, .int .u8 0, .int .u8 0, .int .u8 0, .int .u8 0, .int .u8 0, .int .u8 0, .int .u8 0, .int .u8 0, .int .u8 0, .int .u8 0, .int .u8 0, .int .u8 0, .int .u8 0, .int .u8 0, .int .u8 0, .int .u8 0, .int .u8 0, .int .u8 0, .int .u8 0, .int .u8 0, .int .u8 0, .int .u8 0, .int .u8 0, .int .u8 0, .int .u8 0, .int .u8 0, .int .u8 0, .int .u8 0, .int .u8 0, .int .u8 0, .int .u8 0, .int .u8 0, .int .u8 0, .int .u8 0, .int .u8 0, .int .u8 0, .int .u8 0, .int .u8 0, .int .u8 0, .int .u8 0, .int .u8 0, .int .u8 0, .int .u8 0, .int .u8 0, .int .u8 0, .int .u8 0, .int .u8 0, .int .u8 0, .int .u8 0, .int .u8 0, .int .u8 0, .int .u8 0, .int .u8 0, .int .u8 0, .int .u8 0, .int .u8 0, .int .u8 0, .int .u8 0, .int .u8 0, .int .u8 0, .int .u8 0, .int .u8 0, .int .u8 0, .int .u8 0, .int .u8 0, .int .u8 0, .int .u8 0, .int .u8 0, .int .u8 0, .int .u8 0, .int .u8 0, .int .u8 0, .int .u8 0, .int .u8 0, .int .u8 0, .int .u8 0, .int .u8 0, .int .u8 0, .int .u8 0, .int .u8 0, .int .u8 0, .int .u8 0, .int .u8 0, .int .u8 0, .int .u8 0, .int .u8 0, .int .u8 0, .int .u8 0, .int .u8 0, .int .u8 0, .int .u8 0, .int .u8 0, .int .u8 0, .int .u8 0, .int .u8 0, .int .u8 0, .int .u8 0, .int .u8 0, .int .u8 0, .int .u8 0, .int .u8 0, .int .u8 0, .int .u8 0, .int .u8 0, .int .u8 0, .int .u8 0, .int .u8 0, .int .u8 0, .int .u8 0, .int .u8 0, .int .u8 0, .int .u8 0, .int .u8 0, .int .u8 0, .int .u8 0, .int .u8 0, .int .u8 0, .int .u8 0, .int .u8 0, .int .u8 0, .int .u8 0, .int .u8 0, .int .u8 0, .int .u8 0, .int .u8 0, .int .u8 0, .int .u8 0, .int .u8 0, .int .u8 0, .int .u8 0, .int .u8 0, .int .u8 0, .int .u8 0, .int .u8 0, .int .u8 0, .int .u8 0, .int .u8 0, .int .u8 0, .int .u8 0, .int .u8 0, .int .u8 0, .int .u8 0, .int .u8 0, .int .u8 0, .int .u8 0, .int .u8 0, .int .u8 0, .int .u8 0, .int .u8 0, .int .u8 0, .int .u8 0, .int .u8 0, .int .u8 0, .int .u8 0, .int .u8 0, .int .u8 0, .int .u8 0, .int .u8 0, .int .u8 0, .int .u8 0, .int .u8 0, .int .u8 0, .int .u8 0, .int .u8 0, .int .u8 0, .int .u8 0, .int .u8 0, .int .u8 0, .int .u8 0, .int .u8 0, .int .u8 0, .int .u8 0, .int .u8 0, .int .u8 0, .int .u8 0, .int .u8 0, .int .u8 0, .int .u8 0, .int .u8 0, .int .u8 0, .int .u8 0, .int .u8 0, .int .u8 0, .int .u8 0, .int .u8 0, .int .u8 0, .int .u8 0, .int .u8 0, .int .u8 0, .int .u8 0, .int .u8 0, .int .u8 0, .int .u8 0, .int .u8 0, .int .u8 0, .int .u8 0, .int .u8 0, .int .u8 0, .int .u8 0, .int .u8 0, .int .u8 0, .int .u8 0, .int .u8 0, .int .u8 0, .int .u8 0, .int .u8 0, .int .u8 0, .int .u8 0, .int .u8 0, .int .u8 0, .int .u8 0, .int .u8 0, .int .u8 0, .int .u8 0, .int .u8 0, .int .u8 0, .int .u8 0, .int .u8 0, .int .u8 0, .int .u8 0]) := by kernel_rfl
theorem zi90 : zinfo Tryd.prog 90 = some (.agg #[.int .u8 0, .int .u8 0]) := by kernel_rfl
theorem zi91 : zinfo Tryd.prog 91 = some (.agg #[.int .u8 0, .int .u8 0]) := by kernel_rfl
theorem zi92 : zinfo Tryd.prog 92 = some (.agg #[.int .u8 0, .int .u8 0, .int .u8 0, .int .u8 0, .int .u8 0, .int .u8 0, .int .u8 0, .int .u8 0, .int .u8 0, .int .u8 0, .int .u8 0, .int .u8 0, .int .u8 0, .int .u8 0, .int .u8 0, .int .u8 0, .int .u8 0, .int .u8 0, .int .u8 0, .int .u8 0, .int .u8 0, .int .u8 0, .int .u8 0, .int .u8 0, .int .u8 0, .int .u8 0, .int .u8 0, .int .u8 0, .int .u8 0, .int .u8 0, .int .u8 0, .int .u8 0]) := by kernel_rfl
theorem zi95 : zinfo Tryd.prog 95 = some (.agg #[.pointer none, .pointer none, .pointer none, .string ⟨#[]⟩]) := by kernel_rfl
theorem zi96 : zinfo Tryd.prog 96 = some (.agg #[.pointer none, .pointer none, .pointer none, .string ⟨#[]⟩]) := by kernel_rfl
theorem zi97 : zinfo Tryd.prog 97 = some (.agg #[]) := by kernel_rfl
theorem zi98 : zinfo Tryd.prog 98 = some (.agg #[]) := by kernel_rfl
theorem zi99 : zinfo Tryd.prog 99 = some (.agg #[]) := by kernel_rfl
theorem zi101 : zinfo Tryd.prog 101 = some (.int .u8 0) := by kernel_rfl
theorem zi102 : zinfo Tryd.prog 102 = some (.int .u8 0) := by kernel_rfl
theorem zi104 : zinfo Tryd.prog 104 = some (.pointer none) := by kernel_rfl
theorem zi105 : zinfo Tryd.prog 105 = some (.int .i32 0) := by kernel_rfl
theorem zi106 : zinfo Tryd.prog 106 = some (.int .i32 0) := by kernel_rfl
theorem zi107 : zinfo Tryd.prog 107 = some (.agg #[.int .u64 0, .int .u64 0, .int .u32 0, .int .u8 0, .int .u8 0, .int .u8 0, .int .u8 0, .nilFunc, .pointer none, .int .i32 0, .int .i32 0]) := by kernel_rfl
theorem zi108 : zinfo Tryd.prog 108 = some (.agg #[.int .u64 0, .int .u64 0, .int .u32 0, .int .u8 0, .int .u8 0, .int .u8 0, .int .u8 0, .nilFunc, .pointer none, .int .i32 0, .int .i32 0]) := by kernel_rfl
def ziT (t : Nat) : Option Value := bif Nat.beq t 2 then some (.int .i64 0) else (bif Nat.beq t 3 then some (.int .i64 0) else (bif Nat.beq t 4 then some (.bool false) else (bif Nat.beq t 5 then some (.int .u8 0) else (bif Nat.beq t 6 then some (.int .u8 0) else (bif Nat.beq t 7 then some (.agg #[.int .i64 0, .int .i64 0, .bool false, .int .u8 0]) else (bif Nat.beq t 8 then some (.agg #[.int .i64 0, .int .i64 0, .bool false, .int .u8 0]) else (bif Nat.beq t 9 then some (.string ⟨#[]⟩) else (bif Nat.beq t 10 then some (.string ⟨#[]⟩) else (bif Nat.beq t 11 then some (.string ⟨#[]⟩) else (bif Nat.beq t 12 then some (.int .u64 0) else (bif Nat.beq t 13 then some (.agg #[.string ⟨#[]⟩, .int .u64 0]) else (bif Nat.beq t 14 then some (.agg #[.string ⟨#[]⟩, .int .u64 0]) else (bif Nat.beq t 15 then some (.pointer none) else (bif Nat.beq t 16 then some (.pointer none) else (bif Nat.beq t 17 then some (.pointer none) else (bif Nat.beq t 18 then some (.agg #[.pointer none]) else (bif Nat.beq t 19 then some (.agg #[.pointer none]) else (bif Nat.beq t 21 then some (.int .i32 0) else (bif Nat.beq t 22 then some (.int .u64 0) else (bif Nat.beq t 23 then some (.agg #[.int .i64 0, .int .u64 0]) else (bif Nat.beq t 24 then some (.agg #[.int .i64 0, .int .u64 0]) else (bif Nat.beq t 28 then some (.agg #[.int .i64 0, .int .u64 0, .bool false]) else (bif Nat.beq t 29 then some (.agg #[.int .i64 0, .int .u64 0, .bool false]) else (bif Nat.beq t 34 then some (.slice none 0 0) else (bif Nat.beq t 36 then some (.int .u32 0) else (bif Nat.beq t 39 then some (.slice none 0 0) else (bif Nat.beq t 46 then some (.agg #[.int .u64 0, .int .u64 0]) else (bif Nat.beq t 47 then some (.agg #[.int .u64 0, .int .u64 0]) else (bif Nat.beq t 48 then some (.int .u64 0) else (bif Nat.beq t 49 then some (.agg #[.int .i64 0, .int .u64 0, .int .i64 0]) else (bif Nat.beq t 50 then some (.agg #[.int .i64 0, .int .u64 0, .int .i64 0]) else (bif Nat.beq t 52 then some (.agg #[.int .u64 0, .int .u64 0, .int .u64 0, .int .u64 0]) else (bif Nat.beq t 53 then some (.agg #[.int .u64 0, .int .u64 0, .int .u64 0, .int .u64 0]) else (bif Nat.beq t 58 then some (.agg #[.int .u64 0, .int .u64 0, .bool false]) else (bif Nat.beq t 59 then some (.agg #[.int .u64 0, .int .u64 0, .bool false]) else (bif Nat.beq t 62 then some (.agg #[.int .u64 0, .int .u64 0, .bool false]) else (bif Nat.beq t 63 then some (.agg #[.int .u64 0, .int .u64 0, .bool false]) else (bif Nat.beq t 67 then some (.agg #[.bool false, .bool false, .bool false, .bool false, .bool false, .bool false, .bool false, .bool false, .bool false, .bool false, .bool false, .bool false, .bool false, .bool false, .bool false, .bool false, .bool false, .bool false, .bool false, .bool false, .bool false, .bool false, .bool false, .bool false, .bool false, .bool false, .bool false, .bool false, .bool false, .bool false, .bool false, .bool false, .bool false, .bool false, .bool false, .bool false, .bool false, .bool false, .bool false, .bool false, .bool false, .bool false, .bool false, .bool false, .bool false, .bool false, .bool false, .bool false, .bool false, .bool false, .bool false, .bool false, .bool false, .bool false, .bool false, .bool false, .bool false, .bool false, .bool false, .bool false, .bool false, .bool false, .bool false, .bool false, .bool false, .bool false, .bool false, .bool false, .bool false, .bool false, .bool false, .bool false, .bool false, .bool false, .bool false, .bool false, .bool false, .bool false, .bool false, .bool false, .bool false, .bool false, .bool false, .bool false, .bool false, .bool false, .bool false, .bool false, .bool false, .bool false, .bool false, .bool false, .bool false, .bool false, .bool false, .bool false, .bool false, .bool false, .bool false, .bool false, .bool false, .bool false, .bool false, .bool false, .bool false, .bool false, .bool false, .bool false, .bool false, .bool false, .bool false, .bool false, .bool false, .bool false, .bool false, .bool false, .bool false, .bool false, .bool false, .bool false, .bool false, .bool false, .bool false, .bool false, .bool false, .bool false, .bool false, .bool false, .bool false, .bool false, .bool false, .bool false, .bool false, .bool false, .bool false, .bool false, .bool false, .bool false, .bool false, .bool false, .bool false, .bool false, .bool false, .bool false, .bool false, .bool false, .bool false, .bool false, .bool false, .bool false, .bool false, .bool false, .bool false, .bool false, .bool false, .bool false, .bool false, .bool false, .bool false, .bool false, .bool false, .bool false, .bool false, .bool false, .bool false, .bool false, .bool false, .bool false, .bool false, .bool false, .bool false, .bool false, .bool false, .bool false, .bool false, .bool false, .bool false, .bool false, .bool false, .bool false, .bool false, .bool false, .bool false, .bool false, .bool false, .bool false, .bool false, .bool false, .bool false, .bool false, .bool false, .bool false, .bool false, .bool false, .bool false, .bool false, .bool false, .bool false, .bool false, .bool false, .bool false, .bool false, .bool false, .bool false, .bool false, .bool false, .bool false, .bool false, .bool false, .bool false, .bool false, .bool false, .bool false, .bool false, .bool false, .bool false, .bool false, .bool false, .bool false, .bool false, .bool false, .bool false, .bool false, .bool false, .bool false, .bool false, .bool false, .bool false, .bool false, .bool false, .bool false, .bool false, .bool false, .bool false, .bool false, .bool false, .bool false, .bool false, .bool false, .bool false, .bool false, .bool false, .bool false, .bool false, .bool false, .bool false, .bool false, .bool false, .bool false, .bool false, .bool false, .bool false, .bool false, .bool false, .bool false, .bool false]) else (bif Nat.beq t 68 then some (.agg #[.bool false, .bool false, .bool false, .bool false, .bool false, .bool false, .bool false, .bool false, .bool false, .bool false, .bool false, .bool false, .bool false, .bool false, .bool false, .bool false, .bool false, .bool false, .bool false, .bool false, .bool false, .bool false, .bool false, .bool false, .bool false, .bool false, .bool false, .bool false, .bool false, .bool false, .bool false, .bool false, .bool false, .bool false, .bool false, .bool false, .bool false, .bool false, .bool false, .bool false, .bool false, .bool false, .bool false, .bool false, .bool false, .bool false, .bool false, .bool false, .bool false, .bool false, .bool false, .bool false, .bool false, .bool false, .bool false, .bool false, .bool false, .bool false, .bool false, .bool false, .bool false, .bool false, .bool false, .bool false, .bool false, .bool false, .bool false, .bool false, .bool false, .bool false, .bool false, .bool false, .bool false, .bool false, .bool false, .bool false, .bool false, .bool false, .bool false, .bool false, .bool false, .bool false, .bool false, .bool false, .bool false, .bool false, .bool false, .bool false, .bool false, .bool false, .bool false, .bool false, .bool false, .bool false, .bool false, .bool false, .bool false, .bool false, .bool false, .bool false, .bool false, .bool false, .bool false, .bool false, .bool false, .bool false, .bool false, .bool false, .bool false, .bool false, .bool false, .bool false, .bool false, .bool false, .bool false, .bool false, .bool false, .bool false, .bool false, .bool false, .bool false, .bool false, .bool false, .bool false, .bool false, .bool false, .bool false, .bool false, .bool false, .bool false, .bool false, .bool false, .bool false, .bool false, .bool false, .bool false, .bool false, .bool false, .bool false, .bool false, .bool false, .bool false, .bool false, .bool false, .bool false, .bool false, .bool false, .bool false, .bool false, .bool false, .bool false, .bool false, .bool false, .bool false, .bool false, .bool false, .bool false, .bool false, .bool false, .bool false, .bool false, .bool false, .bool false, .bool false, .bool false, .bool false, .bool false, .bool false, .bool false, .bool false, .bool false, .bool false, .bool false, .bool false, .bool false, .bool false, .bool false, .bool false, .bool false, .bool false, .bool false, .bool false, .bool false, .bool false, .bool false, .bool false, .bool false, .bool false, .bool false, .bool false, .bool false, .bool false, .bool false, .bool false, .bool false, .bool false, .bool false, .bool false, .bool false, .bool false, .bool false, .bool false, .bool false, .bool false, .bool false, .bool false, .bool false, .bool false, .bool false, .bool false, .bool false, .bool false, .bool false, .bool false, .bool false, .bool false, .bool false, .bool false, .bool false, .bool false, .bool false, .bool false, .bool false, .bool false, .bool false, .bool false, .bool false, .bool false, .bool false, .bool false, .bool false, .bool false, .bool false, .bool false, .bool false, .bool false, .bool false, .bool false, .bool false, .bool false, .bool false, .bool false, .bool false, .bool false, .bool false, .bool false, .bool false, .bool false, .bool false, .bool false, .bool false, .bool false, .bool false, .bool false, .bool false, .bool false]) else (bif Nat.beq t 72 then some (.pointer none) else (bif Nat.beq t 73 then some (.agg #[.int .u8 0, .int .u8 0, .int .u8 0, .int .u8 0, .int .u8 0, .int .u8 0, .int .u8 0, .int .u8 0, .int .u8 0, .int .u8 0, .int .u8 0, .int .u8 0, .int .u8 0, .int .u8 0, .int .u8 0, .int .u8 0]) else (bif Nat.beq t 89 then some (.agg #[.int .u8 0, .int .u8 0, .int .u8 0, .int .u8 0, .int .u8 0, .int .u8 0, .int .u8 0, .int .u8 0, .int .u8 0, .int .u8 0, .int .u8 0, .int .u8 0, .int .u8 0, .int .u8 0, .int .u8 0, .int .u8 0, .int .u8 0, .int .u8 0, .int .u8 0, .int .u8 0, .int .u8 0, .int .u8 0, .int .u8 0, .int .u8 0, .int .u8 0, .int .u8 0, .int .u8 0, .int .u8 0, .int .u8 0, .int .u8 0, .int .u8 0, .int .u8 0, .int .u8 0, .int .u8 0, .int .u8 0, .int .u8 0, .int .u8 0, .int .u8 0, .int .u8 0, .int .u8 0, .int .u8 0, .int .u8 0, .int .u8 0, .int .u8 0, .int .u8 0, .int .u8 0, .int .u8 0, .int .u8 0, .int .u8 0, .int .u8 0, .int .u8 0, .int .u8 0, .int .u8 0, .int .u8 0, .int .u8 0, .int .u8 0, .int .u8 0, .int .u8 0, .int .u8 0, .int .u8 0, .int .u8 0, .int .u8 0, .int .u8 0, .int .u8 0, .int .u8 0, .int .u8 0, .int .u8 0, .int .u8 0, .int .u8 0, .int .u8 0, .int .u8 0, .int .u8 0, .int .u8 0, .int .u8 0, .int .u8 0, .int .u8 0, .int .u8 0, .int .u8 0, .int .u8 0, .int .u8 0, .int .u8 0, .int .u8 0, .int .u8 0, .int .u8 0, .int .u8 0, .int .u8 0, .int .u8 0, .int .u8 0, .int .u8 0, .int .u8 0, .int .u8 0, .int .u8 0, .int .u8 0, .int .u8 0, .int .u8 0, .int .u8 0, .int .u8 0, .int .u8 0, .int .u8 0, .int .u8 0, .int .u8 0, .int .u8 0, .int .u8 0, .int .u8 0, .int .u8 0, .int .u8 0, .int .u8 0, .int .u8 0, .int .u8 0, .int .u8 0, .int .u8 0, .int .u8 0, .int .u8 0, .int .u8 0, .int .u8 0, .int .u8 0, .int .u8 0, .int .u8 0, .int .u8 0, .int .u8 0, .int .u8 0, .int .u8 0, .int .u8 0, .int .u8 0, .int .u8 0, .int .u8 0, .int .u8 0, .int .u8 0, .int .u8 0, .int .u8 0, .int .u8 0, .int .u8 0, .int .u8 0, .int .u8 0, .int .u8 0, .int .u8 0, .int .u8 0, .int .u8 0, .int .u8 0, .int .u8 0, .int .u8 0, .int .u8 0, .int .u8 0, .int .u8 0, .int .u8 0, .int .u8 0, .int .u8 0, .int .u8 0, .int .u8 0, .int .u8 0, .int .u8 0, .int .u8 0, .int .u8 0, .int .u8 0, .int .u8 0, .int .u8 0, .int .u8 0, .int .u8 0, .int .u8 0, .int .u8 0, .int .u8 0, .int .u8 0, .int .u8 0, .int .u8 0, .int .u8 0, .int .u8 0, .int .u8 0, .int .u8 0, .int .u8 0, .int .u8 0, .int .u8 0, .int .u8 0, .int .u8 0, .int .u8 0, .int .u8 0, .int .u8 0, .int .u8 0, .int .u8 0, .int .u8 0, .int .u8 0, .int .u8 0, .int .u8 0, .int .u8 0, .int .u8 0, .int .u8 0, .int .u8 0, .int .u8 0, .int .u8 0, .int .u8 0, .int .u8 0, .int .u8 0, .int .u8 0, .int .u8 0, .int .u8 0, .int .u8 0, .int .u8 0, .int .u8 0, .int .u8 0, .int .u8 0, .int .u8 0, .int .u8 0, .int .u8 0, .int .u8 0, .int .u8 0, .int .u8 0, .int .u8 0, .int .u8 0, .int .u8 0, .int .u8 0, .int .u8 0, .int .u8 0, .int .u8 0, .int .u8 0, .int .u8 0, .int .u8 0, .int .u8 0, .int .u8 0, .int .u8 0, .int .u8 0, .int .u8 0, .int .u8 0, .int .u8 0, .int .u8 0, .int .u8 0, .int .u8 0, .int .u8 0, .int .u8 0, .int .u8 0, .int .u8 0, .int .u8 0, .int .u8 0, .int .u8 0, .int .u8 0, .int .u8 0, .int .u8 0, .int .u8 0, .int .u8 0, .int .u8 0, .int .u8 0, .int .u8 0, .int .u8 0, .int .u8 0, .int .u8 0, .int .u8 0, .int .u8 0, .int .u8 0, .int .u8 0, .int .u8 0, .int .u8 0, .int .u8 0, .int .u8 0, .int .u8 0, .int .u8 0, .int .u8 0, .int .u8 0, .int .u8 0]) else (bif Nat.beq t 90 then some (.agg #[.int .u8 0, .int .u8 0]) else (bif Nat.beq t 91 then some (.agg #[.int .u8 0, .int .u8 0]) else (bif Nat.beq t 92 then some (.agg #[.int .u8 0, .int .u8 0, .int .u8 0, .int .u8 0, .int .u8 0, .int .u8 0, .int .u8 0, .int .u8 0, .int .u8 0, .int .u8 0, .int .u8 0, .int .u8 0, .int .u8 0, .int .u8 0, .int .u8 0, .int .u8 0, .int .u8 0, .int .u8 0, .int .u8 0, .int .u8 0, .int .u8 0, .int .u8 0, .int .u8 0, .int .u8 0, .int .u8 0, .int .u8 0, .int .u8 0, .int .u8 0, .int .u8 0, .int .u8 0, .int .u8 0, .int .u8 0]) else (bif Nat.beq t 95 then some (.agg #[.pointer none, .pointer none, .pointer none, .string ⟨#[]⟩]) else (bif Nat.beq t 96 then some (.agg #[.pointer none, .pointer none, .pointer none, .string ⟨#[]⟩]) else (bif Nat.beq t 97 then some (.agg #[]) else (bif Nat.beq t 98 then some (.agg #[]) else (bif Nat.beq t 99 then some (.agg #[]) else (bif Nat.beq t 101 then some (.int .u8 0) else (bif Nat.beq t 102 then some (.int .u8 0) else (bif Nat.beq t 104 then some (.pointer none) else (bif Nat.beq t 105 then some (.int .i32 0) else (bif Nat.beq t 106 then some (.int .i32 0) else (bif Nat.beq t 107 then some (.agg #[.int .u64 0, .int .u64 0, .int .u32 0, .int .u8 0, .int .u8 0, .int .u8 0, .int .u8 0, .nilFunc, .pointer none, .int .i32 0, .int .i32 0]) else (bif Nat.beq t 108 then some (.agg #[.int .u64 0, .int .u64 0, .int .u32 0, .int .u8 0, .int .u8 0, .int .u8 0, .int .u8 0, .nilFunc, .pointer none, .int .i32 0, .int .i32 0]) else (none))))))))))))))))))))))))))))))))))))))))))))))))))))))))))
theorem ziOf {t : Nat} {z : Value} (h : ziT t = some z) : zinfo Tryd.prog t = some z := by
  unfold ziT at h
  by_cases e2 : t = 2
  · subst e2; rw [show Nat.beq 2 2 = true from rfl, cond_true] at h; rw [← h]; exact zi2
  have f2 : Nat.beq t 2 = false := by rw [Bool.eq_false_iff]; exact fun q => e2 (Nat.eq_of_beq_eq_true q)
  rw [f2, cond_false] at h
  by_cases e3 : t = 3
  · subst e3; rw [show Nat.beq 3 3 = true from rfl, cond_true] at h; rw [← h]; exact zi3
  have f3 : Nat.beq t 3 = false := by rw [Bool.eq_false_iff]; exact fun q => e3 (Nat.eq_of_beq_eq_true q)
  rw [f3, cond_false] at h
  by_cases e4 : t = 4
  · subst e4; rw [show Nat.beq 4 4 = true from rfl, cond_true] at h; rw [← h]; exact zi4
  have f4 : Nat.beq t 4 = false := by rw [Bool.eq_false_iff]; exact fun q => e4 (Nat.eq_of_beq_eq_true q)
  rw [f4, cond_false] at h
  by_cases e5 : t = 5
  · subst e5; rw [show Nat.beq 5 5 = true from rfl, cond_true] at h; rw [← h]; exact zi5
  have f5 : Nat.beq t 5 = false := by rw [Bool.eq_false_iff]; exact fun q => e5 (Nat.eq_of_beq_eq_true q)
  rw [f5, cond_false] at h
  by_cases e6 : t = 6
  · subst e6; rw [show Nat.beq 6 6 = true from rfl, cond_true] at h; rw [← h]; exact zi6
  have f6 : Nat.beq t 6 = false := by rw [Bool.eq_false_iff]; exact fun q => e6 (Nat.eq_of_beq_eq_true q)
  rw [f6, cond_false] at h
  by_cases e7 : t = 7
  · subst e7; rw [show Nat.beq 7 7 = true from rfl, cond_true] at h; rw [← h]; exact zi7
  have f7 : Nat.beq t 7 = false := by rw [Bool.eq_false_iff]; exact fun q => e7 (Nat.eq_of_beq_eq_true q)
  rw [f7, cond_false] at h
  by_cases e8 : t = 8
  · subst e8; rw [show Nat.beq 8 8 = true from rfl, cond_true] at h; rw [← h]; exact zi8
  have f8 : Nat.beq t 8 = false := by rw [Bool.eq_false_iff]; exact fun q => e8 (Nat.eq_of_beq_eq_true q)
  rw [f8, cond_false] at h
  by_cases e9 : t = 9
  · subst e9; rw [show Nat.beq 9 9 = true from rfl, cond_true] at h; rw [← h]; exact zi9
  have f9 : Nat.beq t 9 = false := by rw [Bool.eq_false_iff]; exact fun q => e9 (Nat.eq_of_beq_eq_true q)
  rw [f9, cond_false] at h
  by_cases e10 : t = 10
  · subst e10; rw [show Nat.beq 10 10 = true from rfl, cond_true] at h; rw [← h]; exact zi10
  have f10 : Nat.beq t 10 = false := by rw [Bool.eq_false_iff]; exact fun q => e10 (Nat.eq_of_beq_eq_true q)
  rw [f10, cond_false] at h
  by_cases e11 : t = 11
  · subst e11; rw [show Nat.beq 11 11 = true from rfl, cond_true] at h; rw [← h]; exact zi11
  have f11 : Nat.beq t 11 = false := by rw [Bool.eq_false_iff]; exact fun q => e11 (Nat.eq_of_beq_eq_true q)
  rw [f11, cond_false] at h
  by_cases e12 : t = 12
  · subst e12; rw [show Nat.beq 12 12 = true from rfl, cond_true] at h; rw [← h]; exact zi12
  have f12 : Nat.beq t 12 = false := by rw [Bool.eq_false_iff]; exact fun q => e12 (Nat.eq_of_beq_eq_true q)
  rw [f12, cond_false] at h
  by_cases e13 : t = 13
  · subst e13; rw [show Nat.beq 13 13 = true from rfl, cond_true] at h; rw [← h]; exact zi13
  have f13 : Nat.beq t 13 = false := by rw [Bool.eq_false_iff]; exact fun q => e13 (Nat.eq_of_beq_eq_true q)
  rw [f13, cond_false] at h
  by_cases e14 : t = 14
  · subst e14; rw [show Nat.beq 14 14 = true from rfl, cond_true] at h; rw [← h]; exact zi14
  have f14 : Nat.beq t 14 = false := by rw [Bool.eq_false_iff]; exact fun q => e14 (Nat.eq_of_beq_eq_true q)
  rw [f14, cond_false] at h
  by_cases e15 : t = 15
  · subst e15; rw [show Nat.beq 15 15 = true from rfl, cond_true] at h; rw [← h]; exact zi15
  have f15 : Nat.beq t 15 = false := by rw [Bool.eq_false_iff]; exact fun q => e15 (Nat.eq_of_beq_eq_true q)
  rw [f15, cond_false] at h
  by_cases e16 : t = 16
  · subst e16; rw [show Nat.beq 16 16 = true from rfl, cond_true] at h; rw [← h]; exact zi16
  have f16 : Nat.beq t 16 = false := by rw [Bool.eq_false_iff]; exact fun q => e16 (Nat.eq_of_beq_eq_true q)
  rw [f16, cond_false] at h
  by_cases e17 : t = 17
  · subst e17; rw [show Nat.beq 17 17 = true from rfl, cond_true] at h; rw [← h]; exact zi17
  have f17 : Nat.beq t 17 = false := by rw [Bool.eq_false_iff]; exact fun q => e17 (Nat.eq_of_beq_eq_true q)
  rw [f17, cond_false] at h
  by_cases e18 : t = 18
  · subst e18; rw [show Nat.beq 18 18 = true from rfl, cond_true] at h; rw [← h]; exact zi18
  have f18 : Nat.beq t 18 = false := by rw [Bool.eq_false_iff]; exact fun q => e18 (Nat.eq_of_beq_eq_true q)
  rw [f18, cond_false] at h
  by_cases e19 : t = 19
  · subst e19; rw [show Nat.beq 19 19 = true from rfl, cond_true] at h; rw [← h]; exact zi19
  have f19 : Nat.beq t 19 = false := by rw [Bool.eq_false_iff]; exact fun q => e19 (Nat.eq_of_beq_eq_true q)
  rw [f19, cond_false] at h
  by_cases e21 : t = 21
  · subst e21; rw [show Nat.beq 21 21 = true from rfl, cond_true] at h; rw [← h]; exact zi21
  have f21 : Nat.beq t 21 = false := by rw [Bool.eq_false_iff]; exact fun q => e21 (Nat.eq_of_beq_eq_true q)
  rw [f21, cond_false] at h
  by_cases e22 : t = 22
  · subst e22; rw [show Nat.beq 22 22 = true from rfl, cond_true] at h; rw [← h]; exact zi22
  have f22 : Nat.beq t 22 = false := by rw [Bool.eq_false_iff]; exact fun q => e22 (Nat.eq_of_beq_eq_true q)
  rw [f22, cond_false] at h
  by_cases e23 : t = 23
  · subst e23; rw [show Nat.beq 23 23 = true from rfl, cond_true] at h; rw [← h]; exact zi23
  have f23 : Nat.beq t 23 = false := by rw [Bool.eq_false_iff]; exact fun q => e23 (Nat.eq_of_beq_eq_true q)
  rw [f23, cond_false] at h
  by_cases e24 : t = 24
  · subst e24; rw [show Nat.beq 24 24 = true from rfl, cond_true] at h; rw [← h]; exact zi24
  have f24 : Nat.beq t 24 = false := by rw [Bool.eq_false_iff]; exact fun q => e24 (Nat.eq_of_beq_eq_true q)
  rw [f24, cond_false] at h
  by_cases e28 : t = 28
  · subst e28; rw [show Nat.beq 28 28 = true from rfl, cond_true] at h; rw [← h]; exact zi28
  have f28 : Nat.beq t 28 = false := by rw [Bool.eq_false_iff]; exact fun q => e28 (Nat.eq_of_beq_eq_true q)
  rw [f28, cond_false] at h
  by_cases e29 : t = 29
  · subst e29; rw [show Nat.beq 29 29 = true from rfl, cond_true] at h; rw [← h]; exact zi29
  have f29 : Nat.beq t 29 = false := by rw [Bool.eq_false_iff]; exact fun q => e29 (Nat.eq_of_beq_eq_true q)
  rw [f29, cond_false] at h
  by_cases e34 : t = 34
  · subst e34; rw [show Nat.beq 34 34 = true from rfl, cond_true] at h; rw [← h]; exact zi34
  have f34 : Nat.beq t 34 = false := by rw [Bool.eq_false_iff]; exact fun q => e34 (Nat.eq_of_beq_eq_true q)
  rw [f34, cond_false] at h
  by_cases e36 : t = 36
  · subst e36; rw [show Nat.beq 36 36 = true from rfl, cond_true] at h; rw [← h]; exact zi36
  have f36 : Nat.beq t 36 = false := by rw [Bool.eq_false_iff]; exact fun q => e36 (Nat.eq_of_beq_eq_true q)
  rw [f36, cond_false] at h
  by_cases e39 : t = 39
  · subst e39; rw [show Nat.beq 39 39 = true from rfl, cond_true] at h; rw [← h]; exact zi39
  have f39 : Nat.beq t 39 = false := by rw [Bool.eq_false_iff]; exact fun q => e39 (Nat.eq_of_beq_eq_true q)
  rw [f39, cond_false] at h
  by_cases e46 : t = 46
  · subst e46; rw [show Nat.beq 46 46 = true from rfl, cond_true] at h; rw [← h]; exact zi46
  have f46 : Nat.beq t 46 = false := by rw [Bool.eq_false_iff]; exact fun q => e46 (Nat.eq_of_beq_eq_true q)
  rw [f46, cond_false] at h
  by_cases e47 : t = 47
  · subst e47; rw [show Nat.beq 47 47 = true from rfl, cond_true] at h; rw [← h]; exact zi47
  have f47 : Nat.beq t 47 = false := by rw [Bool.eq_false_iff]; exact fun q => e47 (Nat.eq_of_beq_eq_true q)
  rw [f47, cond_false] at h
  by_cases e48 : t = 48
  · subst e48; rw [show Nat.beq 48 48 = true from rfl, cond_true] at h; rw [← h]; exact zi48
  have f48 : Nat.beq t 48 = false := by rw [Bool.eq_false_iff]; exact fun q => e48 (Nat.eq_of_beq_eq_true q)
  rw [f48, cond_false] at h
  by_cases e49 : t = 49
  · subst e49; rw [show Nat.beq 49 49 = true from rfl, cond_true] at h; rw [← h]; exact zi49
  have f49 : Nat.beq t 49 = false := by rw [Bool.eq_false_iff]; exact fun q => e49 (Nat.eq_of_beq_eq_true q)
  rw [f49, cond_false] at h
  by_cases e50 : t = 50
  · subst e50; rw [show Nat.beq 50 50 = true from rfl, cond_true] at h; rw [← h]; exact zi50
  have f50 : Nat.beq t 50 = false := by rw [Bool.eq_false_iff]; exact fun q => e50 (Nat.eq_of_beq_eq_true q)
  rw [f50, cond_false] at h
  by_cases e52 : t = 52
  · subst e52; rw [show Nat.beq 52 52 = true from rfl, cond_true] at h; rw [← h]; exact zi52
  have f52 : Nat.beq t 52 = false := by rw [Bool.eq_false_iff]; exact fun q => e52 (Nat.eq_of_beq_eq_true q)
  rw [f52, cond_false] at h
  by_cases e53 : t = 53
  · subst e53; rw [show Nat.beq 53 53 = true from rfl, cond_true] at h; rw [← h]; exact zi53
  have f53 : Nat.beq t 53 = false := by rw [Bool.eq_false_iff]; exact fun q => e53 (Nat.eq_of_beq_eq_true q)
  rw [f53, cond_false] at h
  by_cases e58 : t = 58
  · subst e58; rw [show Nat.beq 58 58 = true from rfl, cond_true] at h; rw [← h]; exact zi58
  have f58 : Nat.beq t 58 = false := by rw [Bool.eq_false_iff]; exact fun q => e58 (Nat.eq_of_beq_eq_true q)
  rw [f58, cond_false] at h
  by_cases e59 : t = 59
  · subst e59; rw [show Nat.beq 59 59 = true from rfl, cond_true] at h; rw [← h]; exact zi59
  have f59 : Nat.beq t 59 = false := by rw [Bool.eq_false_iff]; exact fun q => e59 (Nat.eq_of_beq_eq_true q)
  rw [f59, cond_false] at h
  by_cases e62 : t = 62
  · subst e62; rw [show Nat.beq 62 62 = true from rfl, cond_true] at h; rw [← h]; exact zi62
  have f62 : Nat.beq t 62 = false := by rw [Bool.eq_false_iff]; exact fun q => e62 (Nat.eq_of_beq_eq_true q)
  rw [f62, cond_false] at h
  by_cases e63 : t = 63
  · subst e63; rw [show Nat.beq 63 63 = true from rfl, cond_true] at h; rw [← h]; exact zi63
  have f63 : Nat.beq t 63 = false := by rw [Bool.eq_false_iff]; exact fun q => e63 (Nat.eq_of_beq_eq_true q)
  rw [f63, cond_false] at h
  by_cases e67 : t = 67
  · subst e67; rw [show Nat.beq 67 67 = true from rfl, cond_true] at h; rw [← h]; exact zi67
  have f67 : Nat.beq t 67 = false := by rw [Bool.eq_false_iff]; exact fun q => e67 (Nat.eq_of_beq_eq_true q)
  rw [f67, cond_false] at h
  by_cases e68 : t = 68
  · subst e68; rw [show Nat.beq 68 68 = true from rfl, cond_true] at h; rw [← h]; exact zi68
  have f68 : Nat.beq t 68 = false := by rw [Bool.eq_false_iff]; exact fun q => e68 (Nat.eq_of_beq_eq_true q)
  rw [f68, cond_false] at h
  by_cases e72 : t = 72
  · subst e72; rw [show Nat.beq 72 72 = true from rfl, cond_true] at h; rw [← h]; exact zi72
  have f72 : Nat.beq t 72 = false := by rw [Bool.eq_false_iff]; exact fun q => e72 (Nat.eq_of_beq_eq_true q)
  rw [f72, cond_false] at h
  by_cases e73 : t = 73
  · subst e73; rw [show Nat.beq 73 73 = true from rfl, cond_true] at h; rw [← h]; exact zi73
  have f73 : Nat.beq t 73 = false := by rw [Bool.eq_false_iff]; exact fun q => e73 (Nat.eq_of_beq_eq_true q)
  rw [f73, cond_false] at h
  by_cases e89 : t = 89
  · subst e89; rw [show Nat.beq 89 89 = true from rfl, cond_true] at h; rw [← h]; exact zi89
  have f89 : Nat.beq t 89 = false := by rw [Bool.eq_false_iff]; exact fun q => e89 (Nat.eq_of_beq_eq_true q)
  rw [f89, cond_false] at h
  by_cases e90 : t = 90
  · subst e90; rw [show Nat.beq 90 90 = true from rfl, cond_true] at h; rw [← h]; exact zi90
  have f90 : Nat.beq t 90 = false := by rw [Bool.eq_false_iff]; exact fun q => e90 (Nat.eq_of_beq_eq_true q)
  rw [f90, cond_false] at h
  by_cases e91 : t = 91
  · subst e91; rw [show Nat.beq 91 91 = true from rfl, cond_true] at h; rw [← h]; exact zi91
  have f91 : Nat.beq t 91 = false := by rw [Bool.eq_false_iff]; exact fun q => e91 (Nat.eq_of_beq_eq_true q)
  rw [f91, cond_false] at h
  by_cases e92 : t = 92
  · subst e92; rw [show Nat.beq 92 92 = true from rfl, cond_true] at h; rw [← h]; exact zi92
  have f92 : Nat.beq t 92 = false := by rw [Bool.eq_false_iff]; exact fun q => e92 (Nat.eq_of_beq_eq_true q)
  rw [f92, cond_false] at h
  by_cases e95 : t = 95
  · subst e95; rw [show Nat.beq 95 95 = true from rfl, cond_true] at h; rw [← h]; exact zi95
  have f95 : Nat.beq t 95 = false := by rw [Bool.eq_false_iff]; exact fun q => e95 (Nat.eq_of_beq_eq_true q)
  rw [f95, cond_false] at h
  by_cases e96 : t = 96
  · subst e96; rw [show Nat.beq 96 96 = true from rfl, cond_true] at h; rw [← h]; exact zi96
  have f96 : Nat.beq t 96 = false := by rw [Bool.eq_false_iff]; exact fun q => e96 (Nat.eq_of_beq_eq_true q)
  rw [f96, cond_false] at h
  by_cases e97 : t = 97
  · subst e97; rw [show Nat.beq 97 97 = true from rfl, cond_true] at h; rw [← h]; exact zi97
  have f97 : Nat.beq t 97 = false := by rw [Bool.eq_false_iff]; exact fun q => e97 (Nat.eq_of_beq_eq_true q)
  rw [f97, cond_false] at h
  by_cases e98 : t = 98
  · subst e98; rw [show Nat.beq 98 98 = true from rfl, cond_true] at h; rw [← h]; exact zi98
  have f98 : Nat.beq t 98 = false := by rw [Bool.eq_false_iff]; exact fun q => e98 (Nat.eq_of_beq_eq_true q)
  rw [f98, cond_false] at h
  by_cases e99 : t = 99
  · subst e99; rw [show Nat.beq 99 99 = true from rfl, cond_true] at h; rw [← h]; exact zi99
  have f99 : Nat.beq t 99 = false := by rw [Bool.eq_false_iff]; exact fun q => e99 (Nat.eq_of_beq_eq_true q)
  rw [f99, cond_false] at h
  by_cases e101 : t = 101
  · subst e101; rw [show Nat.beq 101 101 = true from rfl, cond_true] at h; rw [← h]; exact zi101
  have f101 : Nat.beq t 101 = false := by rw [Bool.eq_false_iff]; exact fun q => e101 (Nat.eq_of_beq_eq_true q)
  rw [f101, cond_false] at h
  by_cases e102 : t = 102
  · subst e102; rw [show Nat.beq 102 102 = true from rfl, cond_true] at h; rw [← h]; exact zi102
  have f102 : Nat.beq t 102 = false := by rw [Bool.eq_false_iff]; exact fun q => e102 (Nat.eq_of_beq_eq_true q)
  rw [f102, cond_false] at h
  by_cases e104 : t = 104
  · subst e104; rw [show Nat.beq 104 104 = true from rfl, cond_true] at h; rw [← h]; exact zi104
  have f104 : Nat.beq t 104 = false := by rw [Bool.eq_false_iff]; exact fun q => e104 (Nat.eq_of_beq_eq_true q)
  rw [f104, cond_false] at h
  by_cases e105 : t = 105
  · subst e105; rw [show Nat.beq 105 105 = true from rfl, cond_true] at h; rw [← h]; exact zi105
  have f105 : Nat.beq t 105 = false := by rw [Bool.eq_false_iff]; exact fun q => e105 (Nat.eq_of_beq_eq_true q)
  rw [f105, cond_false] at h
  by_cases e106 : t = 106
  · subst e106; rw [show Nat.beq 106 106 = true from rfl, cond_true] at h; rw [← h]; exact zi106
  have f106 : Nat.beq t 106 = false := by rw [Bool.eq_false_iff]; exact fun q => e106 (Nat.eq_of_beq_eq_true q)
  rw [f106, cond_false] at h
  by_cases e107 : t = 107
  · subst e107; rw [show Nat.beq 107 107 = true from rfl, cond_true] at h; rw [← h]; exact zi107
  have f107 : Nat.beq t 107 = false := by rw [Bool.eq_false_iff]; exact fun q => e107 (Nat.eq_of_beq_eq_true q)
  rw [f107, cond_false] at h
  by_cases e108 : t = 108
  · subst e108; rw [show Nat.beq 108 108 = true from rfl, cond_true] at h; rw [← h]; exact zi108
  have f108 : Nat.beq t 108 = false := by rw [Bool.eq_false_iff]; exact fun q => e108 (Nat.eq_of_beq_eq_true q)
  rw [f108, cond_false] at h
  cases h
theorem bi8 : BI Tryd.prog 8 [.int .i64 0, .int .i64 0, .bool false, .int .u8 0] [(0, 1), (1, 1), (2, 1), (3, 1)] := ⟨by kernel_rfl, fun w => by kernel_rfl⟩
theorem bi14 : BI Tryd.prog 14 [.string ⟨#[]⟩, .int .u64 0] [(0, 1), (1, 1)] := ⟨by kernel_rfl, fun w => by kernel_rfl⟩
theorem bi19 : BI Tryd.prog 19 [.pointer none] [(0, 1)] := ⟨by kernel_rfl, fun w => by kernel_rfl⟩
theorem bi24 : BI Tryd.prog 24 [.int .i64 0, .int .u64 0] [(0, 1), (1, 1)] := ⟨by kernel_rfl, fun w => by kernel_rfl⟩
theorem bi29 : BI Tryd.prog 29 [.int .i64 0, .int .u64 0, .bool false] [(0, 2), (2, 1)] := ⟨by kernel_rfl, fun w => by kernel_rfl⟩
theorem bi47 : BI Tryd.prog 47 [.int .u64 0, .int .u64 0] [(0, 1), (1, 1)] := ⟨by kernel_rfl, fun w => by kernel_rfl⟩
theorem bi50 : BI Tryd.prog 50 [.int .i64 0, .int .u64 0, .int .i64 0] [(0, 2), (2, 1)] := ⟨by kernel_rfl, fun w => by kernel_rfl⟩
theorem bi53 : BI Tryd.prog 53 [.int .u64 0, .int .u64 0, .int .u64 0, .int .u64 0] [(0, 2), (2, 2)] := ⟨by kernel_rfl, fun w => by kernel_rfl⟩
theorem bi59 : BI Tryd.prog 59 [.int .u64 0, .int .u64 0, .bool false] [(0, 2), (2, 1)] := ⟨by kernel_rfl, fun w => by kernel_rfl⟩
theorem bi63 : BI Tryd.prog 63 [.int .u64 0, .int .u64 0, .bool false] [(0, 2), (2, 1)] := ⟨by kernel_rfl, fun w => by kernel_rfl⟩
theorem bi91 : BI Tryd.prog 91 [.int .u8 0, .int .u8 0] [(0, 1), (1, 1)] := ⟨by kernel_rfl, fun w => by kernel_rfl⟩
theorem bi96 : BI Tryd.prog 96 [.pointer none, .pointer none, .pointer none, .string ⟨#[]⟩] [(0, 1), (1, 1), (2, 1), (3, 1)] := ⟨by kernel_rfl, fun w => by kernel_rfl⟩
theorem bi99 : BI Tryd.prog 99 [] [(0, 0)] := ⟨by kernel_rfl, fun w => by kernel_rfl⟩
theorem bi108 : BI Tryd.prog 108 [.int .u64 0, .int .u64 0, .int .u32 0, .int .u8 0, .int .u8 0, .int .u8 0, .int .u8 0, .nilFunc, .pointer none, .int .i32 0, .int .i32 0] [(0, 1), (1, 1), (2, 1), (3, 1), (4, 1), (5, 1), (6, 1), (7, 1), (8, 1), (9, 1), (10, 1)] := ⟨by kernel_rfl, fun w => by kernel_rfl⟩
def biT (t : Nat) : Option (List Value × List (Nat × Nat)) := bif Nat.beq t 8 then some ([.int .i64 0, .int .i64 0, .bool false, .int .u8 0], [(0, 1), (1, 1), (2, 1), (3, 1)]) else (bif Nat.beq t 14 then some ([.string ⟨#[]⟩, .int .u64 0], [(0, 1), (1, 1)]) else (bif Nat.beq t 19 then some ([.pointer none], [(0, 1)]) else (bif Nat.beq t 24 then some ([.int .i64 0, .int .u64 0], [(0, 1), (1, 1)]) else (bif Nat.beq t 29 then some ([.int .i64 0, .int .u64 0, .bool false], [(0, 2), (2, 1)]) else (bif Nat.beq t 47 then some ([.int .u64 0, .int .u64 0], [(0, 1), (1, 1)]) else (bif Nat.beq t 50 then some ([.int .i64 0, .int .u64 0, .int .i64 0], [(0, 2), (2, 1)]) else (bif Nat.beq t 53 then some ([.int .u64 0, .int .u64 0, .int .u64 0, .int .u64 0], [(0, 2), (2, 2)]) else (bif Nat.beq t 59 then some ([.int .u64 0, .int .u64 0, .bool false], [(0, 2), (2, 1)]) else (bif Nat.beq t 63 then some ([.int .u64 0, .int .u64 0, .bool false], [(0, 2), (2, 1)]) else (bif Nat.beq t 91 then some ([.int .u8 0, .int .u8 0], [(0, 1), (1, 1)]) else (bif Nat.beq t 96 then some ([.pointer none, .pointer none, .pointer none, .string ⟨#[]⟩], [(0, 1), (1, 1), (2, 1), (3, 1)]) else (bif Nat.beq t 99 then some ([], [(0, 0)]) else (bif Nat.beq t 108 then some ([.int .u64 0, .int .u64 0, .int .u32 0, .int .u8 0, .int .u8 0, .int .u8 0, .int .u8 0, .nilFunc, .pointer none, .int .i32 0, .int .i32 0], [(0, 1), (1, 1), (2, 1), (3, 1), (4, 1), (5, 1), (6, 1), (7, 1), (8, 1), (9, 1), (10, 1)]) else (none))))))))))))))
theorem biOf {t : Nat} {z : List Value} {pl : List (Nat × Nat)} (h : biT t = some (z, pl)) : BI Tryd.prog t z pl := by
  unfold biT at h
  by_cases e8 : t = 8
  · subst e8; rw [show Nat.beq 8 8 = true from rfl, cond_true] at h; cases h; exact bi8
  have f8 : Nat.beq t 8 = false := by rw [Bool.eq_false_iff]; exact fun q => e8 (Nat.eq_of_beq_eq_true q)
  rw [f8, cond_false] at h
  by_cases e14 : t = 14
  · subst e14; rw [show Nat.beq 14 14 = true from rfl, cond_true] at h; cases h; exact bi14
  have f14 : Nat.beq t 14 = false := by rw [Bool.eq_false_iff]; exact fun q => e14 (Nat.eq_of_beq_eq_true q)
  rw [f14, cond_false] at h
  by_cases e19 : t = 19
  · subst e19; rw [show Nat.beq 19 19 = true from rfl, cond_true] at h; cases h; exact bi19
  have f19 : Nat.beq t 19 = false := by rw [Bool.eq_false_iff]; exact fun q => e19 (Nat.eq_of_beq_eq_true q)
  rw [f19, cond_false] at h
  by_cases e24 : t = 24
  · subst e24; rw [show Nat.beq 24 24 = true from rfl, cond_true] at h; cases h; exact bi24
  have f24 : Nat.beq t 24 = false := by rw [Bool.eq_false_iff]; exact fun q => e24 (Nat.eq_of_beq_eq_true q)
  rw [f24, cond_false] at h
  by_cases e29 : t = 29
  · subst e29; rw [show Nat.beq 29 29 = true from rfl, cond_true] at h; cases h; exact bi29
  have f29 : Nat.beq t 29 = false := by rw [Bool.eq_false_iff]; exact fun q => e29 (Nat.eq_of_beq_eq_true q)
  rw [f29, cond_false] at h
  by_cases e47 : t = 47
  · subst e47; rw [show Nat.beq 47 47 = true from rfl, cond_true] at h; cases h; exact bi47
  have f47 : Nat.beq t 47 = false := by rw [Bool.eq_false_iff]; exact fun q => e47 (Nat.eq_of_beq_eq_true q)
  rw [f47, cond_false] at h
  by_cases e50 : t = 50
  · subst e50; rw [show Nat.beq 50 50 = true from rfl, cond_true] at h; cases h; exact bi50
  have f50 : Nat.beq t 50 = false := by rw [Bool.eq_false_iff]; exact fun q => e50 (Nat.eq_of_beq_eq_true q)
  rw [f50, cond_false] at h
  by_cases e53 : t = 53
  · subst e53; rw [show Nat.beq 53 53 = true from rfl, cond_true] at h; cases h; exact bi53
  have f53 : Nat.beq t 53 = false := by rw [Bool.eq_false_iff]; exact fun q => e53 (Nat.eq_of_beq_eq_true q)
  rw [f53, cond_false] at h
  by_cases e59 : t = 59
  · subst e59; rw [show Nat.beq 59 59 = true from rfl, cond_true] at h; cases h; exact bi59
  have f59 : Nat.beq t 59 = false := by rw [Bool.eq_false_iff]; exact fun q => e59 (Nat.eq_of_beq_eq_true q)
  rw [f59, cond_false] at h
  by_cases e63 : t = 63
  · subst e63; rw [show Nat.beq 63 63 = true from rfl, cond_true] at h; cases h; exact bi63
  have f63 : Nat.beq t 63 = false := by rw [Bool.eq_false_iff]; exact fun q => e63 (Nat.eq_of_beq_eq_true q)
  rw [f63, cond_false] at h
  by_cases e91 : t = 91
  · subst e91; rw [show Nat.beq 91 91 = true from rfl, cond_true] at h; cases h; exact bi91
  have f91 : Nat.beq t 91 = false := by rw [Bool.eq_false_iff]; exact fun q => e91 (Nat.eq_of_beq_eq_true q)
  rw [f91, cond_false] at h
  by_cases e96 : t = 96
  · subst e96; rw [show Nat.beq 96 96 = true from rfl, cond_true] at h; cases h; exact bi96
  have f96 : Nat.beq t 96 = false := by rw [Bool.eq_false_iff]; exact fun q => e96 (Nat.eq_of_beq_eq_true q)
  rw [f96, cond_false] at h
  by_cases e99 : t = 99
  · subst e99; rw [show Nat.beq 99 99 = true from rfl, cond_true] at h; cases h; exact bi99
  have f99 : Nat.beq t 99 = false := by rw [Bool.eq_false_iff]; exact fun q => e99 (Nat.eq_of_beq_eq_true q)
  rw [f99, cond_false] at h
  by_cases e108 : t = 108
  · subst e108; rw [show Nat.beq 108 108 = true from rfl, cond_true] at h; cases h; exact bi108
  have f108 : Nat.beq t 108 = false := by rw [Bool.eq_false_iff]; exact fun q => e108 (Nat.eq_of_beq_eq_true q)
  rw [f108, cond_false] at h
  cases h
theorem btA1 : True := trivial
theorem eqv24 {d : Nat} {x0 y0 x1 y1 : Int} : EqR Tryd.prog (d + 2) 24 (.agg #[.int .i64 x0, .int .u64 x1]) (.agg #[.int .i64 y0, .int .u64 y1]) ((x0 == y0) && ((x1 == y1) && (true))) :=
  eq_struct (d := d + 1) (xs := [.int .i64 x0, .int .u64 x1]) (ys := [.int .i64 y0, .int .u64 y1]) Tryd.underlying24 (by kernel_rfl) (FEq.one (by decide) (ti rfl) rfl rfl (eq_int (hi := ii rfl) (d := d + 0)) (FEq.one (by decide) (ti rfl) rfl rfl (eq_int (hi := ii rfl) (d := d + 0)) FEq.nil))
theorem eqA0 {x0 y0 x1 y1 : Int} : EqOK Tryd.prog 24 [.int .i64 x0, .int .u64 x1] [.int .i64 y0, .int .u64 y1] ((x0 == y0) && ((x1 == y1) && (true))) := ⟨by kernel_rfl, eqv24 (d := 9998)⟩
theorem eqv47 {d : Nat} {x0 y0 x1 y1 : Int} : EqR Tryd.prog (d + 2) 47 (.agg #[.int .u64 x0, .int .u64 x1]) (.agg #[.int .u64 y0, .int .u64 y1]) ((x0 == y0) && ((x1 == y1) && (true))) :=
  eq_struct (d := d + 1) (xs := [.int .u64 x0, .int .u64 x1]) (ys := [.int .u64 y0, .int .u64 y1]) Tryd.underlying47 (by kernel_rfl) (FEq.one (by decide) (ti rfl) rfl rfl (eq_int (hi := ii rfl) (d := d + 0)) (FEq.one (by decide) (ti rfl) rfl rfl (eq_int (hi := ii rfl) (d := d + 0)) FEq.nil))
theorem eqA1 {x0 y0 x1 y1 : Int} : EqOK Tryd.prog 47 [.int .u64 x0, .int .u64 x1] [.int .u64 y0, .int .u64 y1] ((x0 == y0) && ((x1 == y1) && (true))) := ⟨by kernel_rfl, eqv47 (d := 9998)⟩
theorem eqv50 {d : Nat} {x0 y0 x1 y1 x2 y2 : Int} : EqR Tryd.prog (d + 3) 50 (.agg #[.int .i64 x0, .int .u64 x1, .int .i64 x2]) (.agg #[.int .i64 y0, .int .u64 y1, .int .i64 y2]) (((x0 == y0) && ((x1 == y1) && (true))) && ((x2 == y2) && (true))) :=
  eq_struct (d := d + 2) (xs := [.int .i64 x0, .int .u64 x1, .int .i64 x2]) (ys := [.int .i64 y0, .int .u64 y1, .int .i64 y2]) Tryd.underlying50 (by kernel_rfl) (FEq.agg (by decide) (ti rfl) rfl rfl (eqv24 (d := d + 0)) (FEq.one (by decide) (ti rfl) rfl rfl (eq_int (hi := ii rfl) (d := d + 1)) FEq.nil))
theorem eqA2 {x0 y0 x1 y1 x2 y2 : Int} : EqOK Tryd.prog 50 [.int .i64 x0, .int .u64 x1, .int .i64 x2] [.int .i64 y0, .int .u64 y1, .int .i64 y2] (((x0 == y0) && ((x1 == y1) && (true))) && ((x2 == y2) && (true))) := ⟨by kernel_rfl, eqv50 (d := 9997)⟩
theorem eqv53 {d : Nat} {x0 y0 x1 y1 x2 y2 x3 y3 : Int} : EqR Tryd.prog (d + 3) 53 (.agg #[.int .u64 x0, .int .u64 x1, .int .u64 x2, .int .u64 x3]) (.agg #[.int .u64 y0, .int .u64 y1, .int .u64 y2, .int .u64 y3]) (((x0 == y0) && ((x1 == y1) && (true))) && (((x2 == y2) && ((x3 == y3) && (true))) && (true))) :=
  eq_struct (d := d + 2) (xs := [.int .u64 x0, .int .u64 x1, .int .u64 x2, .int .u64 x3]) (ys := [.int .u64 y0, .int .u64 y1, .int .u64 y2, .int .u64 y3]) Tryd.underlying53 (by kernel_rfl) (FEq.agg (by decide) (ti rfl) rfl rfl (eqv47 (d := d + 0)) (FEq.agg (by decide) (ti rfl) rfl rfl (eqv47 (d := d + 0)) FEq.nil))
theorem eqA3 {x0 y0 x1 y1 x2 y2 x3 y3 : Int} : EqOK Tryd.prog 53 [.int .u64 x0, .int .u64 x1, .int .u64 x2, .int .u64 x3] [.int .u64 y0, .int .u64 y1, .int .u64 y2, .int .u64 y3] (((x0 == y0) && ((x1 == y1) && (true))) && (((x2 == y2) && ((x3 == y3) && (true))) && (true))) := ⟨by kernel_rfl, eqv53 (d := 9997)⟩
theorem eqA4 : True := trivial
theorem eqA5 : True := trivial
theorem eqA6 : True := trivial
theorem eqA7 : True := trivial
theorem eqA8 : True := trivial
theorem eqA9 : True := trivial
theorem eqA10 : True := trivial
theorem eqA11 : True := trivial
theorem eqA12 : True := trivial
theorem eqA13 : True := trivial
theorem eqA14 : True := trivial
theorem eqA15 : True := trivial
end Go.Proofs.YtmgfabfmnachoaaDoor.Own
