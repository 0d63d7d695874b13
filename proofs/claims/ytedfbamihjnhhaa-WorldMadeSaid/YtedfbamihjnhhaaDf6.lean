/- A world turned: numbers. -/
/- Contracts as trees, found by program and checked by the kernel. -/
/- The document's division, bit by bit: its loop's contract. -/
import Derived.Test.YtedfbamihjnhhaaWtP
import Derived.Test.YtedfbamihjnhhaaLm6
section
namespace Go.Proofs.Ytedfbamihjnhhaa.Own
open Go Go.RowKit Go.Proofs Go.Proofs.Ytedfbamihjnhhaa.Plain
set_option linter.unusedVariables false
set_option linter.unusedSectionVars false
set_option linter.unusedSimpArgs false
set_option maxRecDepth 100000
def cmp2 (a b : Int) : Int := if a < b then -1 else if b < a then 1 else 0
def cmp4 (a0 a1 b0 b1 : Int) : Int := if cmp2 a0 b0 ≠ 0 then cmp2 a0 b0 else cmp2 a1 b1
theorem w_i {x : Int} (h : inK (some .i64) x) : IntKind.i64.wrap x = x := h
theorem w_u {x : Int} (h : inK (some .u64) x) : IntKind.u64.wrap x = x := h
theorem envOf_iv (F : Nat → List Int → List Int) (xs : List Int) (j : Nat) : (envOf F xs).iv j = xs.getD j 0 := rfl
theorem envOf_F (F : Nat → List Int → List Int) (xs : List Int) (f i : Nat) (ys : List Int) : (envOf F xs).F f i ys = (F f ys).getD i 0 := rfl
theorem g126 : FT Tr5_T126 126 = treeFn tr126 (FT Tr5_T99) := by kernel_rfl
theorem g102 : FT Tr5_T103 102 = treeFn tr102 (FT Tr5_T126) := by kernel_rfl
theorem g127 : FT Tr5_T127 127 = treeFn tr127 (FT Tr5_T102) := by kernel_rfl
theorem g103 : FT Tr5_T103 103 = treeFn tr103 (FT Tr5_T127) := by kernel_rfl
theorem g83 : FT Tr5_T83 83 = treeFn tr83 (FT Tr5_T103) := by kernel_rfl
theorem f126 (x : Int) : FT Tr5_T126 126 [x] = [0] := by
 rw [g126]; simp [treeFn, tr126, ST.get, flatV, valC, SE.val, valCmp, b2i]
theorem f127 (x : Int) : FT Tr5_T127 127 [x] = [0] := by
 rw [g127]; simp [treeFn, tr127, ST.get, flatV, valC, SE.val, valCmp, b2i]
theorem f102 {a b : Int} (ha : inK (some .i64) a) (hb : inK (some .i64) b) : FT Tr5_T103 102 [a, b] = [cmp2 a b] := by
 rw [g102]
 have e : ∀ c : Int, wrK none ((FT Tr5_T126 126 [c]).getD 0 0) = 0 := fun c => by rw [f126]; rfl
 simp only [treeFn, tr102, ST.get, SE.val, SE.vals, valCmp, b2i_ne, envOf_iv, envOf_F, List.getD_cons_zero, List.getD_cons_succ, w_i ha, w_i hb, e]
 unfold cmp2
 by_cases h1 : a < b
 ·simp [h1, flatV, valC]
 ·by_cases h2 : b < a
  ·simp [h1, h2, flatV, valC]
  ·simp [h1, h2, flatV, valC]
theorem f103 {a b : Int} (ha : inK (some .u64) a) (hb : inK (some .u64) b) : FT Tr5_T103 103 [a, b] = [cmp2 a b] := by
 rw [g103]
 have e : ∀ c : Int, wrK none ((FT Tr5_T127 127 [c]).getD 0 0) = 0 := fun c => by rw [f127]; rfl
 simp only [treeFn, tr103, ST.get, SE.val, SE.vals, valCmp, b2i_ne, envOf_iv, envOf_F, List.getD_cons_zero, List.getD_cons_succ, w_u ha, w_u hb, e]
 unfold cmp2
 by_cases h1 : a < b
 ·simp [h1, flatV, valC]
 ·by_cases h2 : b < a
  ·simp [h1, h2, flatV, valC]
  ·simp [h1, h2, flatV, valC]
theorem cmp2_in (a b : Int) : inK (some .i64) (cmp2 a b) := by
 unfold cmp2
 split
 ·rfl
 ·split <;> rfl
theorem f83 {a0 a1 b0 b1 : Int} (h0 : inK (some .i64) a0) (h1 : inK (some .u64) a1) (h2 : inK (some .i64) b0) (h3 : inK (some .u64) b1) : FT Tr5_T83 83 [a0, a1, b0, b1] = [cmp4 a0 a1 b0 b1] := by
 rw [g83]
 have z : IntKind.i64.wrap 0 = 0 := rfl
 have e1 : wrK (some .i64) ((FT Tr5_T103 102 [a0, b0]).getD 0 0) = cmp2 a0 b0 := by rw [f102 h0 h2]; exact cmp2_in _ _
 have e2 : wrK (some .i64) ((FT Tr5_T103 103 [a1, b1]).getD 0 0) = cmp2 a1 b1 := by rw [f103 h1 h3]; exact cmp2_in _ _
 simp only [treeFn, tr83, ST.get, SE.val, SE.vals, valCmp, b2i_ne, envOf_iv, envOf_F, List.getD_cons_zero, List.getD_cons_succ, w_i h0, w_i h2, w_u h1, w_u h3, e1, e2, z]
 unfold cmp4
 by_cases q1 : cmp2 a0 b0 = 0
 ·rw [if_neg (fun h => h q1), show (cmp2 a0 b0 != 0) = false by simp [q1], cond_false]
  by_cases q2 : cmp2 a1 b1 = 0
  ·rw [show (cmp2 a1 b1 != 0) = false by simp [q2], cond_false, q2]; rfl
  ·rw [show (cmp2 a1 b1 != 0) = true from bne_iff_ne.2 q2, cond_true]
   simp only [flatV, valC, List.map, SE.val, SE.vals, envOf_iv, envOf_F, List.getD_cons_zero, List.getD_cons_succ, w_u h1, w_u h3, e2]
 ·rw [if_pos q1, show (cmp2 a0 b0 != 0) = true from bne_iff_ne.2 q1, cond_true]
  simp only [flatV, valC, List.map, SE.val, SE.vals, envOf_iv, envOf_F, List.getD_cons_zero, List.getD_cons_succ, w_i h0, w_i h2, e1]
def mayN (a0 a1 : Int) : Bool := !(a0 == -9223372036854775808 && a1 == 0)
theorem g99 : FT Tr5_T83 99 = treeFn tr99 (FT Tr5_T81) := by kernel_rfl
theorem f99 {a0 a1 : Int} (h0 : inK (some .i64) a0) (h1 : inK (some .u64) a1) : FT Tr5_T83 99 [a0, a1] = [b2i (mayN a0 a1)] := by
 rw [g99]
 have w0 : IntKind.i64.wrap (-9223372036854775808) = -9223372036854775808 := rfl
 have w1 : IntKind.u64.wrap 0 = 0 := rfl
 have w2 : IntKind.i64.wrap 1 = 1 := rfl
 simp only [treeFn, tr99, ST.get, SE.val, SE.vals, valCmp, b2i_ne, envOf_iv, envOf_F, List.getD_cons_zero, List.getD_cons_succ, w_i h0, w_u h1, w0, w1, w2, flatV, valC, List.map]
 unfold mayN
 simp
theorem g77 : FT Tr5_T77 77 = treeFn tr77 (FT Tr5_T83) := by kernel_rfl
theorem f77 {a0 a1 l0 l1 m0 m1 : Int} (h0 : inK (some .i64) a0) (h1 : inK (some .u64) a1) (h2 : inK (some .i64) l0) (h3 : inK (some .u64) l1) (h4 : inK (some .i64) m0) (h5 : inK (some .u64) m1) : FT Tr5_T77 77 [a0, a1, l0, l1, m0, m1] = [b2i (mayN a0 a1 && (decide (0 ≤ cmp4 a0 a1 l0 l1) && decide (cmp4 a0 a1 m0 m1 ≤ 0)))] := by
 rw [g77]
 have z : IntKind.i64.wrap 0 = 0 := rfl
 have c4 : ∀ a b c d, inK (some .i64) (cmp4 a b c d) := fun a b c d => by unfold cmp4; split <;> exact cmp2_in _ _
 have e0 : wrK none ((FT Tr5_T83 99 [a0, a1]).getD 0 0) = b2i (mayN a0 a1) := by rw [f99 h0 h1]; cases mayN a0 a1 <;> rfl
 have e1 : wrK (some .i64) ((FT Tr5_T83 83 [a0, a1, l0, l1]).getD 0 0) = cmp4 a0 a1 l0 l1 := by rw [f83 h0 h1 h2 h3]; exact c4 _ _ _ _
 have e2 : wrK (some .i64) ((FT Tr5_T83 83 [a0, a1, m0, m1]).getD 0 0) = cmp4 a0 a1 m0 m1 := by rw [f83 h0 h1 h4 h5]; exact c4 _ _ _ _
 simp only [treeFn, tr77, ST.get, SE.val, SE.vals, valCmp, b2i_ne, envOf_iv, envOf_F, List.getD_cons_zero, List.getD_cons_succ, w_i h0, w_u h1, w_i h2, w_u h3, w_i h4, w_u h5, e0, e1, e2, z]
 cases mayN a0 a1 with
 | false => simp [flatV, valC, b2i]
 | true =>
  by_cases q : 0 ≤ cmp4 a0 a1 l0 l1
  ·rw [decide_eq_true q]
   simp only [b2i_ne, cond_true, flatV, valC, List.map, SE.val, SE.vals, valCmp, envOf_iv, envOf_F, List.getD_cons_zero, List.getD_cons_succ, w_i h0, w_u h1, w_i h4, w_u h5, e2, z, Bool.true_and]
  ·simp [q, flatV, valC, b2i]
theorem g81 : FT Tr5_T77 81 = treeFn tr81 (FT Tr5_T72) := by kernel_rfl
theorem f81 {n : Int} (h : 0 ≤ n ∧ n ≤ 1152921504606846976) : FT Tr5_T77 81 [n] = [n, 0] := by
 rw [g81]
 have w1 : IntKind.i64.wrap n = n := by rw [IntKind.wrap_i64]; omega
 have w2 : IntKind.i64.wrap (-9223372036854775807) = -9223372036854775807 := rfl
 simp only [treeFn, tr81, ST.get, flatV, valC, List.map, SE.val, envOf_iv, List.getD_cons_zero, w1, w2, show decide ((-9223372036854775807 : Int) > n) = false from decide_eq_false (by omega), cond_false]
theorem g75 : FT Lm6_T 75 = treeFn tr75 (FT Tr5_T77) := by kernel_rfl
theorem f75 {a0 a1 n : Int} (h0 : inK (some .i64) a0) (h1 : inK (some .u64) a1) (h : 0 ≤ n ∧ n ≤ 1152921504606846976) : FT Lm6_T 75 [a0, a1, n] = [b2i (mayN a0 a1 && (decide (0 ≤ cmp4 a0 a1 0 0) && decide (cmp4 a0 a1 n 0 ≤ 0)))] := by
 rw [g75]
 have w1 : IntKind.i64.wrap n = n := by rw [IntKind.wrap_i64]; omega
 have z : IntKind.i64.wrap 0 = 0 := rfl
 have u : IntKind.u64.wrap 0 = 0 := rfl
 simp only [treeFn, tr75, ST.get, flatV, valC, List.map, SE.val, SE.vals, envOf_iv, envOf_F, List.getD_cons_zero, List.getD_cons_succ, w_i h0, w_u h1, w1, wrK, f81 h, z, u]
 rw [f77 h0 h1 (show inK (some .i64) 0 from rfl) (show inK (some .u64) 0 from rfl) (show inK (some .i64) n from w1) (show inK (some .u64) 0 from rfl), List.getD_cons_zero]
 cases (mayN a0 a1 && (decide (0 ≤ cmp4 a0 a1 0 0) && decide (cmp4 a0 a1 n 0 ≤ 0))) <;> rfl
theorem g51 : FT Lm6_T 51 = treeFn tr51 (FT Tr5_T75) := by kernel_rfl
theorem f51 {x a b : Int} (h0 : inK (some .i64) x) (h1 : inK (some .i64) a) (h2 : inK (some .i64) b) (h : a ≤ x ∧ x ≤ b) : FT Lm6_T 51 [x, a, b] = [1] := by
 rw [g51]
 simp only [treeFn, tr51, ST.get, SE.val, valCmp, b2i_ne, envOf_iv, List.getD_cons_zero, List.getD_cons_succ, w_i h0, w_i h1, w_i h2]
 rw [decide_eq_true h.1, cond_true]
 simp only [flatV, valC, List.map, SE.val, valCmp, envOf_iv, List.getD_cons_zero, List.getD_cons_succ, w_i h0, w_i h2]
 rw [decide_eq_true h.2]; rfl
theorem g22 : FT Lm6_T 22 = treeFn tr22 (FT TbE_T) := by kernel_rfl
theorem f22 {n : Int} (h : 0 ≤ n ∧ n ≤ 1152921504606846976) : FT Lm6_T 22 [n] = [n, 0] := by
 rw [g22]
 have w1 : IntKind.i64.wrap n = n := by rw [IntKind.wrap_i64]; omega
 have w2 : IntKind.i64.wrap (-9223372036854775807) = -9223372036854775807 := rfl
 simp only [treeFn, tr22, ST.get, flatV, valC, List.map, SE.val, envOf_iv, List.getD_cons_zero, w1, w2, show decide ((-9223372036854775807 : Int) > n) = false from decide_eq_false (by omega), cond_false]
end Go.Proofs.Ytedfbamihjnhhaa.Own
end
section
namespace Go.Proofs.Ytedfbamihjnhhaa.Own
open Go Go.RowKit Go.Proofs
set_option linter.unusedVariables false
set_option maxRecDepth 100000
def tr35 : ST :=
 (.ask (.cmp .lss (.ivar .u64 0) (.ivar .u64 2)) (.leaf (.one (.bool true)))
  (.ask (.cmp .eql (.ivar .u64 0) (.ivar .u64 2)) (.leaf (.one (.opq (.cmp .lss (.ivar .u64 1) (.ivar .u64 3)))))
  (.leaf (.one (.bool false)))))
noncomputable def Tr6_T35 : List Ent := ⟨35, [.agg [some .u64, some .u64], .agg [some .u64, some .u64]], .one (.one none), treeFn tr35, false⟩ :: Lm6_T
set_option maxHeartbeats 4000000 in
theorem Tr6_ok35 : TbOK Try.prog Tr6_T35 := tb_tree (b := bW.loops Lm6_L) (loops_ok bW_ok _) (lb_of Lm6_lb) (d := 300) Lm6_ok (fn rfl) (by kernel_rfl)
theorem Tr6_lb35 : LBs Try.prog Lm6_L Tr6_T35 := lbs_cons Lm6_lb (by kernel_rfl)
def tr36 : ST :=
 (.ask (.cmp .lss (.ivar .u64 1) (.ivar .u64 3)) (.leaf (.agg [(.opq (.bin .sub .u64 (.bin .sub .u64 (.ivar .u64 0) (.ivar .u64 2)) (.lit .u64 1))), (.opq (.bin .sub .u64 (.ivar .u64 1) (.ivar .u64 3))), (.opq (.app 35 0 none (.cons (.ivar .u64 0) (.cons (.ivar .u64 1) (.cons (.ivar .u64 2) (.cons (.ivar .u64 3) .nil))))))]))
  (.leaf (.agg [(.opq (.bin .sub .u64 (.bin .sub .u64 (.ivar .u64 0) (.ivar .u64 2)) (.lit .u64 0))), (.opq (.bin .sub .u64 (.ivar .u64 1) (.ivar .u64 3))), (.opq (.app 35 0 none (.cons (.ivar .u64 0) (.cons (.ivar .u64 1) (.cons (.ivar .u64 2) (.cons (.ivar .u64 3) .nil))))))])))
noncomputable def Tr6_T36 : List Ent := ⟨36, [.agg [some .u64, some .u64], .agg [some .u64, some .u64]], .one (.agg [some .u64, some .u64, none]), treeFn tr36, false⟩ :: Tr6_T35
set_option maxHeartbeats 4000000 in
theorem Tr6_ok36 : TbOK Try.prog Tr6_T36 := tb_tree (b := bW.loops Lm6_L) (loops_ok bW_ok _) (lb_of Tr6_lb35) (d := 300) Tr6_ok35 (fn rfl) (by kernel_rfl)
theorem Tr6_lb36 : LBs Try.prog Lm6_L Tr6_T36 := lbs_cons Tr6_lb35 (by kernel_rfl)
def Tr6_L : List LEnt := Lm6_L
noncomputable def Tr6_T : List Ent := Tr6_T36
theorem Tr6_ok : TbOK Try.prog Tr6_T := Tr6_ok36
theorem Tr6_lb : LBs Try.prog Lm6_L Tr6_T := Tr6_lb36
end Go.Proofs.Ytedfbamihjnhhaa.Own
end
section
namespace Go.Proofs.Ytedfbamihjnhhaa.Own
open Go Go.RowKit Go.Proofs
set_option linter.unusedVariables false
set_option linter.unusedSimpArgs false
set_option maxRecDepth 100000
def uV (i : Nat) : SE := .ivar .u64 i
def uC (i : Nat) : C := .opq (.ivar .u64 i)
def zC : C := .int .u64 0
def dfHi : SE := .bin .or .u64 (.bin .shl .u64 (.ivar .u64 4) (.lit .u64 1)) (.bin .shr .u64 (.ivar .u64 5) (.lit .u64 63))
def dfLo (i : Nat) : SE := .bin .or .u64 (.bin .shl .u64 (.ivar .u64 5) (.lit .u64 1)) (.bin .and .u64 (.bin .shr .u64 (.ivar .u64 (11 - i / 64)) (.lit .i64 (Int.ofNat (i % 64)))) (.lit .u64 1))
def dfA (i : Nat) : SE := .cons dfHi (.cons (dfLo i) (.cons (.ivar .u64 6) (.cons (.ivar .u64 7) .nil)))
def dfQ (i m : Nat) : SE := bif Nat.beq (i / 64) m then .bin .or .u64 (.ivar .u64 m) (.lit .u64 (Int.ofNat (2 ^ (i % 64)))) else .ivar .u64 m
def dfSub (i : Nat) : RT := .next [dfQ i 0, dfQ i 1, dfQ i 2, dfQ i 3, .app 36 0 (some .u64) (dfA i), .app 36 1 (some .u64) (dfA i), uV 6, uV 7, uV 8, uV 9, uV 10, uV 11]
def dfKeep (i : Nat) : RT := .next [uV 0, uV 1, uV 2, uV 3, dfHi, dfLo i, uV 6, uV 7, uV 8, uV 9, uV 10, uV 11]
def dfT (j : Nat) : RT := .ask (.cmp .eql (.bin .shr .u64 (.ivar .u64 4) (.lit .u64 63)) (.lit .u64 1)) (dfSub (255 - j)) (.ask (.not (.app 35 0 none (dfA (255 - j)))) (dfSub (255 - j)) (dfKeep (255 - j)))
def dfS (j : Nat) : List (Nat × V) := [(2, .one (.ptr 0 0)), (3, .one (.ptr 1 0)), (4, .one (.ptr 2 0)), (5, .one (.ptr 3 0)), (6, .one (.sl 4 0 4 4)), (7, .one (.int .i64 (255 - Int.ofNat j)))]
def dfM : MB := [(4, [uC 0, uC 1, uC 2, uC 3], 22, false), (3, [zC, zC, zC, zC, uC 4, uC 5, .bool true], 204, false), (2, [zC, zC, zC, zC, zC, zC, .bool false], 204, false), (1, [uC 6, uC 7], 79, false), (0, [uC 8, uC 9, uC 10, uC 11], 86, false)]
def dfIds : List SE := [uV 0, uV 1, uV 2, uV 3, uV 4, uV 5, uV 6, uV 7, uV 8, uV 9, uV 10, uV 11]
def dfOut : Out := { x := .exit 0, S := [(2, .one (.ptr 0 0)), (3, .one (.ptr 1 0)), (4, .one (.ptr 2 0)), (5, .one (.ptr 3 0)), (6, .one (.sl 4 0 4 4))], M := dfM }
def dfL : LEnt := { f := 147, id := 6, num := 14706, nx := 5, S := dfS 0, M := dfM, F := [], kk := [0, 1, 2, 3, 4], outs := [dfOut] }
def dfTT (j : Nat) : RT := bif Nat.blt j 256 then dfT j else .out 0 dfIds
noncomputable def dfG : (Nat → List Int → List Int) → List Int → List Int := lpFn dfIds dfTT (fun _ => 257)
noncomputable def dfC (j : Nat) : Bool := checkR (bW.loops Lm6_L) Tr6_T 100 dfL.f 71 (bodyOf bW.P dfL.f dfL.id) (dfS j) dfL.M [] dfL.nx (dfS (j + 1)) [dfOut] dfL.kk (dfTT j) []
set_option maxHeartbeats 4000000 in
theorem dfr0 : ((List.range 16).all fun j => dfC (0 + j)) = true := by kernel_rfl
set_option maxHeartbeats 4000000 in
theorem dfr1 : ((List.range 16).all fun j => dfC (16 + j)) = true := by kernel_rfl
set_option maxHeartbeats 4000000 in
theorem dfr2 : ((List.range 16).all fun j => dfC (32 + j)) = true := by kernel_rfl
set_option maxHeartbeats 4000000 in
theorem dfr3 : ((List.range 16).all fun j => dfC (48 + j)) = true := by kernel_rfl
set_option maxHeartbeats 4000000 in
theorem dfr4 : ((List.range 16).all fun j => dfC (64 + j)) = true := by kernel_rfl
set_option maxHeartbeats 4000000 in
theorem dfr5 : ((List.range 16).all fun j => dfC (80 + j)) = true := by kernel_rfl
set_option maxHeartbeats 4000000 in
theorem dfr6 : ((List.range 16).all fun j => dfC (96 + j)) = true := by kernel_rfl
set_option maxHeartbeats 4000000 in
theorem dfr7 : ((List.range 16).all fun j => dfC (112 + j)) = true := by kernel_rfl
set_option maxHeartbeats 4000000 in
theorem dfr8 : ((List.range 16).all fun j => dfC (128 + j)) = true := by kernel_rfl
set_option maxHeartbeats 4000000 in
theorem dfr9 : ((List.range 16).all fun j => dfC (144 + j)) = true := by kernel_rfl
set_option maxHeartbeats 4000000 in
theorem dfr10 : ((List.range 16).all fun j => dfC (160 + j)) = true := by kernel_rfl
set_option maxHeartbeats 4000000 in
theorem dfr11 : ((List.range 16).all fun j => dfC (176 + j)) = true := by kernel_rfl
set_option maxHeartbeats 4000000 in
theorem dfr12 : ((List.range 16).all fun j => dfC (192 + j)) = true := by kernel_rfl
set_option maxHeartbeats 4000000 in
theorem dfr13 : ((List.range 16).all fun j => dfC (208 + j)) = true := by kernel_rfl
set_option maxHeartbeats 4000000 in
theorem dfr14 : ((List.range 16).all fun j => dfC (224 + j)) = true := by kernel_rfl
set_option maxHeartbeats 4000000 in
theorem dfr15 : ((List.range 16).all fun j => dfC (240 + j)) = true := by kernel_rfl
theorem df_round : ∀ j, j < 256 → dfC j = true := fun j hj => by
 have key : ∀ c, c < 16 → ((List.range 16).all fun j => dfC (16 * c + j)) = true := fun c hc => by
  have h : c = 0 ∨ c = 1 ∨ c = 2 ∨ c = 3 ∨ c = 4 ∨ c = 5 ∨ c = 6 ∨ c = 7 ∨ c = 8 ∨ c = 9 ∨ c = 10 ∨ c = 11 ∨ c = 12 ∨ c = 13 ∨ c = 14 ∨ c = 15 := by omega
  rcases h with rfl | rfl | rfl | rfl | rfl | rfl | rfl | rfl | rfl | rfl | rfl | rfl | rfl | rfl | rfl | rfl
  ·exact dfr0
  ·exact dfr1
  ·exact dfr2
  ·exact dfr3
  ·exact dfr4
  ·exact dfr5
  ·exact dfr6
  ·exact dfr7
  ·exact dfr8
  ·exact dfr9
  ·exact dfr10
  ·exact dfr11
  ·exact dfr12
  ·exact dfr13
  ·exact dfr14
  ·exact dfr15
 have := List.all_eq_true.1 (key (j / 16) (by omega)) (j % 16) (List.mem_range.2 (Nat.mod_lt _ (by decide)))
 rw [Nat.div_add_mod] at this
 exact this
theorem dfr16 : dfC 256 = true := by kernel_rfl
theorem df_free : ((List.range 257).all fun j => (dfTT j).free) = true := by kernel_rfl
set_option maxHeartbeats 40000000 in
theorem df_ok : LCT Try.prog dfL (FT Tr6_T) (dfG (FT Tr6_T)) :=
 lct_of (b := bW.loops Lm6_L) (Tb := Tr6_T) (y := dfL) (M := dfM) (T := dfTT) (S := dfS) (init := dfIds) (loops_ok bW_ok _) (lb_of Tr6_lb) Tr6_ok (d := 100) (n := 71) (by kernel_rfl) (by kernel_rfl) (by kernel_rfl) (by kernel_rfl)
  (fun xs j hj => by
   by_cases h : j < 256
   ·exact df_round j h
   ·have : j = 256 := by omega
    subst this; exact dfr16)
  (fun xs _ => runOK_count (N := 256) (fun j hj => List.all_eq_true.1 df_free j (List.mem_range.2 (by omega))) (by kernel_rfl) 257 0 _ (by omega) (by omega))
theorem df_cst : Cst dfL (dfG (FT Tr6_T)) := fun xs e ys o _ ho c hc => by
 have : o = dfOut := by
  cases e with
  | zero => simpa [dfL] using ho.symm
  | succ e => simp [dfL] at ho
 subst this; cases hc
noncomputable def Df6_T : List Ent := ⟨14706, [], .tup [], dfG, true⟩ :: Tr6_T
theorem Df6_ok : TbOK Try.prog Df6_T := tb_loop Tr6_ok rfl (by kernel_rfl)
def Df6_L : List LEnt := dfL :: Tr6_L
theorem Df6_lb : LBs Try.prog Df6_L Df6_T := lbs_loop (y := dfL) Tr6_lb (by kernel_rfl) (by kernel_rfl) (by kernel_rfl) df_ok df_cst
end Go.Proofs.Ytedfbamihjnhhaa.Own
end
