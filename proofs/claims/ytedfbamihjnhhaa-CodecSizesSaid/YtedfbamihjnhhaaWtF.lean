/- A world made: what is known. -/
/- A walk by reckoning: the document's example of layer 24. -/
/- How long a made world's bytes are: what is known. -/
/- A world turned: numbers. -/
/- A world made: tables that grew, trees of truths. -/
/- A world turned: loops that search. -/
/- A world turned: what is known of numbers. -/
import Derived.Test.YtedfbamihjnhhaaLm7
import Derived.Test.YtedfbamihjnhhaaWtP
import Derived.Test.YtedfbamihjnhhaaFvX
import Derived.Test.YtedfbamihjnhhaaCzL
import Derived.Test.YtedfbamihjnhhaaTd6
section
namespace Go.Proofs.Ytedfbamihjnhhaa.Own
open Go Go.RowKit Go.Proofs Go.Proofs.Ytedfbamihjnhhaa.Plain
set_option linter.unusedVariables false
set_option maxRecDepth 100000
def wmF0 : SE := (.cmp .eql (.app 20031 0 (some .i64) (.cons wtL6 .nil)) (.lit .i64 0))
def wmF1 : SE := (.cmp .eql (.app 20061 0 (some .i64) (.cons wtL0 (.cons wtL5 .nil))) (.lit .i64 0))
def wmF2 : SE := (.cmp .eql (.app 20034 0 (some .i64) (.cons wtL4 (.cons (.len wtL6) .nil))) (.lit .i64 0))
def wmF11 : SE := (.cmp .eql (.app 20061 0 (some .i64) (.cons wtL0 (.cons wtL10 .nil))) (.lit .i64 0))
def wmF12 : SE := (.cmp .eql (.app 20033 0 (some .i64) (.cons wtL9 (.cons (.len wtL0) .nil))) (.lit .i64 0))
def wmF13 : SE := (.cmp .eql (.app 20034 0 (some .i64) (.cons wtL8 (.cons (.len wtL6) .nil))) (.lit .i64 0))
def wmA : List V := [.one (.sli 0 (.lvar 0)), .one (.sli 1 (.lvar 1)), .one (.sli 2 (.lvar 2)), .one (.sli 3 (.lvar 3)), .one (.opq (.ivar .u8 4))]
end Go.Proofs.Ytedfbamihjnhhaa.Own
end
section
namespace Go.Proofs.Ytedfbamihjnhhaa.Own
open Go Go.RowKit Go.Proofs
set_option linter.unusedVariables false
set_option maxRecDepth 100000
theorem awake24_pure : Pure Try.prog 28 #[] (.bool true) := pure_ev (c := cf0) (d := 300) (vs := []) (v := .one (.bool true)) ok0 (by kernel_rfl) .nil (.one .bool)
end Go.Proofs.Ytedfbamihjnhhaa.Own
end
section
namespace Go.Proofs.Ytedfbamihjnhhaa.Own
open Go Go.RowKit Go.Proofs Go.Proofs.Ytedfbamihjnhhaa.Plain
set_option linter.unusedVariables false
set_option maxRecDepth 100000
def lb (n : Int) : SE := .lone (.cons (.lit .u8 n) .nil)
def l8 (n : Int) : SE := .lcat (lb n) (.lcat (lb 0) (.lcat (lb 0) (.lcat (lb 0) (.lcat (lb 0) (.lcat (lb 0) (.lcat (lb 0) (lb 0)))))))
def cw : SE → List SE → SE
 | t, [] => t
 | t, x :: r => cw (.lcat t x) r
def csA : SE := .bin .shl .u64 (.conv .u64 (.ivar .u8 4)) (.lit .u64 56)
def csB : SE := .bin .shl .u64 (.conv .u64 (.bin .rem .u8 (.ivar .u8 4) (.lit .u8 4))) (.lit .u64 62)
def csC : SE := .bin .rem .i64 (.bin .quo .i64 (.conv .i64 (.ivar .u8 4)) (.lit .i64 4)) (.lit .i64 2)
def csD : SE := .bin .rem .i64 (.bin .quo .i64 (.conv .i64 (.ivar .u8 4)) (.lit .i64 8)) (.lit .i64 2)
def csH : SE := cw (.lbs [80, 82, 71, 49]) [l8 0, l8 0, l8 16, w8 (.conv .u64 wtL1), w8 wtL2, l8 0, l8 64, l8 0, w8 csA, l8 0, w8 csB, w8 (.conv .u64 csC), w8 (.conv .u64 csD), w8 (.conv .u64 (.len wtL0))]
def z7 : List SE := [l8 0, l8 0, l8 0, l8 0, l8 0, l8 0, l8 0]
def ct1 : SE := .lap 20091 2 (.cons wtL0 (.cons csH (.cons wtL5 .nil)))
def ctB : SE := cw ct1 [l8 0, w8 (.conv .u64 (.len wtL6))]
def ct3 : SE := .lap 20093 2 (.cons wtL6 (.cons ctB .nil))
def ct4 : SE := .lap 20094 2 (.cons wtL4 (.cons ct3 .nil))
def ctZ : SE := cw ct4 z7
def cf1 : SE := .lap 20091 2 (.cons wtL0 (.cons csH (.cons wtL10 .nil)))
def cfB : SE := .lcat cf1 (w8 (.conv .u64 (.len wtL9)))
def cf2 : SE := .lap 20092 2 (.cons wtL9 (.cons cfB .nil))
def cfC : SE := .lcat cf2 (w8 (.conv .u64 (.len wtL6)))
def cf3 : SE := .lap 20093 2 (.cons wtL6 (.cons cfC .nil))
def cf4 : SE := .lap 20094 2 (.cons wtL8 (.cons cf3 .nil))
def cfZ : SE := cw cf4 z7
def leqT (x : SE) (n : Int) : SE := .cmp .leq (.len x) (.lit .i64 n)
def czF13 : SE := (.cmp .eql (.len ctZ) (.bin .add .i64 (.bin .add .i64 (.bin .add .i64 (.bin .add .i64 (.lit .i64 188) (.bin .mul .i64 (.len wtL0) (.lit .i64 168))) (.lit .i64 0)) (.bin .mul .i64 (.len wtL6) (.lit .i64 80))) (.lit .i64 0)))
def czF28 : SE := (.cmp .eql (.len cfZ) (.bin .add .i64 (.bin .add .i64 (.bin .add .i64 (.bin .add .i64 (.lit .i64 188) (.bin .mul .i64 (.len wtL0) (.lit .i64 168))) (.bin .mul .i64 (.len wtL9) (.lit .i64 48))) (.bin .mul .i64 (.len wtL6) (.lit .i64 80))) (.lit .i64 0)))
def czF14 : SE := .cmp .leq (.lit .i64 4) (.len ctZ)
def czF29 : SE := .cmp .leq (.lit .i64 4) (.len cfZ)
def czF15 : SE := .seq (.ltk ctZ (.lit .i64 4)) (.lbs [80, 82, 71, 49])
def czF30 : SE := .seq (.ltk cfZ (.lit .i64 4)) (.lbs [80, 82, 71, 49])
def czE : List KEnt := [⟨28, [], .one (.bool true)⟩]
theorem czE_ok : ∀ k ∈ czE, KE Try.prog k := fun k hk => by
 have hk : k ∈ [(⟨28, [], .one (.bool true)⟩ : KEnt)] := hk
 simp only [List.mem_singleton] at hk; subst hk
 exact ⟨fn rfl, _, _, rfl, rfl, awake24_pure⟩
def czK : Hook := kL czE
theorem czK_ok : KOK Try.prog czK := kL_ok czE_ok
noncomputable def czRun (ds : List (SE × Bool)) : Bool := checkK (bW.loops CzL_L) CzL_T czK 300 9 wmA wtM 4 .done ds
def czD_t : List (SE × Bool) := (wtH0, true) :: [(wtF0, true), (wtF1, true), (wtF2, true), (wtF3, true), (wtF4, true), (wtF26, true), (wtF33, true), (wtF34, false), (wtF35, false), (wtF45, false), (wtF6, true), (wtF7, false), (wmF0, false), (wmF1, false), (wmF2, false), (leqT wtL0 400, true), (leqT csH 20000, true), (leqT ct1 1000000, true), (leqT ct1 100000, true), (leqT wtL6 400, true), (leqT ctB 20000, true), (leqT wtL4 400, true), (leqT ct3 20000, true), (leqT ct4 1000000, true), (leqT ct4 100000, true), (czF13, true), (czF14, true), (czF15, true)]
def czD_f : List (SE × Bool) := (wtH0, false) :: [(wtF0, true), (wtF1, true), (wtF2, true), (wtF3, true), (wtF4, true), (wtF26, true), (wtF33, true), (wtF34, false), (wtF35, false), (wtF13, true), (wtF14, false), (wtF40, false), (wtF46, false), (wtF15, true), (wtF16, false), (wmF0, false), (wmF11, false), (wmF12, false), (wmF13, false), (leqT wtL0 400, true), (leqT csH 20000, true), (leqT cf1 1000000, true), (leqT wtL9 400, true), (leqT cfB 20000, true), (leqT cf2 1000000, true), (leqT wtL6 400, true), (leqT cfC 20000, true), (leqT wtL8 400, true), (leqT cf3 20000, true), (leqT cf4 1000000, true), (leqT cf4 100000, true), (czF28, true), (czF29, true), (czF30, true)]
set_option maxHeartbeats 40000000 in
theorem czC_t : czRun czD_t = true := by kernel_rfl
set_option maxHeartbeats 40000000 in
theorem czC_f : czRun czD_f = true := by kernel_rfl
end Go.Proofs.Ytedfbamihjnhhaa.Own
end
section
namespace Go.Proofs.Ytedfbamihjnhhaa.Own
open Go Go.RowKit Go.Proofs Go.Proofs.Ytedfbamihjnhhaa.Plain
set_option linter.unusedVariables false
set_option linter.unusedSectionVars false
set_option linter.unusedSimpArgs false
set_option maxRecDepth 100000
def cmp2 (a b : Int) : Int := if a < b then -1 else if b < a then 1 else 0
def cmp4 (a0 a1 b0 b1 : Int) : Int := if cmp2 a0 b0 ≠ 0 then cmp2 a0 b0 else cmp2 a1 b1
theorem w_i {x : Int} (h : inK (some .i64) x) : IntKind.i64.wrap x = x := h
theorem w_u {x : Int} (h : inK (some .u64) x) : IntKind.u64.wrap x = x := h
theorem envOf_iv (F : Nat → List Int → List Int) (xs : List Int) (j : Nat) : (envOf F xs).iv j = xs.getD j 0 := rfl
theorem envOf_F (F : Nat → List Int → List Int) (xs : List Int) (f i : Nat) (ys : List Int) : (envOf F xs).F f i ys = (F f ys).getD i 0 := rfl
theorem g126 : FT Tr5_T126 126 = treeFn tr126 (FT Tr5_T99) := by kernel_rfl
theorem g102 : FT Tr5_T103 102 = treeFn tr102 (FT Tr5_T126) := by kernel_rfl
theorem g127 : FT Tr5_T127 127 = treeFn tr127 (FT Tr5_T102) := by kernel_rfl
theorem g103 : FT Tr5_T103 103 = treeFn tr103 (FT Tr5_T127) := by kernel_rfl
theorem g83 : FT Tr5_T83 83 = treeFn tr83 (FT Tr5_T103) := by kernel_rfl
theorem f126 (x : Int) : FT Tr5_T126 126 [x] = [0] := by
 rw [g126]; simp [treeFn, tr126, ST.get, flatV, valC, SE.val, valCmp, b2i]
theorem f127 (x : Int) : FT Tr5_T127 127 [x] = [0] := by
 rw [g127]; simp [treeFn, tr127, ST.get, flatV, valC, SE.val, valCmp, b2i]
theorem f102 {a b : Int} (ha : inK (some .i64) a) (hb : inK (some .i64) b) : FT Tr5_T103 102 [a, b] = [cmp2 a b] := by
 rw [g102]
 have e : ∀ c : Int, wrK none ((FT Tr5_T126 126 [c]).getD 0 0) = 0 := fun c => by rw [f126]; rfl
 simp only [treeFn, tr102, ST.get, SE.val, SE.vals, valCmp, b2i_ne, envOf_iv, envOf_F, List.getD_cons_zero, List.getD_cons_succ, w_i ha, w_i hb, e]
 unfold cmp2
 by_cases h1 : a < b
 ·simp [h1, flatV, valC]
 ·by_cases h2 : b < a
  ·simp [h1, h2, flatV, valC]
  ·simp [h1, h2, flatV, valC]
theorem f103 {a b : Int} (ha : inK (some .u64) a) (hb : inK (some .u64) b) : FT Tr5_T103 103 [a, b] = [cmp2 a b] := by
 rw [g103]
 have e : ∀ c : Int, wrK none ((FT Tr5_T127 127 [c]).getD 0 0) = 0 := fun c => by rw [f127]; rfl
 simp only [treeFn, tr103, ST.get, SE.val, SE.vals, valCmp, b2i_ne, envOf_iv, envOf_F, List.getD_cons_zero, List.getD_cons_succ, w_u ha, w_u hb, e]
 unfold cmp2
 by_cases h1 : a < b
 ·simp [h1, flatV, valC]
 ·by_cases h2 : b < a
  ·simp [h1, h2, flatV, valC]
  ·simp [h1, h2, flatV, valC]
theorem cmp2_in (a b : Int) : inK (some .i64) (cmp2 a b) := by
 unfold cmp2
 split
 ·rfl
 ·split <;> rfl
theorem f83 {a0 a1 b0 b1 : Int} (h0 : inK (some .i64) a0) (h1 : inK (some .u64) a1) (h2 : inK (some .i64) b0) (h3 : inK (some .u64) b1) : FT Tr5_T83 83 [a0, a1, b0, b1] = [cmp4 a0 a1 b0 b1] := by
 rw [g83]
 have z : IntKind.i64.wrap 0 = 0 := rfl
 have e1 : wrK (some .i64) ((FT Tr5_T103 102 [a0, b0]).getD 0 0) = cmp2 a0 b0 := by rw [f102 h0 h2]; exact cmp2_in _ _
 have e2 : wrK (some .i64) ((FT Tr5_T103 103 [a1, b1]).getD 0 0) = cmp2 a1 b1 := by rw [f103 h1 h3]; exact cmp2_in _ _
 simp only [treeFn, tr83, ST.get, SE.val, SE.vals, valCmp, b2i_ne, envOf_iv, envOf_F, List.getD_cons_zero, List.getD_cons_succ, w_i h0, w_i h2, w_u h1, w_u h3, e1, e2, z]
 unfold cmp4
 by_cases q1 : cmp2 a0 b0 = 0
 ·rw [if_neg (fun h => h q1), show (cmp2 a0 b0 != 0) = false by simp [q1], cond_false]
  by_cases q2 : cmp2 a1 b1 = 0
  ·rw [show (cmp2 a1 b1 != 0) = false by simp [q2], cond_false, q2]; rfl
  ·rw [show (cmp2 a1 b1 != 0) = true from bne_iff_ne.2 q2, cond_true]
   simp only [flatV, valC, List.map, SE.val, SE.vals, envOf_iv, envOf_F, List.getD_cons_zero, List.getD_cons_succ, w_u h1, w_u h3, e2]
 ·rw [if_pos q1, show (cmp2 a0 b0 != 0) = true from bne_iff_ne.2 q1, cond_true]
  simp only [flatV, valC, List.map, SE.val, SE.vals, envOf_iv, envOf_F, List.getD_cons_zero, List.getD_cons_succ, w_i h0, w_i h2, e1]
def mayN (a0 a1 : Int) : Bool := !(a0 == -9223372036854775808 && a1 == 0)
theorem g99 : FT Tr5_T83 99 = treeFn tr99 (FT Tr5_T81) := by kernel_rfl
theorem f99 {a0 a1 : Int} (h0 : inK (some .i64) a0) (h1 : inK (some .u64) a1) : FT Tr5_T83 99 [a0, a1] = [b2i (mayN a0 a1)] := by
 rw [g99]
 have w0 : IntKind.i64.wrap (-9223372036854775808) = -9223372036854775808 := rfl
 have w1 : IntKind.u64.wrap 0 = 0 := rfl
 have w2 : IntKind.i64.wrap 1 = 1 := rfl
 simp only [treeFn, tr99, ST.get, SE.val, SE.vals, valCmp, b2i_ne, envOf_iv, envOf_F, List.getD_cons_zero, List.getD_cons_succ, w_i h0, w_u h1, w0, w1, w2, flatV, valC, List.map]
 unfold mayN
 simp
theorem g77 : FT Tr5_T77 77 = treeFn tr77 (FT Tr5_T83) := by kernel_rfl
theorem f77 {a0 a1 l0 l1 m0 m1 : Int} (h0 : inK (some .i64) a0) (h1 : inK (some .u64) a1) (h2 : inK (some .i64) l0) (h3 : inK (some .u64) l1) (h4 : inK (some .i64) m0) (h5 : inK (some .u64) m1) : FT Tr5_T77 77 [a0, a1, l0, l1, m0, m1] = [b2i (mayN a0 a1 && (decide (0 ≤ cmp4 a0 a1 l0 l1) && decide (cmp4 a0 a1 m0 m1 ≤ 0)))] := by
 rw [g77]
 have z : IntKind.i64.wrap 0 = 0 := rfl
 have c4 : ∀ a b c d, inK (some .i64) (cmp4 a b c d) := fun a b c d => by unfold cmp4; split <;> exact cmp2_in _ _
 have e0 : wrK none ((FT Tr5_T83 99 [a0, a1]).getD 0 0) = b2i (mayN a0 a1) := by rw [f99 h0 h1]; cases mayN a0 a1 <;> rfl
 have e1 : wrK (some .i64) ((FT Tr5_T83 83 [a0, a1, l0, l1]).getD 0 0) = cmp4 a0 a1 l0 l1 := by rw [f83 h0 h1 h2 h3]; exact c4 _ _ _ _
 have e2 : wrK (some .i64) ((FT Tr5_T83 83 [a0, a1, m0, m1]).getD 0 0) = cmp4 a0 a1 m0 m1 := by rw [f83 h0 h1 h4 h5]; exact c4 _ _ _ _
 simp only [treeFn, tr77, ST.get, SE.val, SE.vals, valCmp, b2i_ne, envOf_iv, envOf_F, List.getD_cons_zero, List.getD_cons_succ, w_i h0, w_u h1, w_i h2, w_u h3, w_i h4, w_u h5, e0, e1, e2, z]
 cases mayN a0 a1 with
 | false => simp [flatV, valC, b2i]
 | true =>
  by_cases q : 0 ≤ cmp4 a0 a1 l0 l1
  ·rw [decide_eq_true q]
   simp only [b2i_ne, cond_true, flatV, valC, List.map, SE.val, SE.vals, valCmp, envOf_iv, envOf_F, List.getD_cons_zero, List.getD_cons_succ, w_i h0, w_u h1, w_i h4, w_u h5, e2, z, Bool.true_and]
  ·simp [q, flatV, valC, b2i]
theorem g81 : FT Tr5_T77 81 = treeFn tr81 (FT Tr5_T72) := by kernel_rfl
theorem f81 {n : Int} (h : 0 ≤ n ∧ n ≤ 1152921504606846976) : FT Tr5_T77 81 [n] = [n, 0] := by
 rw [g81]
 have w1 : IntKind.i64.wrap n = n := by rw [IntKind.wrap_i64]; omega
 have w2 : IntKind.i64.wrap (-9223372036854775807) = -9223372036854775807 := rfl
 simp only [treeFn, tr81, ST.get, flatV, valC, List.map, SE.val, envOf_iv, List.getD_cons_zero, w1, w2, show decide ((-9223372036854775807 : Int) > n) = false from decide_eq_false (by omega), cond_false]
theorem g75 : FT Lm6_T 75 = treeFn tr75 (FT Tr5_T77) := by kernel_rfl
theorem f75 {a0 a1 n : Int} (h0 : inK (some .i64) a0) (h1 : inK (some .u64) a1) (h : 0 ≤ n ∧ n ≤ 1152921504606846976) : FT Lm6_T 75 [a0, a1, n] = [b2i (mayN a0 a1 && (decide (0 ≤ cmp4 a0 a1 0 0) && decide (cmp4 a0 a1 n 0 ≤ 0)))] := by
 rw [g75]
 have w1 : IntKind.i64.wrap n = n := by rw [IntKind.wrap_i64]; omega
 have z : IntKind.i64.wrap 0 = 0 := rfl
 have u : IntKind.u64.wrap 0 = 0 := rfl
 simp only [treeFn, tr75, ST.get, flatV, valC, List.map, SE.val, SE.vals, envOf_iv, envOf_F, List.getD_cons_zero, List.getD_cons_succ, w_i h0, w_u h1, w1, wrK, f81 h, z, u]
 rw [f77 h0 h1 (show inK (some .i64) 0 from rfl) (show inK (some .u64) 0 from rfl) (show inK (some .i64) n from w1) (show inK (some .u64) 0 from rfl), List.getD_cons_zero]
 cases (mayN a0 a1 && (decide (0 ≤ cmp4 a0 a1 0 0) && decide (cmp4 a0 a1 n 0 ≤ 0))) <;> rfl
theorem g51 : FT Lm6_T 51 = treeFn tr51 (FT Tr5_T75) := by kernel_rfl
theorem f51 {x a b : Int} (h0 : inK (some .i64) x) (h1 : inK (some .i64) a) (h2 : inK (some .i64) b) (h : a ≤ x ∧ x ≤ b) : FT Lm6_T 51 [x, a, b] = [1] := by
 rw [g51]
 simp only [treeFn, tr51, ST.get, SE.val, valCmp, b2i_ne, envOf_iv, List.getD_cons_zero, List.getD_cons_succ, w_i h0, w_i h1, w_i h2]
 rw [decide_eq_true h.1, cond_true]
 simp only [flatV, valC, List.map, SE.val, valCmp, envOf_iv, List.getD_cons_zero, List.getD_cons_succ, w_i h0, w_i h2]
 rw [decide_eq_true h.2]; rfl
theorem g22 : FT Lm6_T 22 = treeFn tr22 (FT TbE_T) := by kernel_rfl
theorem f22 {n : Int} (h : 0 ≤ n ∧ n ≤ 1152921504606846976) : FT Lm6_T 22 [n] = [n, 0] := by
 rw [g22]
 have w1 : IntKind.i64.wrap n = n := by rw [IntKind.wrap_i64]; omega
 have w2 : IntKind.i64.wrap (-9223372036854775807) = -9223372036854775807 := rfl
 simp only [treeFn, tr22, ST.get, flatV, valC, List.map, SE.val, envOf_iv, List.getD_cons_zero, w1, w2, show decide ((-9223372036854775807 : Int) > n) = false from decide_eq_false (by omega), cond_false]
end Go.Proofs.Ytedfbamihjnhhaa.Own
end
section
namespace Go.Proofs.Ytedfbamihjnhhaa.Own
open Go Go.RowKit Go.Proofs Go.Proofs.Ytedfbamihjnhhaa.Plain
set_option linter.unusedVariables false
set_option linter.unusedSectionVars false
set_option linter.unusedSimpArgs false
set_option maxRecDepth 100000
/-! a table that grew says the same of what it held -/
theorem FT_drop : ∀ (n : Nat) (Tb : List Ent) (f : Nat), ((Tb.take n).all fun e => !Nat.beq f e.f) = true → FT Tb f = FT (Tb.drop n) f
 | 0, Tb, f, _ => rfl
 | n + 1, [], f, _ => rfl
 | n + 1, x :: r, f, h => by
  rw [List.take_succ_cons, List.all_cons, Bool.and_eq_true] at h
  have e : FT (x :: r) f = FT r f := by
   funext xs
   have : Nat.beq f x.f = false := by simpa using h.1
   simp only [FT, this, cond_false]
  rw [e, List.drop_succ_cons]
  exact FT_drop n r f h.2
theorem FT_hd {Tb : List Ent} {x : Ent} {r : List Ent} {f : Nat} (ht : Tb = x :: r) (h : Nat.beq f x.f = true) : FT Tb f = x.fn (FT r) := by
 subst ht
 funext xs
 simp only [FT, h, cond_true]
theorem FT_at {Tb Tb' : List Ent} {f : Nat} (n : Nat) (h : ((Tb.take n).all fun e => !Nat.beq f e.f) = true) (hd : Tb.drop n = Tb') : FT Tb f = FT Tb' f := by
 rw [FT_drop n Tb f h, hd]
def SE.fsB (p : Nat → Bool) : SE → Bool
 | .app f _ _ zs => p f && zs.fsB p
 | .lap f _ zs => p f && zs.fsB p
 | .bin _ _ a b => a.fsB p && b.fsB p
 | .cmp _ a b => a.fsB p && b.fsB p
 | .and a b => a.fsB p && b.fsB p
 | .mx _ a b => a.fsB p && b.fsB p
 | .mn _ a b => a.fsB p && b.fsB p
 | .cons a b => a.fsB p && b.fsB p
 | .seq a b => a.fsB p && b.fsB p
 | .lcat a b => a.fsB p && b.fsB p
 | .lrep a b => a.fsB p && b.fsB p
 | .ltk a b => a.fsB p && b.fsB p
 | .ldr a b => a.fsB p && b.fsB p
 | .conv _ a => a.fsB p
 | .not a => a.fsB p
 | .len a => a.fsB p
 | .lone a => a.fsB p
 | .el _ x i _ => x.fsB p && i.fsB p
 | .lset x i _ zs => x.fsB p && (i.fsB p && zs.fsB p)
 | _ => true
theorem val_ext {F G : Nat → List Int → List Int} {p : Nat → Bool} (hp : ∀ f, p f = true → F f = G f) (xs : List Int) (x : SE) (h : x.fsB p = true) : x.val (envOf F xs) = x.val (envOf G xs) ∧ x.vals (envOf F xs) = x.vals (envOf G xs) := by
 have hF : ∀ f i ys, p f = true → (envOf F xs).F f i ys = (envOf G xs).F f i ys := fun f i ys hf => by
  show (F f ys).getD i 0 = (G f ys).getD i 0
  rw [hp f hf]
 have hi : (envOf F xs).iv = (envOf G xs).iv := rfl
 have hb : (envOf F xs).bv = (envOf G xs).bv := rfl
 induction x <;> simp_all [SE.val, SE.vals, SE.fsB]
theorem val_drop {Tb Tb' : List Ent} (n : Nat) (hd : Tb.drop n = Tb') (xs : List Int) (x : SE) (h : x.fsB (fun f => (Tb.take n).all fun e => !Nat.beq f e.f) = true) : x.val (envOf (FT Tb) xs) = x.val (envOf (FT Tb') xs) :=
 (val_ext (p := fun f => (Tb.take n).all fun e => !Nat.beq f e.f) (fun f hf => FT_at n hf hd) xs x h).1
/-! trees of truths -/
section
variable {F : Nat → List Int → List Int} {zs : List Int} {x : SE} {t : ST} {q r : Bool}
theorem tf_n (hx : (x.val (envOf F zs) != 0) = !q) (ht : q = true → treeFn t F zs = [b2i r]) : treeFn (.ask x (.leaf (.one (.bool false))) t) F zs = [b2i (q && r)] := by
 unfold treeFn at ht ⊢
 simp only [ST.get, hx]
 cases q with
 | true => rw [Bool.not_true, cond_false, Bool.true_and]; exact ht rfl
 | false => rfl
theorem tf_y (hx : (x.val (envOf F zs) != 0) = q) (ht : q = true → treeFn t F zs = [b2i r]) : treeFn (.ask x t (.leaf (.one (.bool false)))) F zs = [b2i (q && r)] := by
 unfold treeFn at ht ⊢
 simp only [ST.get, hx]
 cases q with
 | true => rw [cond_true, Bool.true_and]; exact ht rfl
 | false => rfl
theorem tf_1 (hx : x.val (envOf F zs) = b2i r) : treeFn (.leaf (.one (.opq x))) F zs = [b2i r] := by
 unfold treeFn
 simp only [ST.get, flatV, List.map, valC, hx]
end
theorem wrb (b : Bool) : wrK none (b2i b) = b2i b := by cases b <;> rfl
theorem ap_b {F : Nat → List Int → List Int} {xs : List Int} {f : Nat} {zs : SE} {b : Bool} (h : F f (zs.vals (envOf F xs)) = [b2i b]) : (SE.app f 0 none zs).val (envOf F xs) = b2i b := by
 rw [v_app, h, List.getD_cons_zero, wrb]
theorem ap_n {F : Nat → List Int → List Int} {xs : List Int} {f : Nat} {zs : SE} {b : Bool} (h : F f (zs.vals (envOf F xs)) = [b2i b]) : ((SE.not (.app f 0 none zs)).val (envOf F xs) != 0) = !b := by
 rw [v_not, ap_b h, b2i_ne]
theorem ap_y {F : Nat → List Int → List Int} {xs : List Int} {f : Nat} {zs : SE} {b : Bool} (h : F f (zs.vals (envOf F xs)) = [b2i b]) : ((SE.app f 0 none zs).val (envOf F xs) != 0) = b := by
 rw [ap_b h, b2i_ne]
theorem ap_i {F : Nat → List Int → List Int} {xs : List Int} {f i : Nat} {k : IntKind} {zs : SE} {l : List Int} {v : Int} (h : F f (zs.vals (envOf F xs)) = l) (hv : l.getD i 0 = v) (hk : inK (some k) v) : (SE.app f i (some k) zs).val (envOf F xs) = v := by
 rw [v_app, h, hv]; exact hk
/-! numbers with a point, as whole numbers -/
def nn (a b : Int) : Int := a * 18446744073709551616 + b
theorem in_u {x : Int} (h : inK (some .u64) x) : 0 ≤ x ∧ x < 18446744073709551616 := by
 have : IntKind.u64.wrap x = x := h
 rw [IntKind.wrap_u64] at this; omega
theorem cmp4_ge {a0 a1 b0 b1 : Int} (h1 : inK (some .u64) a1) (h2 : inK (some .u64) b1) : decide (0 ≤ cmp4 a0 a1 b0 b1) = decide (nn b0 b1 ≤ nn a0 a1) := by
 have := in_u h1; have := in_u h2
 apply decide_eq_decide.2
 unfold cmp4 cmp2 nn
 repeat' split
 all_goals omega
theorem cmp4_le {a0 a1 b0 b1 : Int} (h1 : inK (some .u64) a1) (h2 : inK (some .u64) b1) : decide (cmp4 a0 a1 b0 b1 ≤ 0) = decide (nn a0 a1 ≤ nn b0 b1) := by
 have := in_u h1; have := in_u h2
 apply decide_eq_decide.2
 unfold cmp4 cmp2 nn
 repeat' split
 all_goals omega
theorem cmp4_in (a b c d : Int) : inK (some .i64) (cmp4 a b c d) := by unfold cmp4; split <;> exact cmp2_in _ _
def inF (a0 a1 lo hi : Int) : Bool := mayN a0 a1 && (decide (lo ≤ nn a0 a1) && decide (nn a0 a1 ≤ hi))
end Go.Proofs.Ytedfbamihjnhhaa.Own
end
section
namespace Go.Proofs.Ytedfbamihjnhhaa.Own
open Go Go.RowKit Go.Proofs Go.Proofs.Ytedfbamihjnhhaa.Plain
set_option linter.unusedVariables false
set_option linter.unusedSectionVars false
set_option linter.unusedSimpArgs false
set_option maxRecDepth 100000
def rtQ1 : RT → SE
 | .know _ _ t => rtQ1 t
 | .ask q _ _ => q
 | _ => .nil
def rtQ : RT → SE
 | .ask _ t _ => rtQ1 t
 | _ => .nil
theorem ib2_get (E : Env) : ib2T.get E = bif (SE.cmp .lss (.ivar .i64 2) (.len (.lvar 0))).val E != 0 then (bif (rtQ ib2T).val E != 0 then (some 0, ([(.ivar .i64 2)] : List SE).map (SE.val E)) else (none, ([(.lvar 0), (.lvar 1), (.bin .add .i64 (.ivar .i64 2) (.lit .i64 1))] : List SE).map (SE.val E))) else (some 1, ([(.lvar 0)] : List SE).map (SE.val E)) := rfl
theorem mr_get (E : Env) : mrT.get E = bif (SE.cmp .lss (.ivar .i64 1) (.len (.lvar 0))).val E != 0 then (bif (rtQ mrT).val E != 0 then (some 0, []) else (none, ([(.lvar 0), (.bin .add .i64 (.ivar .i64 1) (.lit .i64 1))] : List SE).map (SE.val E))) else (some 1, ([(.lvar 0)] : List SE).map (SE.val E)) := rfl
end Go.Proofs.Ytedfbamihjnhhaa.Own
end
section
namespace Go.Proofs.Ytedfbamihjnhhaa.Own
open Go Go.RowKit Go.Proofs Go.Proofs.Ytedfbamihjnhhaa.Plain
set_option linter.unusedVariables false
set_option linter.unusedSectionVars false
set_option linter.unusedSimpArgs false
set_option maxRecDepth 100000
theorem to_zero {v n : Int} (hv : inK (some .u64) v) (hp : 0 ≤ v) (hn : 1 ≤ n ∧ n ≤ 1152921504606846976) : FT Lm6_T 75 [0, v, n] = [1] := by
 rw [f75 (show inK (some .i64) 0 from rfl) hv ⟨by omega, hn.2⟩]
 have e1 : mayN 0 v = true := rfl
 have e2 : (0 : Int) ≤ cmp4 0 v 0 0 := by
  unfold cmp4 cmp2
  simp only [Int.lt_irrefl, if_false, ne_eq, not_true]
  by_cases h : (0 : Int) < v
  ·rw [if_neg (by omega), if_pos h]; decide
  ·rw [if_neg (by omega), if_neg h]; decide
 have e3 : cmp4 0 v n 0 ≤ (0 : Int) := by
  unfold cmp4 cmp2
  rw [if_pos (show (0 : Int) < n by omega), if_pos (by decide)]; decide
 rw [e1, decide_eq_true e2, decide_eq_true e3]; rfl
theorem to_int {a n : Int} (ha : 1 ≤ a ∧ a < n) (hn : n ≤ 1152921504606846976) : FT Lm6_T 75 [a, 0, n] = [1] := by
 have hi : inK (some .i64) a := by show IntKind.i64.wrap a = a; rw [IntKind.wrap_i64]; omega
 rw [f75 hi (show inK (some .u64) 0 from rfl) ⟨by omega, hn⟩]
 have e1 : mayN a 0 = true := by
  unfold mayN
  have : (a == -9223372036854775808) = false := by rw [beq_eq_false_iff_ne]; omega
  rw [this]; rfl
 have e2 : (0 : Int) ≤ cmp4 a 0 0 0 := by
  unfold cmp4 cmp2
  rw [if_neg (show ¬ a < (0 : Int) by omega), if_pos (show (0 : Int) < a by omega), if_pos (by decide)]; decide
 have e3 : cmp4 a 0 n 0 ≤ (0 : Int) := by
  unfold cmp4 cmp2
  rw [if_pos (show a < n by omega), if_pos (by decide)]; decide
 rw [e1, decide_eq_true e2, decide_eq_true e3]; rfl
theorem app_at {F : Nat → List Int → List Int} {xs : List Int} {f i : Nat} {k : Option IntKind} {zs : SE} : (SE.app f i k zs).val (envOf F xs) = wrK k ((F f (zs.vals (envOf F xs))).getD i 0) := by
 simp only [SE.val, envOf_F]
theorem eql_at {e : Env} {a b : SE} : ((SE.cmp .eql a b).val e != 0) = (a.val e == b.val e) := by
 simp only [SE.val, b2i_ne, valCmp]
theorem neq_at {e : Env} {a b : SE} : ((SE.cmp .neq a b).val e != 0) = (a.val e != b.val e) := by
 simp only [SE.val, b2i_ne, valCmp]
theorem l_i0 {e : Env} : (SE.lit .i64 0).val e = 0 := by simp only [SE.val]; rfl
theorem l_i1 {e : Env} : (SE.lit .i64 1).val e = 1 := by simp only [SE.val]; rfl
theorem l_20 {e : Env} : (SE.lit .i64 1048576).val e = 1048576 := by simp only [SE.val]; rfl
theorem u64w_in (x : Int) : inK (some .u64) (IntKind.u64.wrap x) ∧ 0 ≤ IntKind.u64.wrap x := by
 refine ⟨?_, ?_⟩
 ·show IntKind.u64.wrap (IntKind.u64.wrap x) = _
  simp only [IntKind.wrap_u64]; omega
 ·rw [IntKind.wrap_u64]; omega
section
variable (xs : List Int)
noncomputable def wtHow : Int := IntKind.u8.wrap (xs.getD 4 0)
noncomputable def wtNum : Int := IntKind.u8.wrap (xs.getD 6 0)
theorem how_in : 0 ≤ wtHow xs ∧ wtHow xs < 256 := by unfold wtHow; rw [IntKind.wrap_u8]; omega
theorem wt_c3 : (SE.bin .add .i64 (.lit .i64 1) (.bin .rem .i64 (.conv .i64 (.ivar .u8 4)) (.lit .i64 3))).val (envOf (FT Lm6_T) xs) = 1 + wtHow xs % 3 := by
 have h := how_in xs
 simp only [SE.val, valBin, envOf_iv]
 change IntKind.i64.wrap (IntKind.i64.wrap 1 + IntKind.i64.wrap ((IntKind.i64.wrap (wtHow xs)).tmod (IntKind.i64.wrap 3))) = _
 have w1 : IntKind.i64.wrap 1 = 1 := rfl
 have w3 : IntKind.i64.wrap 3 = 3 := rfl
 have w4 : IntKind.i64.wrap (wtHow xs) = wtHow xs := by rw [IntKind.wrap_i64]; omega
 rw [w1, w3, w4, Int.tmod_eq_emod_of_nonneg h.1]
 simp only [IntKind.wrap_i64]; omega
theorem wt_bit (d : Int) (hd : 1 ≤ d ∧ d ≤ 100) : (SE.bin .rem .i64 (.bin .quo .i64 (.conv .i64 (.ivar .u8 4)) (.lit .i64 d)) (.lit .i64 2)).val (envOf (FT Lm6_T) xs) = wtHow xs / d % 2 := by
 have h := how_in xs
 simp only [SE.val, valBin, envOf_iv]
 change IntKind.i64.wrap ((IntKind.i64.wrap ((IntKind.i64.wrap (wtHow xs)).tdiv (IntKind.i64.wrap d))).tmod (IntKind.i64.wrap 2)) = _
 have w1 : IntKind.i64.wrap d = d := by rw [IntKind.wrap_i64]; omega
 have w3 : IntKind.i64.wrap 2 = 2 := rfl
 have w4 : IntKind.i64.wrap (wtHow xs) = wtHow xs := by rw [IntKind.wrap_i64]; omega
 have b1 : 0 ≤ wtHow xs / d := Int.ediv_nonneg h.1 (by omega)
 have b2 : wtHow xs / d < 256 := Int.lt_of_le_of_lt (Int.ediv_le_self _ h.1) h.2
 rw [w1, w3, w4, Int.tdiv_eq_ediv_of_nonneg h.1]
 have w5 : IntKind.i64.wrap (wtHow xs / d) = wtHow xs / d := by rw [IntKind.wrap_i64]; omega
 rw [w5, Int.tmod_eq_emod_of_nonneg b1]
 simp only [IntKind.wrap_i64]; omega
theorem wt_L1 : wtL1.val (envOf (FT Lm6_T) xs) = 1 + wtHow xs % 3 := by
 have h := how_in xs
 unfold wtL1
 rw [app_at, vals_c, vals_n, wt_c3, f22 ⟨by omega, by omega⟩]
 show IntKind.i64.wrap _ = _
 rw [List.getD_cons_zero, IntKind.wrap_i64]; omega
theorem wt_L2 : wtL2.val (envOf (FT Lm6_T) xs) = 0 := by
 have h := how_in xs
 unfold wtL2
 rw [app_at, vals_c, vals_n, wt_c3, f22 ⟨by omega, by omega⟩]
 rfl
/-! what is known -/
theorem k2 : (wtF2.val (wtEnv xs) != 0) = true := by
 have h := how_in xs
 unfold wtF2 wtEnv
 rw [app_at]; simp only [vals_c, vals_n, wt_L1, wt_L2, l_20]
 rw [to_int ⟨by omega, by omega⟩ (by omega)]; rfl
theorem k3 : (wtF3.val (wtEnv xs) != 0) = true := by
 unfold wtF3 wtEnv
 rw [app_at]; simp only [vals_c, vals_n, l_i0, l_i1]
 have e : ∃ x, (SE.bin .shl .u64 (.conv .u64 (.ivar .u8 4)) (.lit .u64 56)).val (envOf (FT Lm6_T) xs) = IntKind.u64.wrap x := ⟨_, by simp only [SE.val, valBin]; rfl⟩
 obtain ⟨x, e⟩ := e
 rw [e, to_zero (u64w_in x).1 (u64w_in x).2 ⟨by omega, by omega⟩]; rfl
theorem k26 : (wtF26.val (wtEnv xs) != 0) = true := by
 unfold wtF26 wtEnv
 rw [app_at]; simp only [vals_c, vals_n, l_i0, l_i1]
 have e : ∃ x, (SE.bin .shl .u64 (.conv .u64 (.bin .rem .u8 (.ivar .u8 4) (.lit .u8 4))) (.lit .u64 62)).val (envOf (FT Lm6_T) xs) = IntKind.u64.wrap x := ⟨_, by simp only [SE.val, valBin]; rfl⟩
 obtain ⟨x, e⟩ := e
 rw [e, to_zero (u64w_in x).1 (u64w_in x).2 ⟨by omega, by omega⟩]; rfl
theorem k4 : (wtF4.val (wtEnv xs) != 0) = true := by
 have h := how_in xs
 unfold wtF4 wtEnv
 rw [app_at]; simp only [vals_c, vals_n, l_i0, l_i1, wt_bit xs 4 ⟨by omega, by omega⟩]
 rw [f51 (x := wtHow xs / 4 % 2) (a := 0) (b := 1) (by show IntKind.i64.wrap _ = _; rw [IntKind.wrap_i64]; omega) (show IntKind.i64.wrap 0 = 0 from rfl) (show IntKind.i64.wrap 1 = 1 from rfl) ⟨by omega, by omega⟩]; rfl
theorem k33 : (wtF33.val (wtEnv xs) != 0) = true := by
 have h := how_in xs
 unfold wtF33 wtEnv
 rw [app_at]; simp only [vals_c, vals_n, l_i0, l_i1, wt_bit xs 8 ⟨by omega, by omega⟩]
 rw [f51 (x := wtHow xs / 8 % 2) (a := 0) (b := 1) (by show IntKind.i64.wrap _ = _; rw [IntKind.wrap_i64]; omega) (show IntKind.i64.wrap 0 = 0 from rfl) (show IntKind.i64.wrap 1 = 1 from rfl) ⟨by omega, by omega⟩]; rfl
end
end Go.Proofs.Ytedfbamihjnhhaa.Own
end
