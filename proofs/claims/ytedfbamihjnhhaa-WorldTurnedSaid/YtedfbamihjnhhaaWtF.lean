/- A world turned: numbers. -/
/- A world turned: what is known of numbers. -/
import Derived.Test.YtedfbamihjnhhaaWtP
section
namespace Go.Proofs.Ytedfbamihjnhhaa.Own
open Go Go.RowKit Go.Proofs Go.Proofs.Ytedfbamihjnhhaa.Plain
set_option linter.unusedVariables false
set_option linter.unusedSectionVars false
set_option linter.unusedSimpArgs false
set_option maxRecDepth 100000
def cmp2 (a b : Int) : Int := if a < b then -1 else if b < a then 1 else 0
def cmp4 (a0 a1 b0 b1 : Int) : Int := if cmp2 a0 b0 ≠ 0 then cmp2 a0 b0 else cmp2 a1 b1
theorem w_i {x : Int} (h : inK (some .i64) x) : IntKind.i64.wrap x = x := h
theorem w_u {x : Int} (h : inK (some .u64) x) : IntKind.u64.wrap x = x := h
theorem envOf_iv (F : Nat → List Int → List Int) (xs : List Int) (j : Nat) : (envOf F xs).iv j = xs.getD j 0 := rfl
theorem envOf_F (F : Nat → List Int → List Int) (xs : List Int) (f i : Nat) (ys : List Int) : (envOf F xs).F f i ys = (F f ys).getD i 0 := rfl
theorem g126 : FT Tr5_T126 126 = treeFn tr126 (FT Tr5_T99) := by kernel_rfl
theorem g102 : FT Tr5_T103 102 = treeFn tr102 (FT Tr5_T126) := by kernel_rfl
theorem g127 : FT Tr5_T127 127 = treeFn tr127 (FT Tr5_T102) := by kernel_rfl
theorem g103 : FT Tr5_T103 103 = treeFn tr103 (FT Tr5_T127) := by kernel_rfl
theorem g83 : FT Tr5_T83 83 = treeFn tr83 (FT Tr5_T103) := by kernel_rfl
theorem f126 (x : Int) : FT Tr5_T126 126 [x] = [0] := by
  rw [g126]; simp [treeFn, tr126, ST.get, flatV, valC, SE.val, valCmp, b2i]
theorem f127 (x : Int) : FT Tr5_T127 127 [x] = [0] := by
  rw [g127]; simp [treeFn, tr127, ST.get, flatV, valC, SE.val, valCmp, b2i]
theorem f102 {a b : Int} (ha : inK (some .i64) a) (hb : inK (some .i64) b) : FT Tr5_T103 102 [a, b] = [cmp2 a b] := by
  rw [g102]
  have e : ∀ c : Int, wrK none ((FT Tr5_T126 126 [c]).getD 0 0) = 0 := fun c => by rw [f126]; rfl
  simp only [treeFn, tr102, ST.get, SE.val, SE.vals, valCmp, b2i_ne, envOf_iv, envOf_F, List.getD_cons_zero, List.getD_cons_succ, w_i ha, w_i hb, e]
  unfold cmp2
  by_cases h1 : a < b
  · simp [h1, flatV, valC]
  · by_cases h2 : b < a
    · simp [h1, h2, flatV, valC]
    · simp [h1, h2, flatV, valC]
theorem f103 {a b : Int} (ha : inK (some .u64) a) (hb : inK (some .u64) b) : FT Tr5_T103 103 [a, b] = [cmp2 a b] := by
  rw [g103]
  have e : ∀ c : Int, wrK none ((FT Tr5_T127 127 [c]).getD 0 0) = 0 := fun c => by rw [f127]; rfl
  simp only [treeFn, tr103, ST.get, SE.val, SE.vals, valCmp, b2i_ne, envOf_iv, envOf_F, List.getD_cons_zero, List.getD_cons_succ, w_u ha, w_u hb, e]
  unfold cmp2
  by_cases h1 : a < b
  · simp [h1, flatV, valC]
  · by_cases h2 : b < a
    · simp [h1, h2, flatV, valC]
    · simp [h1, h2, flatV, valC]
theorem cmp2_in (a b : Int) : inK (some .i64) (cmp2 a b) := by
  unfold cmp2
  split
  · rfl
  · split <;> rfl
theorem f83 {a0 a1 b0 b1 : Int} (h0 : inK (some .i64) a0) (h1 : inK (some .u64) a1) (h2 : inK (some .i64) b0) (h3 : inK (some .u64) b1) : FT Tr5_T83 83 [a0, a1, b0, b1] = [cmp4 a0 a1 b0 b1] := by
  rw [g83]
  have z : IntKind.i64.wrap 0 = 0 := rfl
  have e1 : wrK (some .i64) ((FT Tr5_T103 102 [a0, b0]).getD 0 0) = cmp2 a0 b0 := by rw [f102 h0 h2]; exact cmp2_in _ _
  have e2 : wrK (some .i64) ((FT Tr5_T103 103 [a1, b1]).getD 0 0) = cmp2 a1 b1 := by rw [f103 h1 h3]; exact cmp2_in _ _
  simp only [treeFn, tr83, ST.get, SE.val, SE.vals, valCmp, b2i_ne, envOf_iv, envOf_F, List.getD_cons_zero, List.getD_cons_succ, w_i h0, w_i h2, w_u h1, w_u h3, e1, e2, z]
  unfold cmp4
  by_cases q1 : cmp2 a0 b0 = 0
  · rw [if_neg (fun h => h q1), show (cmp2 a0 b0 != 0) = false by simp [q1], cond_false]
    by_cases q2 : cmp2 a1 b1 = 0
    · rw [show (cmp2 a1 b1 != 0) = false by simp [q2], cond_false, q2]; rfl
    · rw [show (cmp2 a1 b1 != 0) = true from bne_iff_ne.2 q2, cond_true]
      simp only [flatV, valC, List.map, SE.val, SE.vals, envOf_iv, envOf_F, List.getD_cons_zero, List.getD_cons_succ, w_u h1, w_u h3, e2]
  · rw [if_pos q1, show (cmp2 a0 b0 != 0) = true from bne_iff_ne.2 q1, cond_true]
    simp only [flatV, valC, List.map, SE.val, SE.vals, envOf_iv, envOf_F, List.getD_cons_zero, List.getD_cons_succ, w_i h0, w_i h2, e1]
def mayN (a0 a1 : Int) : Bool := !(a0 == -9223372036854775808 && a1 == 0)
theorem g99 : FT Tr5_T83 99 = treeFn tr99 (FT Tr5_T81) := by kernel_rfl
theorem f99 {a0 a1 : Int} (h0 : inK (some .i64) a0) (h1 : inK (some .u64) a1) : FT Tr5_T83 99 [a0, a1] = [b2i (mayN a0 a1)] := by
  rw [g99]
  have w0 : IntKind.i64.wrap (-9223372036854775808) = -9223372036854775808 := rfl
  have w1 : IntKind.u64.wrap 0 = 0 := rfl
  have w2 : IntKind.i64.wrap 1 = 1 := rfl
  simp only [treeFn, tr99, ST.get, SE.val, SE.vals, valCmp, b2i_ne, envOf_iv, envOf_F, List.getD_cons_zero, List.getD_cons_succ, w_i h0, w_u h1, w0, w1, w2, flatV, valC, List.map]
  unfold mayN
  simp
theorem g77 : FT Tr5_T77 77 = treeFn tr77 (FT Tr5_T83) := by kernel_rfl
theorem f77 {a0 a1 l0 l1 m0 m1 : Int} (h0 : inK (some .i64) a0) (h1 : inK (some .u64) a1) (h2 : inK (some .i64) l0) (h3 : inK (some .u64) l1) (h4 : inK (some .i64) m0) (h5 : inK (some .u64) m1) : FT Tr5_T77 77 [a0, a1, l0, l1, m0, m1] = [b2i (mayN a0 a1 && (decide (0 ≤ cmp4 a0 a1 l0 l1) && decide (cmp4 a0 a1 m0 m1 ≤ 0)))] := by
  rw [g77]
  have z : IntKind.i64.wrap 0 = 0 := rfl
  have c4 : ∀ a b c d, inK (some .i64) (cmp4 a b c d) := fun a b c d => by unfold cmp4; split <;> exact cmp2_in _ _
  have e0 : wrK none ((FT Tr5_T83 99 [a0, a1]).getD 0 0) = b2i (mayN a0 a1) := by rw [f99 h0 h1]; cases mayN a0 a1 <;> rfl
  have e1 : wrK (some .i64) ((FT Tr5_T83 83 [a0, a1, l0, l1]).getD 0 0) = cmp4 a0 a1 l0 l1 := by rw [f83 h0 h1 h2 h3]; exact c4 _ _ _ _
  have e2 : wrK (some .i64) ((FT Tr5_T83 83 [a0, a1, m0, m1]).getD 0 0) = cmp4 a0 a1 m0 m1 := by rw [f83 h0 h1 h4 h5]; exact c4 _ _ _ _
  simp only [treeFn, tr77, ST.get, SE.val, SE.vals, valCmp, b2i_ne, envOf_iv, envOf_F, List.getD_cons_zero, List.getD_cons_succ, w_i h0, w_u h1, w_i h2, w_u h3, w_i h4, w_u h5, e0, e1, e2, z]
  cases mayN a0 a1 with
  | false => simp [flatV, valC, b2i]
  | true =>
    by_cases q : 0 ≤ cmp4 a0 a1 l0 l1
    · rw [decide_eq_true q]
      simp only [b2i_ne, cond_true, flatV, valC, List.map, SE.val, SE.vals, valCmp, envOf_iv, envOf_F, List.getD_cons_zero, List.getD_cons_succ, w_i h0, w_u h1, w_i h4, w_u h5, e2, z, Bool.true_and]
    · simp [q, flatV, valC, b2i]
theorem g81 : FT Tr5_T77 81 = treeFn tr81 (FT Tr5_T72) := by kernel_rfl
theorem f81 {n : Int} (h : 0 ≤ n ∧ n ≤ 1152921504606846976) : FT Tr5_T77 81 [n] = [n, 0] := by
  rw [g81]
  have w1 : IntKind.i64.wrap n = n := by rw [IntKind.wrap_i64]; omega
  have w2 : IntKind.i64.wrap (-9223372036854775807) = -9223372036854775807 := rfl
  simp only [treeFn, tr81, ST.get, flatV, valC, List.map, SE.val, envOf_iv, List.getD_cons_zero, w1, w2, show decide ((-9223372036854775807 : Int) > n) = false from decide_eq_false (by omega), cond_false]
theorem g75 : FT Lm6_T 75 = treeFn tr75 (FT Tr5_T77) := by kernel_rfl
theorem f75 {a0 a1 n : Int} (h0 : inK (some .i64) a0) (h1 : inK (some .u64) a1) (h : 0 ≤ n ∧ n ≤ 1152921504606846976) : FT Lm6_T 75 [a0, a1, n] = [b2i (mayN a0 a1 && (decide (0 ≤ cmp4 a0 a1 0 0) && decide (cmp4 a0 a1 n 0 ≤ 0)))] := by
  rw [g75]
  have w1 : IntKind.i64.wrap n = n := by rw [IntKind.wrap_i64]; omega
  have z : IntKind.i64.wrap 0 = 0 := rfl
  have u : IntKind.u64.wrap 0 = 0 := rfl
  simp only [treeFn, tr75, ST.get, flatV, valC, List.map, SE.val, SE.vals, envOf_iv, envOf_F, List.getD_cons_zero, List.getD_cons_succ, w_i h0, w_u h1, w1, wrK, f81 h, z, u]
  rw [f77 h0 h1 (show inK (some .i64) 0 from rfl) (show inK (some .u64) 0 from rfl) (show inK (some .i64) n from w1) (show inK (some .u64) 0 from rfl), List.getD_cons_zero]
  cases (mayN a0 a1 && (decide (0 ≤ cmp4 a0 a1 0 0) && decide (cmp4 a0 a1 n 0 ≤ 0))) <;> rfl
theorem g51 : FT Lm6_T 51 = treeFn tr51 (FT Tr5_T75) := by kernel_rfl
theorem f51 {x a b : Int} (h0 : inK (some .i64) x) (h1 : inK (some .i64) a) (h2 : inK (some .i64) b) (h : a ≤ x ∧ x ≤ b) : FT Lm6_T 51 [x, a, b] = [1] := by
  rw [g51]
  simp only [treeFn, tr51, ST.get, SE.val, valCmp, b2i_ne, envOf_iv, List.getD_cons_zero, List.getD_cons_succ, w_i h0, w_i h1, w_i h2]
  rw [decide_eq_true h.1, cond_true]
  simp only [flatV, valC, List.map, SE.val, valCmp, envOf_iv, List.getD_cons_zero, List.getD_cons_succ, w_i h0, w_i h2]
  rw [decide_eq_true h.2]; rfl
theorem g22 : FT Lm6_T 22 = treeFn tr22 (FT TbE_T) := by kernel_rfl
theorem f22 {n : Int} (h : 0 ≤ n ∧ n ≤ 1152921504606846976) : FT Lm6_T 22 [n] = [n, 0] := by
  rw [g22]
  have w1 : IntKind.i64.wrap n = n := by rw [IntKind.wrap_i64]; omega
  have w2 : IntKind.i64.wrap (-9223372036854775807) = -9223372036854775807 := rfl
  simp only [treeFn, tr22, ST.get, flatV, valC, List.map, SE.val, envOf_iv, List.getD_cons_zero, w1, w2, show decide ((-9223372036854775807 : Int) > n) = false from decide_eq_false (by omega), cond_false]
end Go.Proofs.Ytedfbamihjnhhaa.Own
end
section
namespace Go.Proofs.Ytedfbamihjnhhaa.Own
open Go Go.RowKit Go.Proofs Go.Proofs.Ytedfbamihjnhhaa.Plain
set_option linter.unusedVariables false
set_option linter.unusedSectionVars false
set_option linter.unusedSimpArgs false
set_option maxRecDepth 100000
theorem to_zero {v n : Int} (hv : inK (some .u64) v) (hp : 0 ≤ v) (hn : 1 ≤ n ∧ n ≤ 1152921504606846976) : FT Lm6_T 75 [0, v, n] = [1] := by
  rw [f75 (show inK (some .i64) 0 from rfl) hv ⟨by omega, hn.2⟩]
  have e1 : mayN 0 v = true := rfl
  have e2 : (0 : Int) ≤ cmp4 0 v 0 0 := by
    unfold cmp4 cmp2
    simp only [Int.lt_irrefl, if_false, ne_eq, not_true]
    by_cases h : (0 : Int) < v
    · rw [if_neg (by omega), if_pos h]; decide
    · rw [if_neg (by omega), if_neg h]; decide
  have e3 : cmp4 0 v n 0 ≤ (0 : Int) := by
    unfold cmp4 cmp2
    rw [if_pos (show (0 : Int) < n by omega), if_pos (by decide)]; decide
  rw [e1, decide_eq_true e2, decide_eq_true e3]; rfl
theorem to_neg {v n : Int} (hv : inK (some .u64) v) (hn : 0 ≤ n ∧ n ≤ 1152921504606846976) : FT Lm6_T 75 [-1, v, n] = [0] := by
  rw [f75 (show inK (some .i64) (-1) from rfl) hv hn]
  have e2 : ¬ (0 : Int) ≤ cmp4 (-1) v 0 0 := by
    unfold cmp4 cmp2
    rw [if_pos (show (-1 : Int) < 0 by omega), if_pos (by decide)]; decide
  rw [decide_eq_false e2]; simp [b2i]
theorem to_int {a n : Int} (ha : 1 ≤ a ∧ a < n) (hn : n ≤ 1152921504606846976) : FT Lm6_T 75 [a, 0, n] = [1] := by
  have hi : inK (some .i64) a := by show IntKind.i64.wrap a = a; rw [IntKind.wrap_i64]; omega
  rw [f75 hi (show inK (some .u64) 0 from rfl) ⟨by omega, hn⟩]
  have e1 : mayN a 0 = true := by
    unfold mayN
    have : (a == -9223372036854775808) = false := by rw [beq_eq_false_iff_ne]; omega
    rw [this]; rfl
  have e2 : (0 : Int) ≤ cmp4 a 0 0 0 := by
    unfold cmp4 cmp2
    rw [if_neg (show ¬ a < (0 : Int) by omega), if_pos (show (0 : Int) < a by omega), if_pos (by decide)]; decide
  have e3 : cmp4 a 0 n 0 ≤ (0 : Int) := by
    unfold cmp4 cmp2
    rw [if_pos (show a < n by omega), if_pos (by decide)]; decide
  rw [e1, decide_eq_true e2, decide_eq_true e3]; rfl
theorem app_at {F : Nat → List Int → List Int} {xs : List Int} {f i : Nat} {k : Option IntKind} {zs : SE} : (SE.app f i k zs).val (envOf F xs) = wrK k ((F f (zs.vals (envOf F xs))).getD i 0) := by
  simp only [SE.val, envOf_F]
theorem and_at {e : Env} {a b : SE} : ((SE.and a b).val e != 0) = ((a.val e != 0) && (b.val e != 0)) := by
  simp only [SE.val, b2i_ne]
theorem not_at {e : Env} {a : SE} : ((SE.not a).val e != 0) = !(a.val e != 0) := by
  simp only [SE.val, b2i_ne]
theorem eql_at {e : Env} {a b : SE} : ((SE.cmp .eql a b).val e != 0) = (a.val e == b.val e) := by
  simp only [SE.val, b2i_ne, valCmp]
theorem neq_at {e : Env} {a b : SE} : ((SE.cmp .neq a b).val e != 0) = (a.val e != b.val e) := by
  simp only [SE.val, b2i_ne, valCmp]
theorem l_i0 {e : Env} : (SE.lit .i64 0).val e = 0 := by simp only [SE.val]; rfl
theorem l_i1 {e : Env} : (SE.lit .i64 1).val e = 1 := by simp only [SE.val]; rfl
theorem l_im {e : Env} : (SE.lit .i64 (-1)).val e = -1 := by simp only [SE.val]; rfl
theorem l_i2 {e : Env} : (SE.lit .i64 2).val e = 2 := by simp only [SE.val]; rfl
theorem l_20 {e : Env} : (SE.lit .i64 1048576).val e = 1048576 := by simp only [SE.val]; rfl
theorem l_26 {e : Env} : (SE.lit .i64 67108864).val e = 67108864 := by simp only [SE.val]; rfl
theorem wr_none {x : Int} : wrK none x = b2i (x != 0) := by first | rfl | simp [wrK]
theorem u64w_in (x : Int) : inK (some .u64) (IntKind.u64.wrap x) ∧ 0 ≤ IntKind.u64.wrap x := by
  refine ⟨?_, ?_⟩
  · show IntKind.u64.wrap (IntKind.u64.wrap x) = _
    simp only [IntKind.wrap_u64]; omega
  · rw [IntKind.wrap_u64]; omega
section
variable (xs : List Int)
noncomputable def wtHow : Int := IntKind.u8.wrap (xs.getD 4 0)
noncomputable def wtNum : Int := IntKind.u8.wrap (xs.getD 6 0)
theorem how_in : 0 ≤ wtHow xs ∧ wtHow xs < 256 := by unfold wtHow; rw [IntKind.wrap_u8]; omega
theorem num_in : 0 ≤ wtNum xs ∧ wtNum xs < 256 := by unfold wtNum; rw [IntKind.wrap_u8]; omega
theorem wt_c3 : (SE.bin .add .i64 (.lit .i64 1) (.bin .rem .i64 (.conv .i64 (.ivar .u8 4)) (.lit .i64 3))).val (envOf (FT Lm6_T) xs) = 1 + wtHow xs % 3 := by
  have h := how_in xs
  simp only [SE.val, valBin, envOf_iv]
  change IntKind.i64.wrap (IntKind.i64.wrap 1 + IntKind.i64.wrap ((IntKind.i64.wrap (wtHow xs)).tmod (IntKind.i64.wrap 3))) = _
  have w1 : IntKind.i64.wrap 1 = 1 := rfl
  have w3 : IntKind.i64.wrap 3 = 3 := rfl
  have w4 : IntKind.i64.wrap (wtHow xs) = wtHow xs := by rw [IntKind.wrap_i64]; omega
  rw [w1, w3, w4, Int.tmod_eq_emod_of_nonneg h.1]
  simp only [IntKind.wrap_i64]; omega
theorem wt_bit (d : Int) (hd : 1 ≤ d ∧ d ≤ 100) : (SE.bin .rem .i64 (.bin .quo .i64 (.conv .i64 (.ivar .u8 4)) (.lit .i64 d)) (.lit .i64 2)).val (envOf (FT Lm6_T) xs) = wtHow xs / d % 2 := by
  have h := how_in xs
  simp only [SE.val, valBin, envOf_iv]
  change IntKind.i64.wrap ((IntKind.i64.wrap ((IntKind.i64.wrap (wtHow xs)).tdiv (IntKind.i64.wrap d))).tmod (IntKind.i64.wrap 2)) = _
  have w1 : IntKind.i64.wrap d = d := by rw [IntKind.wrap_i64]; omega
  have w3 : IntKind.i64.wrap 2 = 2 := rfl
  have w4 : IntKind.i64.wrap (wtHow xs) = wtHow xs := by rw [IntKind.wrap_i64]; omega
  have b1 : 0 ≤ wtHow xs / d := Int.ediv_nonneg h.1 (by omega)
  have b2 : wtHow xs / d < 256 := Int.lt_of_le_of_lt (Int.ediv_le_self _ h.1) h.2
  rw [w1, w3, w4, Int.tdiv_eq_ediv_of_nonneg h.1]
  have w5 : IntKind.i64.wrap (wtHow xs / d) = wtHow xs / d := by rw [IntKind.wrap_i64]; omega
  rw [w5, Int.tmod_eq_emod_of_nonneg b1]
  simp only [IntKind.wrap_i64]; omega
theorem wt_L1 : wtL1.val (envOf (FT Lm6_T) xs) = 1 + wtHow xs % 3 := by
  have h := how_in xs
  unfold wtL1
  rw [app_at, vals_c, vals_n, wt_c3, f22 ⟨by omega, by omega⟩]
  show IntKind.i64.wrap _ = _
  rw [List.getD_cons_zero, IntKind.wrap_i64]; omega
theorem wt_L2 : wtL2.val (envOf (FT Lm6_T) xs) = 0 := by
  have h := how_in xs
  unfold wtL2
  rw [app_at, vals_c, vals_n, wt_c3, f22 ⟨by omega, by omega⟩]
  rfl
/-! what is known -/
theorem k2 : (wtF2.val (wtEnv xs) != 0) = true := by
  have h := how_in xs
  unfold wtF2 wtEnv
  rw [app_at]; simp only [vals_c, vals_n, wt_L1, wt_L2, l_20]
  rw [to_int ⟨by omega, by omega⟩ (by omega)]; rfl
theorem k3 : (wtF3.val (wtEnv xs) != 0) = true := by
  unfold wtF3 wtEnv
  rw [app_at]; simp only [vals_c, vals_n, l_i0, l_i1]
  have e : ∃ x, (SE.bin .shl .u64 (.conv .u64 (.ivar .u8 4)) (.lit .u64 56)).val (envOf (FT Lm6_T) xs) = IntKind.u64.wrap x := ⟨_, by simp only [SE.val, valBin]; rfl⟩
  obtain ⟨x, e⟩ := e
  rw [e, to_zero (u64w_in x).1 (u64w_in x).2 ⟨by omega, by omega⟩]; rfl
theorem k26 : (wtF26.val (wtEnv xs) != 0) = true := by
  unfold wtF26 wtEnv
  rw [app_at]; simp only [vals_c, vals_n, l_i0, l_i1]
  have e : ∃ x, (SE.bin .shl .u64 (.conv .u64 (.bin .rem .u8 (.ivar .u8 4) (.lit .u8 4))) (.lit .u64 62)).val (envOf (FT Lm6_T) xs) = IntKind.u64.wrap x := ⟨_, by simp only [SE.val, valBin]; rfl⟩
  obtain ⟨x, e⟩ := e
  rw [e, to_zero (u64w_in x).1 (u64w_in x).2 ⟨by omega, by omega⟩]; rfl
theorem k22 : (wtF22.val (wtEnv xs) != 0) = false := by
  unfold wtF22 wtEnv
  rw [app_at]; simp only [vals_c, vals_n, l_im, l_20]
  have e : ∃ x, (SE.bin .sub .u64 (.lit .u64 18446744073709551615) (.conv .u64 (.ivar .u8 6))).val (envOf (FT Lm6_T) xs) = IntKind.u64.wrap x := ⟨_, by simp only [SE.val, valBin]; rfl⟩
  obtain ⟨x, e⟩ := e
  rw [e, to_neg (u64w_in x).1 ⟨by omega, by omega⟩]; rfl
theorem k43 : (wtF43.val (wtEnv xs) != 0) = false := by
  unfold wtF43 wtEnv
  rw [app_at]; simp only [vals_c, vals_n, l_im, l_26]
  have e : ∃ x, (SE.bin .sub .u64 (.lit .u64 18446744073709551615) (.conv .u64 (.ivar .u8 6))).val (envOf (FT Lm6_T) xs) = IntKind.u64.wrap x := ⟨_, by simp only [SE.val, valBin]; rfl⟩
  obtain ⟨x, e⟩ := e
  rw [e, to_neg (u64w_in x).1 ⟨by omega, by omega⟩]; rfl
theorem k4 : (wtF4.val (wtEnv xs) != 0) = true := by
  have h := how_in xs
  unfold wtF4 wtEnv
  rw [app_at]; simp only [vals_c, vals_n, l_i0, l_i1, wt_bit xs 4 ⟨by omega, by omega⟩]
  rw [f51 (x := wtHow xs / 4 % 2) (a := 0) (b := 1) (by show IntKind.i64.wrap _ = _; rw [IntKind.wrap_i64]; omega) (show IntKind.i64.wrap 0 = 0 from rfl) (show IntKind.i64.wrap 1 = 1 from rfl) ⟨by omega, by omega⟩]; rfl
theorem k33 : (wtF33.val (wtEnv xs) != 0) = true := by
  have h := how_in xs
  unfold wtF33 wtEnv
  rw [app_at]; simp only [vals_c, vals_n, l_i0, l_i1, wt_bit xs 8 ⟨by omega, by omega⟩]
  rw [f51 (x := wtHow xs / 8 % 2) (a := 0) (b := 1) (by show IntKind.i64.wrap _ = _; rw [IntKind.wrap_i64]; omega) (show IntKind.i64.wrap 0 = 0 from rfl) (show IntKind.i64.wrap 1 = 1 from rfl) ⟨by omega, by omega⟩]; rfl
theorem k23 : (wtF23.val (wtEnv xs) != 0) = false := by
  have h := how_in xs
  unfold wtF23 wtEnv
  rw [and_at, eql_at, wt_L1, l_im, show ((-1 : Int) == 1 + wtHow xs % 3) = false by rw [beq_eq_false_iff_ne]; omega]; rfl
theorem k24 : (wtF24.val (wtEnv xs) != 0) = true := by
  unfold wtF24; simp only [and_at, eql_at, beq_self_eq_true, Bool.true_and]
theorem k25 : (wtF25.val (wtEnv xs) != 0) = false := by
  unfold wtF25; rw [and_at, eql_at, l_i0, l_i1]; rfl
theorem k27 : (wtF27.val (wtEnv xs) != 0) = true := by
  unfold wtF27; simp only [and_at, eql_at, beq_self_eq_true, Bool.true_and]
theorem k28 : (wtF28.val (wtEnv xs) != 0) = true := by
  unfold wtF28; simp only [and_at, eql_at, beq_self_eq_true, Bool.true_and]
theorem k29 : (wtF29.val (wtEnv xs) != 0) = false := by
  have h := how_in xs
  unfold wtF29 wtEnv
  rw [eql_at, l_i2, wt_bit xs 4 ⟨by omega, by omega⟩, beq_eq_false_iff_ne]; omega
theorem k30 : (wtF30.val (wtEnv xs) != 0) = true := by
  unfold wtF30; simp only [eql_at, beq_self_eq_true]
theorem k31 : (wtF31.val (wtEnv xs) != 0) = false := by
  have h := how_in xs
  unfold wtF31 wtEnv
  rw [eql_at, l_im, wt_bit xs 8 ⟨by omega, by omega⟩, beq_eq_false_iff_ne]; omega
theorem k38 : (wtF38.val (wtEnv xs) != 0) = true := by
  unfold wtF38; simp only [eql_at, beq_self_eq_true]
theorem k44 : (wtF44.val (wtEnv xs) != 0) = false := by
  unfold wtF44; rw [and_at, eql_at, l_i0, l_im]; rfl
theorem k52 : (wtF52.val (wtEnv xs) != 0) = false := by
  unfold wtF52; rw [and_at, eql_at, l_i0, l_i1]; rfl
end
end Go.Proofs.Ytedfbamihjnhhaa.Own
end
