/- A world turned: a body that may not be. -/
/- A world turned: a body that is all fuel. -/
/- A world turned: such a body may not be. -/
/- A world turned: what is known of a body that is not as it was. -/
import Derived.Test.YtedfbamihjnhhaaWtE
section
namespace Go.Proofs.Ytedfbamihjnhhaa.Own
open Go Go.RowKit Go.Proofs Go.Proofs.Ytedfbamihjnhhaa.Plain
set_option linter.unusedVariables false
set_option linter.unusedSimpArgs false
set_option linter.unusedSectionVars false
set_option maxRecDepth 100000
section
variable {F : Nat → List Int → List Int} {zs : List Int} {x : SE} {t : ST}
theorem ask_f (h : treeFn t F zs = [0]) : treeFn (.ask x (.leaf (.one (.bool false))) t) F zs = [0] := by
  unfold treeFn at h ⊢
  simp only [ST.get]
  cases (x.val (envOf F zs) != 0) with
  | true => rfl
  | false => exact h
theorem ask_y (h : (x.val (envOf F zs) != 0) = true) : treeFn (.ask x (.leaf (.one (.bool false))) t) F zs = [0] := by
  unfold treeFn
  simp only [ST.get, h]; rfl
theorem ask_t (h : treeFn t F zs = [0]) : treeFn (.ask x t (.leaf (.one (.bool false)))) F zs = [0] := by
  unfold treeFn at h ⊢
  simp only [ST.get]
  cases (x.val (envOf F zs) != 0) with
  | false => rfl
  | true => exact h
theorem ask_n (h : (x.val (envOf F zs) != 0) = false) : treeFn (.ask x t (.leaf (.one (.bool false)))) F zs = [0] := by
  unfold treeFn
  simp only [ST.get, h]; rfl
end
theorem iu_at {F : Nat → List Int → List Int} {zs : List Int} {k : IntKind} {j : Nat} : (SE.ivar k j).val (envOf F zs) = k.wrap (zs.getD j 0) := by
  simp only [SE.val, envOf_iv]
/-! too far -/
theorem g85 : FT Tr5_T85 85 = treeFn tr85 (FT Tr5_T84) := by kernel_rfl
theorem g105 : FT Tr5_T84 105 = treeFn tr105 (FT Tr5_T104) := by kernel_rfl
theorem g83c : FT Tr5_T104 83 = treeFn tr83 (FT Tr5_T103) := by kernel_rfl
theorem g81c : FT Tr5_T104 81 = treeFn tr81 (FT Tr5_T72) := by kernel_rfl
theorem g83b : FT Tr5_T104 83 = FT Tr5_T83 83 := g83c.trans g83.symm
theorem g81b : FT Tr5_T104 81 = FT Tr5_T77 81 := g81c.trans g81.symm
theorem f85 (a b : Int) : FT Tr5_T85 85 [a, b, 1073741824, 1] = [0] := by
  have h105 : ∀ c d : Int, FT Tr5_T84 105 [c, d, 1073741824, 1, 1073741824] = [0] := fun c d => by
    rw [g105]
    refine ask_t (ask_t (ask_n ?_))
    have e : ((SE.cmp .leq (.app 83 0 (some .i64) (.cons (.ivar .i64 2) (.cons (.ivar .u64 3) (.cons (.app 81 0 (some .i64) (.cons (.ivar .i64 4) .nil)) (.cons (.app 81 1 (some .u64) (.cons (.ivar .i64 4) .nil)) .nil))))) (.lit .i64 0)).val (envOf (FT Tr5_T104) [c, d, 1073741824, 1, 1073741824]) != 0) = false := by
      have v : ∀ a b : SE, ((SE.cmp .leq a b).val (envOf (FT Tr5_T104) [c, d, 1073741824, 1, 1073741824]) != 0) = decide (a.val (envOf (FT Tr5_T104) [c, d, 1073741824, 1, 1073741824]) ≤ b.val (envOf (FT Tr5_T104) [c, d, 1073741824, 1, 1073741824])) := fun a b => by simp only [SE.val, b2i_ne, valCmp]
      rw [v, app_at, l_i0]
      simp only [vals_c, vals_n, app_at, iu_at, List.getD_cons_zero, List.getD_cons_succ]
      rw [show IntKind.i64.wrap 1073741824 = 1073741824 from rfl, show IntKind.u64.wrap 1 = 1 from rfl, g81b, f81 ⟨by decide, by decide⟩, g83b]
      rw [show wrK (some .i64) (([1073741824, 0] : List Int).getD 0 0) = 1073741824 from rfl, show wrK (some .u64) (([1073741824, 0] : List Int).getD 1 0) = 0 from rfl]
      rw [f83 (show IntKind.i64.wrap 1073741824 = 1073741824 from rfl) (show IntKind.u64.wrap 1 = 1 from rfl) (show IntKind.i64.wrap 1073741824 = 1073741824 from rfl) (show IntKind.u64.wrap 0 = 0 from rfl)]
      decide
    exact e
  rw [g85]
  simp only [treeFn, tr85, ST.get, flatV, List.map, valC]
  rw [app_at]
  simp only [vals_c, vals_n, iu_at, List.getD_cons_zero, List.getD_cons_succ]
  rw [show (SE.lit .i64 1073741824).val (envOf (FT Tr5_T84) [a, b, 1073741824, 1]) = 1073741824 by simp only [SE.val]; rfl]
  rw [show IntKind.i64.wrap 1073741824 = 1073741824 from rfl, show IntKind.u64.wrap 1 = 1 from rfl, h105]
  rfl
theorem g45 : FT Tr5_T45 45 = treeFn tr45 (FT Tr5_T85) := by kernel_rfl
theorem f45_far (zs : List Int) (h6 : IntKind.i64.wrap (zs.getD 6 0) = 1073741824) (h7 : IntKind.u64.wrap (zs.getD 7 0) = 1) : FT Tr5_T45 45 zs = [0] := by
  rw [g45]
  unfold tr45
  refine ask_f (ask_f (ask_f (ask_f (ask_f (ask_f (ask_f (ask_f (ask_f (ask_t (ask_t (ask_n ?_)))))))))))
  rw [app_at]
  simp only [vals_c, vals_n, iu_at]
  rw [h6, h7, f85]
  rfl
theorem g44 : FT Lm5_T 44 = treeFn tr44 (FT Tr5_T45) := by kernel_rfl
theorem f44_of {zs : List Int} (h : ∀ ws : List Int, (∀ j, j < 20 → ws.getD j 0 = (match kBd.getD j none with | some k => k.wrap (zs.getD j 0) | none => 0)) → FT Tr5_T45 45 ws = [0]) : FT Lm5_T 44 zs = [1] := by
  rw [g44]
  simp only [treeFn, tr44, ST.get, flatV, List.map, valC]
  have e : ∀ zs' : SE, (SE.not (.app 45 0 none zs')).val (envOf (FT Tr5_T45) zs) = b2i (!(wrK none ((FT Tr5_T45 45 (zs'.vals (envOf (FT Tr5_T45) zs))).getD 0 0) != 0)) := fun zs' => by
    simp only [SE.val, envOf_F]
  rw [e, h]
  · rfl
  · intro j hj
    simp only [vals_c, vals_n, iu_at]
    match j, hj with
    | 0, _ | 1, _ | 2, _ | 3, _ | 4, _ | 5, _ | 6, _ | 7, _ | 8, _ | 9, _ | 10, _ | 11, _ | 12, _ | 13, _ | 14, _ | 15, _ | 16, _ | 17, _ | 18, _ | 19, _ => rfl
    | (n + 20), h => omega
end Go.Proofs.Ytedfbamihjnhhaa.Own
end
section
namespace Go.Proofs.Ytedfbamihjnhhaa.Own
open Go Go.RowKit Go.Proofs Go.Proofs.Ytedfbamihjnhhaa.Plain
set_option linter.unusedVariables false
set_option linter.unusedSimpArgs false
set_option linter.unusedSectionVars false
set_option maxRecDepth 100000
theorem g65 : FT Tr5_T70 65 = treeFn tr65 (FT Tr5_T42) := by kernel_rfl
theorem g70 : FT Tr5_T70 70 = treeFn tr70 (FT Tr5_T65) := by kernel_rfl
theorem g69 : FT Tr5_T65 69 = gLsub := by kernel_rfl
theorem g100 : FT Tr5_T67 100 = treeFn tr100 (FT Tr5_T70) := by kernel_rfl
theorem g29 : FT Tr5_T67 29 = gFadd := by kernel_rfl
theorem g82 : FT Tr5_T85 82 = treeFn tr82 (FT Tr5_T67) := by kernel_rfl
theorem f65 {m : Int} (hm : inK (some .u64) m) : FT Tr5_T70 65 [0, m] = [0, m, 0] := by
  rw [g65]
  have e : ((SE.cmp .eql (.bin .shr .i64 (.ivar .i64 0) (.lit .u64 63)) (.lit .i64 0)).val (envOf (FT Tr5_T42) [0, m]) != 0) = true := by
    rw [eql_at, l_i0]
    simp only [SE.val, valBin, envOf_iv, List.getD_cons_zero]; rfl
  unfold treeFn
  simp only [tr65, ST.get, e, cond_true]
  simp only [flatV, List.map, valC, SE.val, envOf_iv, List.getD_cons_zero, List.getD_cons_succ, w_u hm]
  rfl
theorem neg_hi (n : Nat) (h : 0 < n ∧ n < 18446744073709551616) : (0 + 340282366920938463463374607431768211456 - n) / 18446744073709551616 % 18446744073709551616 = 18446744073709551615 ∧ (0 + 340282366920938463463374607431768211456 - n) % 18446744073709551616 = 18446744073709551616 - n := by omega
theorem lsub_v {m : Int} (h : 0 < m ∧ m < 18446744073709551616) : ∃ d, gLsub [0, 0, 0, m] = [18446744073709551615, 18446744073709551616 - m, d] := by
  obtain ⟨n, rfl⟩ := Int.eq_ofNat_of_zero_le (show 0 ≤ m by omega)
  have h' : 0 < n ∧ n < 18446744073709551616 := by omega
  have ea : twA [0, 0, 0, (n : Int)] = 0 := by
    show Limb.n2 0 0 = 0
    unfold Limb.n2 val2; omega
  have eb : twB [0, 0, 0, (n : Int)] = n := by
    show Limb.n2 0 (n : Int) = n
    unfold Limb.n2 val2; omega
  obtain ⟨h1, h2⟩ := neg_hi n h'
  refine ⟨b2i (decide (twA [0, 0, 0, (n : Int)] < twB [0, 0, 0, (n : Int)])), ?_⟩
  unfold gLsub
  rw [Two.of_hi, Two.of_lo, ea, eb, h1, h2]
  rw [show ((18446744073709551616 - n : Nat) : Int) = 18446744073709551616 - (n : Int) by omega]
  rfl
theorem f70 {m : Int} (h : 0 < m ∧ m < 18446744073709551616) : FT Tr5_T70 70 [0, m, 1] = [-1, 18446744073709551616 - m] := by
  have hm : inK (some .u64) m := by show IntKind.u64.wrap m = m; rw [IntKind.wrap_u64]; omega
  rw [g70]
  obtain ⟨d, hd⟩ := lsub_v h
  have e : ((SE.bvar 2).val (envOf (FT Tr5_T65) [0, m, 1]) != 0) = true := by simp only [SE.val]; rfl
  unfold treeFn
  simp only [tr70, ST.get, e, cond_true]
  simp only [flatV, List.map, valC]
  have cv : ∀ x : SE, (SE.conv .i64 x).val (envOf (FT Tr5_T65) [0, m, 1]) = IntKind.i64.wrap (x.val (envOf (FT Tr5_T65) [0, m, 1])) := fun x => by simp only [SE.val]
  have u0 : (SE.lit .u64 0).val (envOf (FT Tr5_T65) [0, m, 1]) = 0 := by simp only [SE.val]; rfl
  rw [cv, app_at, app_at]
  simp only [vals_c, vals_n, u0, iu_at, List.getD_cons_zero, List.getD_cons_succ, w_u hm]
  rw [show IntKind.u64.wrap 0 = 0 from rfl, g69, hd]
  show [IntKind.i64.wrap (IntKind.u64.wrap _), IntKind.u64.wrap _] = _
  simp only [List.getD_cons_zero, List.getD_cons_succ]
  rw [show IntKind.i64.wrap (IntKind.u64.wrap 18446744073709551615) = -1 from rfl, show IntKind.u64.wrap (18446744073709551616 - m) = 18446744073709551616 - m by rw [IntKind.wrap_u64]; omega]
theorem f100 {m : Int} (h : 0 < m ∧ m < 18446744073709551616) : FT Tr5_T67 100 [0, m] = [-1, 18446744073709551616 - m] := by
  have hm : inK (some .u64) m := by show IntKind.u64.wrap m = m; rw [IntKind.wrap_u64]; omega
  rw [g100]
  unfold treeFn
  simp only [tr100, ST.get, flatV, List.map, valC]
  have nt : ∀ x : SE, (SE.not x).val (envOf (FT Tr5_T70) [0, m]) = b2i (!(x.val (envOf (FT Tr5_T70) [0, m]) != 0)) := fun x => by simp only [SE.val]
  rw [app_at, app_at]
  simp only [vals_c, vals_n, nt, app_at, iu_at, List.getD_cons_zero, List.getD_cons_succ, w_u hm]
  rw [show IntKind.i64.wrap 0 = 0 from rfl, f65 hm]
  simp only [List.getD_cons_zero, List.getD_cons_succ]
  rw [show wrK (some .u64) 0 = 0 from rfl, show wrK (some .u64) m = m from hm, show b2i (!(wrK none 0 != 0)) = 1 from rfl, f70 h]
  show [IntKind.i64.wrap (-1), IntKind.u64.wrap (18446744073709551616 - m)] = _
  rw [show IntKind.i64.wrap (-1) = -1 from rfl, show IntKind.u64.wrap (18446744073709551616 - m) = 18446744073709551616 - m by rw [IntKind.wrap_u64]; omega]
end Go.Proofs.Ytedfbamihjnhhaa.Own
end
section
namespace Go.Proofs.Ytedfbamihjnhhaa.Own
open Go Go.RowKit Go.Proofs Go.Proofs.Ytedfbamihjnhhaa.Plain
set_option linter.unusedVariables false
set_option linter.unusedSimpArgs false
set_option linter.unusedSectionVars false
set_option maxRecDepth 100000
theorem fadd_neg {m : Int} (h : 0 < m ∧ m < 18446744073709551616) : gFadd [0, m, -1, 18446744073709551616 - m] = [0, 0, 0] := by
  have hm : inK (some .u64) m := by show IntKind.u64.wrap m = m; rw [IntKind.wrap_u64]; omega
  have hk : inK (some .u64) (18446744073709551616 - m) := by show IntKind.u64.wrap _ = _; rw [IntKind.wrap_u64]; omega
  have z : inK (some .i64) 0 := show IntKind.i64.wrap 0 = 0 from rfl
  have n1 : inK (some .i64) (-1) := show IntKind.i64.wrap (-1) = -1 from rfl
  have b1 : (fxW 0 m).below = false := by unfold Fx.below; rw [fxW_hi z hm]; rfl
  have b2 : (fxW (-1) (18446744073709551616 - m)).below = true := by unfold Fx.below; rw [fxW_hi n1 hk]; rfl
  have e : fadd (fxW 0 m) (fxW (-1) (18446744073709551616 - m)) = (Fx.of 0, 0) := by
    unfold fadd
    rw [b1, b2, if_neg (by decide), fxW_n z hm, fxW_n n1 hk]
    rw [show 0 * 18446744073709551616 + m + (-1 * 18446744073709551616 + (18446744073709551616 - m)) = 0 by omega]
  unfold gFadd
  simp only [List.getD_cons_zero, List.getD_cons_succ, e]
  rfl
theorem f82 {m : Int} (h : 0 < m ∧ m < 18446744073709551616) : FT Tr5_T85 82 [0, m, 0, m] = [0, 0, 0] := by
  have hm : inK (some .u64) m := by show IntKind.u64.wrap m = m; rw [IntKind.wrap_u64]; omega
  have hk : inK (some .u64) (18446744073709551616 - m) := by show IntKind.u64.wrap _ = _; rw [IntKind.wrap_u64]; omega
  rw [g82]
  unfold treeFn
  simp only [tr82, ST.get, flatV, flatVs, List.map, valC, List.cons_append, List.nil_append, List.append_nil]
  simp only [app_at, vals_c, vals_n, iu_at, List.getD_cons_zero, List.getD_cons_succ, w_u hm]
  rw [show IntKind.i64.wrap 0 = 0 from rfl, f100 h]
  simp only [List.getD_cons_zero, List.getD_cons_succ]
  rw [show wrK (some .i64) (-1) = -1 from rfl, show wrK (some .u64) (18446744073709551616 - m) = 18446744073709551616 - m from hk, g29, fadd_neg h]
  rfl
theorem g83d : FT Tr5_T85 83 = treeFn tr83 (FT Tr5_T103) := by kernel_rfl
theorem g77d : FT Tr5_T85 77 = treeFn tr77 (FT Tr5_T83) := by kernel_rfl
theorem f45_dry (zs : List Int) {m : Int} (hm : inK (some .u64) m) (hp : 0 ≤ m) (h0 : IntKind.i64.wrap (zs.getD 0 0) = 0) (h1 : IntKind.u64.wrap (zs.getD 1 0) = m) (h12 : IntKind.i64.wrap (zs.getD 12 0) = 0) (h13 : IntKind.u64.wrap (zs.getD 13 0) = m) : FT Tr5_T45 45 zs = [0] := by
  have hb := inK_u64 hm
  have zi : IntKind.i64.wrap 0 = 0 := rfl
  have zu : IntKind.u64.wrap 0 = 0 := rfl
  have u48 : (SE.lit .u64 281474976710656).val (envOf (FT Tr5_T85) zs) = 281474976710656 := by simp only [SE.val]; rfl
  have u0 : (SE.lit .u64 0).val (envOf (FT Tr5_T85) zs) = 0 := by simp only [SE.val]; rfl
  rw [g45]
  unfold tr45
  by_cases hz : m = 0
  · subst hz
    refine ask_f (ask_f (ask_y ?_))
    rw [not_at, app_at]
    simp only [vals_c, vals_n, iu_at, h0, h1, l_i0, u48, u0, l_20]
    rw [g77d, ← g77, f77 zi zu zi (show IntKind.u64.wrap 281474976710656 = 281474976710656 from rfl) (show IntKind.i64.wrap 1048576 = 1048576 from rfl) zu]
    rfl
  · refine ask_f (ask_f (ask_f (ask_f (ask_f (ask_y ?_)))))
    have v : ∀ a b : SE, ((SE.cmp .lss a b).val (envOf (FT Tr5_T85) zs) != 0) = decide (a.val (envOf (FT Tr5_T85) zs) < b.val (envOf (FT Tr5_T85) zs)) := fun a b => by simp only [SE.val, b2i_ne, valCmp]
    rw [v, l_i0, app_at]
    simp only [vals_c, vals_n, app_at, iu_at, h0, h1, h12, h13, l_i0, u48]
    rw [f82 ⟨by omega, hb.2⟩]
    rw [show wrK (some .i64) (([0, 0, 0] : List Int).getD 0 0) = 0 from rfl, show wrK (some .u64) (([0, 0, 0] : List Int).getD 1 0) = 0 from rfl, g83d, ← g83, f83 zi zu zi (show IntKind.u64.wrap 281474976710656 = 281474976710656 from rfl)]
    decide
theorem ib2_el (F : Nat → List Int → List Int) (l b : Int) (k : Nat) (hk : k ≤ 1000000) (kk : Option IntKind) (j : Nat) : (SE.el kk (.lvar 1) (.ivar .i64 2) j).val (envOf F ([l, b] ++ [(k : Int)])) = wrK kk (((dec b).getD k []).getD j 0) := by
  have hi := iv_at (F := F) (xs := [l, b] ++ [(k : Int)]) (c := 2) (i := k) rfl (by omega)
  rw [el_v hi, lvar_at]; rfl
theorem ib2_q (l b : Int) (k : Nat) (hk : k ≤ 1000000) (h : ∀ ws : List Int, (∀ j, j < 20 → ws.getD j 0 = (match kBd.getD j none with | some q => q.wrap (wrK (some q) (((dec b).getD k []).getD j 0)) | none => 0)) → FT Tr5_T45 45 ws = [0]) : ((rtQ ib2T).val (envOf (FT Lm5_T) ([l, b] ++ [(k : Int)])) != 0) = true := by
  simp only [ib2T, rtQ, rtQ1]
  rw [app_at]
  simp only [vals_c, vals_n, ib2_el (FT Lm5_T) l b k hk]
  rw [f44_of]
  · rfl
  · intro ws hw
    refine h ws fun j hj => ?_
    rw [hw j hj]
    match j, hj with
    | 0, _ | 1, _ | 2, _ | 3, _ | 4, _ | 5, _ | 6, _ | 7, _ | 8, _ | 9, _ | 10, _ | 11, _ | 12, _ | 13, _ | 14, _ | 15, _ | 16, _ | 17, _ | 18, _ | 19, _ => rfl
    | (n + 20), h => omega
end Go.Proofs.Ytedfbamihjnhhaa.Own
end
section
namespace Go.Proofs.Ytedfbamihjnhhaa.Own
open Go Go.RowKit Go.Proofs Go.Proofs.Ytedfbamihjnhhaa.Plain
set_option linter.unusedVariables false
set_option linter.unusedSimpArgs false
set_option linter.unusedSectionVars false
set_option maxRecDepth 100000
theorem uw2 (x : Int) : IntKind.u64.wrap (IntKind.u64.wrap x) = IntKind.u64.wrap x := (u64w_in x).1
section
variable {xs : List Int} (hl : WtLen xs) (h0 : 0 < (dec (wtL0.val (wtEnv xs))).length) {B : SE} (hB : (dec (B.val (wtEnv xs))).length = (dec (wtL0.val (wtEnv xs))).length) (hr : BdR ((dec (B.val (wtEnv xs))).getD (wtPl xs) []))
include hl h0 hB hr
theorem s14_may : ∃ i : Nat, ib2G (FT Lm5_T) [wtL0.val (wtEnv xs), (wtS14 B).val (wtEnv xs)] = [0, (i : Int)] ∧ i < (dec (wtL0.val (wtEnv xs))).length := by
  have hn := n_in hl
  have hp := pl_lt hl h0
  refine ib2_find _ _ _ (by omega) (wtPl xs) hp (ib2_q _ _ _ (by omega) fun ws hw => ?_)
  have w0 : ws.getD 0 0 = IntKind.i64.wrap (IntKind.i64.wrap (((dec ((wtS14 B).val (wtEnv xs))).getD (wtPl xs) []).getD 0 0)) := hw 0 (by decide)
  have w1 : ws.getD 1 0 = IntKind.u64.wrap (IntKind.u64.wrap (((dec ((wtS14 B).val (wtEnv xs))).getD (wtPl xs) []).getD 1 0)) := hw 1 (by decide)
  have w12 : ws.getD 12 0 = IntKind.i64.wrap (IntKind.i64.wrap (((dec ((wtS14 B).val (wtEnv xs))).getD (wtPl xs) []).getD 12 0)) := hw 12 (by decide)
  have w13 : ws.getD 13 0 = IntKind.u64.wrap (IntKind.u64.wrap (((dec ((wtS14 B).val (wtEnv xs))).getD (wtPl xs) []).getD 13 0)) := hw 13 (by decide)
  rw [s14_row hl h0 hB, setRow_get] at w0 w1 w12 w13
  rw [if_pos ⟨Nat.le_refl _, Nat.succ_pos _⟩, hr.f] at w0
  rw [if_pos ⟨Nat.zero_le _, Nat.lt_succ_self 1⟩] at w1
  rw [if_neg (fun h => absurd h.2 (show ¬ 12 < 0 + 2 by decide)), hr.f] at w12
  rw [if_neg (fun h => absurd h.2 (show ¬ 13 < 0 + 2 by decide))] at w13
  have w1 : ws.getD 1 0 = IntKind.u64.wrap (IntKind.u64.wrap (IntKind.u64.wrap (((dec (B.val (wtEnv xs))).getD (wtPl xs) []).getD 13 0))) := w1
  refine f45_dry ws (m := IntKind.u64.wrap (((dec (B.val (wtEnv xs))).getD (wtPl xs) []).getD 13 0)) (u64w_in _).1 (u64w_in _).2 ?_ ?_ ?_ ?_
  · rw [w0]; rfl
  · rw [w1, uw2, uw2, uw2]
  · rw [w12]; rfl
  · rw [w13, uw2, uw2]
theorem s15_may : ∃ i : Nat, ib2G (FT Lm5_T) [wtL0.val (wtEnv xs), (wtS15 B).val (wtEnv xs)] = [0, (i : Int)] ∧ i < (dec (wtL0.val (wtEnv xs))).length := by
  have hn := n_in hl
  have hp := pl_lt hl h0
  refine ib2_find _ _ _ (by omega) (wtPl xs) hp (ib2_q _ _ _ (by omega) fun ws hw => ?_)
  have w6 : ws.getD 6 0 = IntKind.i64.wrap (IntKind.i64.wrap (((dec ((wtS15 B).val (wtEnv xs))).getD (wtPl xs) []).getD 6 0)) := hw 6 (by decide)
  have w7 : ws.getD 7 0 = IntKind.u64.wrap (IntKind.u64.wrap (((dec ((wtS15 B).val (wtEnv xs))).getD (wtPl xs) []).getD 7 0)) := hw 7 (by decide)
  rw [s15_row hl h0 hB, setRow_get] at w6 w7
  rw [if_pos ⟨Nat.le_refl _, show 6 < 6 + 2 by decide⟩] at w6
  rw [if_pos ⟨show 6 ≤ 7 by decide, show 7 < 6 + 2 by decide⟩] at w7
  exact f45_far ws (by rw [w6]; rfl) (by rw [w7]; rfl)
end
section
variable {xs : List Int} (hl : WtLen xs) (h0 : 0 < (dec (wtL0.val (wtEnv xs))).length)
include hl h0
theorem geq_i {f : Nat} {zs : SE} {i : Nat} (hi : i ≤ 1000000) (h : FT Lm6_T f (zs.vals (wtEnv xs)) = [0, (i : Int)]) : ((SE.cmp .geq (.app f 1 (some .i64) zs) (.lit .i64 0)).val (wtEnv xs) != 0) = true := by
  have v : ∀ a b : SE, ((SE.cmp .geq a b).val (wtEnv xs) != 0) = decide (a.val (wtEnv xs) ≥ b.val (wtEnv xs)) := fun a b => by simp only [SE.val, b2i_ne, valCmp]
  have e : (SE.app f 1 (some .i64) zs).val (wtEnv xs) = wrK (some .i64) ((FT Lm6_T f (zs.vals (wtEnv xs))).getD 1 0) := by unfold wtEnv; rw [app_at]
  rw [v, e, h, l_i0, decide_eq_true_eq]
  show (0 : Int) ≤ IntKind.i64.wrap (i : Int)
  rw [IntKind.wrap_i64]; omega
theorem k57 : (wtF57.val (wtEnv xs) != 0) = true := by
  obtain ⟨i, h, _⟩ := s14_may hl h0 (B := wtL5) (n5 hl) (r5 hl (pl_lt hl h0))
  unfold wtF57
  exact eql_nul (e := wtEnv xs) (i := 0) (w := [(i : Int)]) (by rw [ft61]; simp only [vals_c, vals_n]; exact h)
theorem k58 : (wtF58.val (wtEnv xs) != 0) = true := by
  have hn := n_in hl
  obtain ⟨i, h, hi⟩ := s14_may hl h0 (B := wtL5) (n5 hl) (r5 hl (pl_lt hl h0))
  unfold wtF58
  exact geq_i hl h0 (i := i) (by omega) (by rw [ft61]; simp only [vals_c, vals_n]; exact h)
theorem k61 : (wtF61.val (wtEnv xs) != 0) = true := by
  obtain ⟨i, h, _⟩ := s14_may hl h0 (B := wtL10) (n10 hl) (r10 hl (pl_lt hl h0))
  unfold wtF61
  exact eql_nul (e := wtEnv xs) (i := 0) (w := [(i : Int)]) (by rw [ft61]; simp only [vals_c, vals_n]; exact h)
theorem k62 : (wtF62.val (wtEnv xs) != 0) = true := by
  have hn := n_in hl
  obtain ⟨i, h, hi⟩ := s14_may hl h0 (B := wtL10) (n10 hl) (r10 hl (pl_lt hl h0))
  unfold wtF62
  exact geq_i hl h0 (i := i) (by omega) (by rw [ft61]; simp only [vals_c, vals_n]; exact h)
theorem k64 : (wtF64.val (wtEnv xs) != 0) = true := by
  obtain ⟨i, h, _⟩ := s15_may hl h0 (B := wtL5) (n5 hl) (r5 hl (pl_lt hl h0))
  unfold wtF64
  exact eql_nul (e := wtEnv xs) (i := 0) (w := [(i : Int)]) (by rw [ft61]; simp only [vals_c, vals_n]; exact h)
theorem k65 : (wtF65.val (wtEnv xs) != 0) = true := by
  have hn := n_in hl
  obtain ⟨i, h, hi⟩ := s15_may hl h0 (B := wtL5) (n5 hl) (r5 hl (pl_lt hl h0))
  unfold wtF65
  exact geq_i hl h0 (i := i) (by omega) (by rw [ft61]; simp only [vals_c, vals_n]; exact h)
theorem k67 : (wtF67.val (wtEnv xs) != 0) = true := by
  obtain ⟨i, h, _⟩ := s15_may hl h0 (B := wtL10) (n10 hl) (r10 hl (pl_lt hl h0))
  unfold wtF67
  exact eql_nul (e := wtEnv xs) (i := 0) (w := [(i : Int)]) (by rw [ft61]; simp only [vals_c, vals_n]; exact h)
theorem k68 : (wtF68.val (wtEnv xs) != 0) = true := by
  have hn := n_in hl
  obtain ⟨i, h, hi⟩ := s15_may hl h0 (B := wtL10) (n10 hl) (r10 hl (pl_lt hl h0))
  unfold wtF68
  exact geq_i hl h0 (i := i) (by omega) (by rw [ft61]; simp only [vals_c, vals_n]; exact h)
end
end Go.Proofs.Ytedfbamihjnhhaa.Own
end
