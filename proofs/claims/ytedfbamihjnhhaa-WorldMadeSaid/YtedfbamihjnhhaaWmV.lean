/- A world made: what is known of the document's loops. -/
/- A walk by reckoning: an argument of a struct type opened into numbers and lists. -/
/- Slices as arguments, opened. -/
/- A world made: the law. -/
import Derived.Test.YtedfbamihjnhhaaWmJ
import Derived.Test.YtedfbamihjnhhaaFvO
section
namespace Go.Proofs.Ytedfbamihjnhhaa.Own
open Go Go.RowKit Go.Proofs Go.Proofs.Ytedfbamihjnhhaa.Plain
set_option linter.unusedVariables false
set_option linter.unusedSectionVars false
set_option linter.unusedSimpArgs false
set_option maxRecDepth 100000
theorem range_goodR {T : RT} {c lv : Nat} {ex : List (SE × Bool)} {R : List Int → Prop} (h : rgB c lv ex false T = true) {F : Nat → List Int → List Int} (J : List Int → Prop) (hJ : ∀ xs ys, J xs → T.get (envOf F xs) = (none, ys) → J ys)
  (good : ∀ xs (i : Nat), J xs → xs.getD c 0 = (i : Int) → i ≤ (dec (xs.getD lv 0)).length → ∀ e ys, T.get (envOf F xs) = (some e, ys) → e = 1 ∧ R ys) :
  ∀ (k i j : Nat) (xs : List Int), xs.getD c 0 = (i : Int) → i + k = (dec (xs.getD lv 0)).length + 1 → 0 < k → (dec (xs.getD lv 0)).length ≤ maxLen → J xs → ∃ ys, runL (fun _ => T) F j k xs = some (1, ys) ∧ R ys
 | 0, _, _, _, _, _, hk, _, _ => by omega
 | k + 1, i, j, xs, hc, hik, _, hl, hj => by
  have hi : i ≤ (dec (xs.getD lv 0)).length := by omega
  cases hg : T.get (envOf F xs) with
  | mk o ys =>
   cases o with
   | some e =>
    obtain ⟨h1, h2⟩ := good xs i hj hc hi e ys hg
    subst h1
    exact ⟨ys, by simp only [runL, hg], h2⟩
   | none =>
    obtain ⟨h1, h2, h3⟩ := rg_next hc hl hi h (fun q => by cases q) ys hg
    obtain ⟨zs, hz, hr⟩ := range_goodR h J hJ good k (i + 1) (j + 1) ys h2 (by rw [h3]; omega) (by omega) (by rw [h3]; exact hl) (hJ xs ys hj hg)
    exact ⟨zs, by simp only [runL, hg]; exact hz, hr⟩
theorem lp_goodR {I : List SE} {T : RT} {U : List Int → Nat} {F : Nat → List Int → List Int} {xs : List Int} {R : List Int → Prop} (h : ∃ ys, runL (fun _ => T) F 0 (U xs) (I.map (SE.val (envOf F xs))) = some (1, ys) ∧ R ys) : ∃ ys, lpFn I (fun _ => T) U F xs = 1 :: ys ∧ R ys := by
 obtain ⟨ys, h, hr⟩ := h
 exact ⟨ys, by unfold lpFn; rw [h]; rfl, hr⟩
theorem q1b_getR : ∃ N O : List SE, (∀ E : Env, q1bT.get E = bif (SE.cmp .lss (.ivar .i64 24) (.len (.lvar 13))).val E != 0 then (bif (SE.not (.app 90 0 none (elB 23 24))).val E != 0 then (some 0, []) else (bif (SE.not (.app 53 0 none (.cons (.el (some .i64) (.lvar 16) (.ivar .i64 24) 0) (.cons (.lit .i64 (-1)) (.cons (.bin .sub .i64 (.len (.lvar 15)) (.lit .i64 1)) .nil))))).val E != 0 then (some 0, []) else (none, N.map (SE.val E)))) else (some 1, O.map (SE.val E))) ∧ O[23]? = some (.len (.lvar 13)) := ⟨_, _, fun E => rfl, rfl⟩
theorem q1b_allR (F : Nat → List Int → List Int) (zs : List Int) (hn : (dec (zs.getD 13 0)).length ≤ 1000000) (hr : (dec (zs.getD 15 0)).length ≤ 1000000) (hq : ∀ i, i < (dec (zs.getD 13 0)).length → F 90 (wr ((dec (zs.getD 23 0)).getD i [])) = [1] ∧ F 53 [IntKind.i64.wrap (((dec (zs.getD 16 0)).getD i []).getD 0 0), -1, ((dec (zs.getD 15 0)).length : Int) - 1] = [1]) : ∃ ys, q1bG F zs = 1 :: ys ∧ ys.getD 23 0 = ((dec (zs.getD 13 0)).length : Int) := by
 obtain ⟨N, O, hget, hO⟩ := q1b_getR
 refine lp_goodR (R := fun ys => ys.getD 23 0 = ((dec (zs.getD 13 0)).length : Int)) (range_goodR (R := fun ys => ys.getD 23 0 = ((dec (zs.getD 13 0)).length : Int)) (T := q1bT) (c := 24) (lv := 13) (ex := q1bE) (by kernel_rfl) (fun xs => xs.getD 13 0 = zs.getD 13 0 ∧ xs.getD 15 0 = zs.getD 15 0 ∧ xs.getD 16 0 = zs.getD 16 0 ∧ xs.getD 23 0 = zs.getD 23 0) (fun xs ys hJ hy => ?_) (fun xs i hJ hc hi e ys hg => ?_) _ 0 0 _ (at_lit (I := q1bI) (by kernel_rfl)) (by rw [at_lvar (I := q1bI) (j0 := 13) (by kernel_rfl)]; unfold q1bU; omega) (Nat.succ_pos _) (by rw [at_lvar (I := q1bI) (j0 := 13) (by kernel_rfl)]; exact le_max hn) ⟨at_lvar (I := q1bI) (c := 13) (j0 := 13) (by kernel_rfl), at_lvar (I := q1bI) (c := 15) (j0 := 15) (by kernel_rfl), at_lvar (I := q1bI) (c := 16) (j0 := 16) (by kernel_rfl), at_lvar (I := q1bI) (c := 23) (j0 := 23) (by kernel_rfl)⟩)
 ·have hB := (cB_get (hc := q1bC) (outs := q1bL.outs) (F := F) (xs := xs) (t := q1bT) (by kernel_rfl)).1 ys hy
  have h0 : ys.getD 13 0 = xs.getD 13 0 := hB (13, 13, none) (by simp [q1bC])
  have h1 : ys.getD 15 0 = xs.getD 15 0 := hB (15, 15, none) (by simp [q1bC])
  have h2 : ys.getD 16 0 = xs.getD 16 0 := hB (16, 16, none) (by simp [q1bC])
  have h3 : ys.getD 23 0 = xs.getD 23 0 := hB (23, 23, none) (by simp [q1bC])
  exact ⟨h0.trans hJ.1, h1.trans hJ.2.1, h2.trans hJ.2.2.1, h3.trans hJ.2.2.2⟩
 ·obtain ⟨j0, j1, j2, j3⟩ := hJ
  rw [j0] at hi
  have him : i ≤ 1000000 := by omega
  have m1 : IntKind.i64.wrap (-1) = -1 := rfl
  rw [hget, guard_x hc him (by rw [j0]; exact hn), j0] at hg
  by_cases hlt : i < (dec (zs.getD 13 0)).length
  ·obtain ⟨hb, ha⟩ := hq i hlt
   rw [decide_eq_true hlt, cond_true, ap_n (b := true) (by rw [elB_v hc him, j3]; exact hb), Bool.not_true, cond_false,
    ap_n (b := true) (by rw [vals_c, vals_c, vals_c, vals_n, el_x hc him, lensub_v rfl (by rw [j1]; exact hr), v_lit, m1, j2, j1]; exact ha), Bool.not_true, cond_false] at hg
   cases hg
  ·rw [decide_eq_false hlt, cond_false] at hg
   cases hg
   refine ⟨rfl, ?_⟩
   rw [List.getD_eq_getElem?_getD, List.getElem?_map, hO]
   show (SE.len (.lvar 13)).val (envOf F xs) = _
   rw [len_at rfl (by rw [j0]; exact le_max hn), j0]
def wmX8 : SE := (.cons (.lit .i64 0) (.cons (.lit .i64 0) (.cons (.lit .u64 1152921504606846976) (.cons wtL1 (.cons wtL2 (.cons (.lit .i64 0) (.cons (.lit .u64 4611686018427387904) (.cons (.lit .i64 0) (.cons (.bin .shl .u64 (.conv .u64 (.ivar .u8 4)) (.lit .u64 56)) (.cons (.lit .i64 0) (.cons (.bin .shl .u64 (.conv .u64 (.bin .rem .u8 (.ivar .u8 4) (.lit .u8 4))) (.lit .u64 62)) (.cons (.bin .rem .i64 (.bin .quo .i64 (.conv .i64 (.ivar .u8 4)) (.lit .i64 4)) (.lit .i64 2)) (.cons (.bin .rem .i64 (.bin .quo .i64 (.conv .i64 (.ivar .u8 4)) (.lit .i64 8)) (.lit .i64 2)) (.cons wtL0 (.cons wtL6 (.cons wtL4 (.cons (.lit .i64 0) (.cons (.lit .u64 0) (.cons (.lit .i64 0) (.cons (.lit .u64 0) (.cons (.lit .i64 0) (.cons (.lit .u64 0) (.cons wtL5 .nil)))))))))))))))))))))))
def wmX9 : SE := (.cons (.lit .i64 0) (.cons (.lit .i64 0) (.cons (.lit .u64 1152921504606846976) (.cons wtL1 (.cons wtL2 (.cons (.lit .i64 0) (.cons (.lit .u64 4611686018427387904) (.cons (.lit .i64 0) (.cons (.bin .shl .u64 (.conv .u64 (.ivar .u8 4)) (.lit .u64 56)) (.cons (.lit .i64 0) (.cons (.bin .shl .u64 (.conv .u64 (.bin .rem .u8 (.ivar .u8 4) (.lit .u8 4))) (.lit .u64 62)) (.cons (.bin .rem .i64 (.bin .quo .i64 (.conv .i64 (.ivar .u8 4)) (.lit .i64 4)) (.lit .i64 2)) (.cons (.bin .rem .i64 (.bin .quo .i64 (.conv .i64 (.ivar .u8 4)) (.lit .i64 8)) (.lit .i64 2)) (.cons wtL0 (.cons wtL6 (.cons wtL4 (.cons (.lit .i64 0) (.cons (.lit .u64 0) (.cons (.lit .i64 0) (.cons (.lit .u64 0) (.cons (.lit .i64 0) (.cons (.lit .u64 0) (.cons wtL5 .nil)))))))))))))))))))))))
def wmX14 : SE := (.cons (.lit .i64 0) (.cons (.lit .i64 0) (.cons (.lit .u64 1152921504606846976) (.cons wtL1 (.cons wtL2 (.cons (.lit .i64 0) (.cons (.lit .u64 4611686018427387904) (.cons (.lit .i64 0) (.cons (.bin .shl .u64 (.conv .u64 (.ivar .u8 4)) (.lit .u64 56)) (.cons (.lit .i64 0) (.cons (.bin .shl .u64 (.conv .u64 (.bin .rem .u8 (.ivar .u8 4) (.lit .u8 4))) (.lit .u64 62)) (.cons (.bin .rem .i64 (.bin .quo .i64 (.conv .i64 (.ivar .u8 4)) (.lit .i64 4)) (.lit .i64 2)) (.cons (.bin .rem .i64 (.bin .quo .i64 (.conv .i64 (.ivar .u8 4)) (.lit .i64 8)) (.lit .i64 2)) (.cons wtL0 (.cons wtL9 (.cons wtL6 (.cons wtL8 (.cons (.lit .i64 0) (.cons (.lit .u64 0) (.cons (.lit .i64 0) (.cons (.lit .u64 0) (.cons (.lit .i64 0) (.cons (.lit .u64 0) (.cons wtL10 .nil))))))))))))))))))))))))
def wmX15 : SE := (.cons (.lit .i64 0) (.cons (.lit .i64 0) (.cons (.lit .u64 1152921504606846976) (.cons wtL1 (.cons wtL2 (.cons (.lit .i64 0) (.cons (.lit .u64 4611686018427387904) (.cons (.lit .i64 0) (.cons (.bin .shl .u64 (.conv .u64 (.ivar .u8 4)) (.lit .u64 56)) (.cons (.lit .i64 0) (.cons (.bin .shl .u64 (.conv .u64 (.bin .rem .u8 (.ivar .u8 4) (.lit .u8 4))) (.lit .u64 62)) (.cons (.bin .rem .i64 (.bin .quo .i64 (.conv .i64 (.ivar .u8 4)) (.lit .i64 4)) (.lit .i64 2)) (.cons (.bin .rem .i64 (.bin .quo .i64 (.conv .i64 (.ivar .u8 4)) (.lit .i64 8)) (.lit .i64 2)) (.cons wtL0 (.cons wtL9 (.cons wtL6 (.cons wtL8 (.cons (.lit .i64 0) (.cons (.lit .u64 0) (.cons (.lit .i64 0) (.cons (.lit .u64 0) (.cons (.lit .i64 0) (.cons (.lit .u64 0) (.cons wtL10 (.cons (.app 20071 24 (some .i64) (.cons (.lit .i64 0) (.cons (.lit .i64 0) (.cons (.lit .u64 1152921504606846976) (.cons wtL1 (.cons wtL2 (.cons (.lit .i64 0) (.cons (.lit .u64 4611686018427387904) (.cons (.lit .i64 0) (.cons (.bin .shl .u64 (.conv .u64 (.ivar .u8 4)) (.lit .u64 56)) (.cons (.lit .i64 0) (.cons (.bin .shl .u64 (.conv .u64 (.bin .rem .u8 (.ivar .u8 4) (.lit .u8 4))) (.lit .u64 62)) (.cons (.bin .rem .i64 (.bin .quo .i64 (.conv .i64 (.ivar .u8 4)) (.lit .i64 4)) (.lit .i64 2)) (.cons (.bin .rem .i64 (.bin .quo .i64 (.conv .i64 (.ivar .u8 4)) (.lit .i64 8)) (.lit .i64 2)) (.cons wtL0 (.cons wtL9 (.cons wtL6 (.cons wtL8 (.cons (.lit .i64 0) (.cons (.lit .u64 0) (.cons (.lit .i64 0) (.cons (.lit .u64 0) (.cons (.lit .i64 0) (.cons (.lit .u64 0) (.cons wtL10 .nil))))))))))))))))))))))))) .nil)))))))))))))))))))))))))
def wmX16 : SE := (.cons (.lit .i64 0) (.cons (.lit .i64 0) (.cons (.lit .u64 1152921504606846976) (.cons wtL1 (.cons wtL2 (.cons (.lit .i64 0) (.cons (.lit .u64 4611686018427387904) (.cons (.lit .i64 0) (.cons (.bin .shl .u64 (.conv .u64 (.ivar .u8 4)) (.lit .u64 56)) (.cons (.lit .i64 0) (.cons (.bin .shl .u64 (.conv .u64 (.bin .rem .u8 (.ivar .u8 4) (.lit .u8 4))) (.lit .u64 62)) (.cons (.bin .rem .i64 (.bin .quo .i64 (.conv .i64 (.ivar .u8 4)) (.lit .i64 4)) (.lit .i64 2)) (.cons (.bin .rem .i64 (.bin .quo .i64 (.conv .i64 (.ivar .u8 4)) (.lit .i64 8)) (.lit .i64 2)) (.cons wtL0 (.cons wtL9 (.cons wtL6 (.cons wtL8 (.cons (.lit .i64 0) (.cons (.lit .u64 0) (.cons (.lit .i64 0) (.cons (.lit .u64 0) (.cons (.lit .i64 0) (.cons (.lit .u64 0) (.cons wtL10 .nil))))))))))))))))))))))))
theorem x8_13 (xs : List Int) : (wmX8.vals (envOf (FT Lm7_T) xs)).getD 13 0 = wtL0.val (wtEnv xs) := by
 unfold wmX8; simp only [vals_c, vals_n, List.getD_cons_succ, List.getD_cons_zero]; exact wm_old xs wtL0 (by kernel_rfl)
theorem x8_14 (xs : List Int) : (wmX8.vals (envOf (FT Lm7_T) xs)).getD 14 0 = wtL6.val (wtEnv xs) := by
 unfold wmX8; simp only [vals_c, vals_n, List.getD_cons_succ, List.getD_cons_zero]; exact wm_old xs wtL6 (by kernel_rfl)
theorem x8_15 (xs : List Int) : (wmX8.vals (envOf (FT Lm7_T) xs)).getD 15 0 = wtL4.val (wtEnv xs) := by
 unfold wmX8; simp only [vals_c, vals_n, List.getD_cons_succ, List.getD_cons_zero]; exact wm_old xs wtL4 (by kernel_rfl)
theorem x8_22 (xs : List Int) : (wmX8.vals (envOf (FT Lm7_T) xs)).getD 22 0 = wtL5.val (wtEnv xs) := by
 unfold wmX8; simp only [vals_c, vals_n, List.getD_cons_succ, List.getD_cons_zero]; exact wm_old xs wtL5 (by kernel_rfl)
theorem x9_14 (xs : List Int) : (wmX9.vals (envOf (FT Lm7_T) xs)).getD 14 0 = wtL6.val (wtEnv xs) := by
 unfold wmX9; simp only [vals_c, vals_n, List.getD_cons_succ, List.getD_cons_zero]; exact wm_old xs wtL6 (by kernel_rfl)
theorem x14_13 (xs : List Int) : (wmX14.vals (envOf (FT Lm7_T) xs)).getD 13 0 = wtL0.val (wtEnv xs) := by
 unfold wmX14; simp only [vals_c, vals_n, List.getD_cons_succ, List.getD_cons_zero]; exact wm_old xs wtL0 (by kernel_rfl)
theorem x14_15 (xs : List Int) : (wmX14.vals (envOf (FT Lm7_T) xs)).getD 15 0 = wtL6.val (wtEnv xs) := by
 unfold wmX14; simp only [vals_c, vals_n, List.getD_cons_succ, List.getD_cons_zero]; exact wm_old xs wtL6 (by kernel_rfl)
theorem x14_16 (xs : List Int) : (wmX14.vals (envOf (FT Lm7_T) xs)).getD 16 0 = wtL8.val (wtEnv xs) := by
 unfold wmX14; simp only [vals_c, vals_n, List.getD_cons_succ, List.getD_cons_zero]; exact wm_old xs wtL8 (by kernel_rfl)
theorem x14_23 (xs : List Int) : (wmX14.vals (envOf (FT Lm7_T) xs)).getD 23 0 = wtL10.val (wtEnv xs) := by
 unfold wmX14; simp only [vals_c, vals_n, List.getD_cons_succ, List.getD_cons_zero]; exact wm_old xs wtL10 (by kernel_rfl)
theorem x15_14 (xs : List Int) : (wmX15.vals (envOf (FT Lm7_T) xs)).getD 14 0 = wtL9.val (wtEnv xs) := by
 unfold wmX15; simp only [vals_c, vals_n, List.getD_cons_succ, List.getD_cons_zero]; exact wm_old xs wtL9 (by kernel_rfl)
theorem x16_15 (xs : List Int) : (wmX16.vals (envOf (FT Lm7_T) xs)).getD 15 0 = wtL6.val (wtEnv xs) := by
 unfold wmX16; simp only [vals_c, vals_n, List.getD_cons_succ, List.getD_cons_zero]; exact wm_old xs wtL6 (by kernel_rfl)
theorem in53 {F : Nat → List Int → List Int} (hF : F 53 = FT Tr7_T53 53) (n : Int) (hn : 0 ≤ n ∧ n ≤ 1000000) : F 53 [IntKind.i64.wrap (([-1] : List Int).getD 0 0), -1, n - 1] = [1] := by
 have w : IntKind.i64.wrap (([-1] : List Int).getD 0 0) = -1 := rfl
 rw [hF, w, f53 (a0 := -1) (b0 := -1) (c := n - 1) rfl rfl (show IntKind.i64.wrap (n - 1) = n - 1 by rw [IntKind.wrap_i64]; omega), decide_eq_true (by omega), decide_eq_true (by omega)]; rfl
section
variable {xs : List Int} (hl : WtLen xs)
include hl
theorem mf8 : (wmF8.val (wmE xs) != 0) = false := by
 have hn := n_in hl
 have h6 := wt_L6 hl
 have hd := wt_L4 hl
 have e90 : FT Lm7_Tq3b 90 = FT Tr7_T90 90 := FT_at 4 (by kernel_rfl) (by kernel_rfl)
 have e53 : FT Lm7_Tq3b 53 = FT Tr7_T53 53 := FT_at 19 (by kernel_rfl) (by kernel_rfl)
 obtain ⟨ys, h⟩ := q1a_all (FT Lm7_Tq3b) (wmX8.vals (envOf (FT Lm7_T) xs)) (by rw [x8_13]; omega) (by rw [x8_14]; omega) fun i hi => by
  rw [x8_13] at hi
  rw [x8_22, x8_15, x8_14, hd, rep_get hl _ i hi]
  exact ⟨by rw [e90, f90n (wr_in _), mayB_ok (bd5 hl i hi)]; rfl, in53 e53 _ (by omega)⟩
 show ((SE.cmp .eql (.app 20081 0 (some .i64) wmX8) (.lit .i64 0)).val (envOf (FT Lm7_T) xs) != 0) = false
 exact eql_1 (w := ys) (by rw [fm81]; exact h)
theorem mf14R : ∃ ys, FT Lm7_T 20071 (wmX14.vals (envOf (FT Lm7_T) xs)) = 1 :: ys ∧ ys.getD 23 0 = ((dec (wtL0.val (wtEnv xs))).length : Int) := by
 have hn := n_in hl
 have h6 := wt_L6 hl
 have hd := wt_L8 hl
 have e90 : FT Tr7_T 90 = FT Tr7_T90 90 := FT_at 1 (by kernel_rfl) (by kernel_rfl)
 have e53 : FT Tr7_T 53 = FT Tr7_T53 53 := FT_at 16 (by kernel_rfl) (by kernel_rfl)
 obtain ⟨ys, h, hr⟩ := q1b_allR (FT Tr7_T) (wmX14.vals (envOf (FT Lm7_T) xs)) (by rw [x14_13]; omega) (by rw [x14_15]; omega) fun i hi => by
  rw [x14_13] at hi
  rw [x14_23, x14_16, x14_15, hd, rep_get hl _ i hi]
  exact ⟨by rw [e90, f90n (wr_in _), mayB_ok (bd10 hl i hi)]; rfl, in53 e53 _ (by omega)⟩
 rw [x14_13] at hr
 exact ⟨ys, by rw [fm71]; exact h, hr⟩
theorem mf14 : (wmF14.val (wmE xs) != 0) = false := by
 obtain ⟨ys, h, _⟩ := mf14R hl
 show ((SE.cmp .eql (.app 20071 0 (some .i64) wmX14) (.lit .i64 0)).val (envOf (FT Lm7_T) xs) != 0) = false
 exact eql_1 (w := ys) h
theorem x15_24 : (wmX15.vals (envOf (FT Lm7_T) xs)).getD 24 0 = ((dec (wtL0.val (wtEnv xs))).length : Int) := by
 have hn := n_in hl
 obtain ⟨ys, h, hr⟩ := mf14R hl
 have e : (wmX15.vals (envOf (FT Lm7_T) xs)).getD 24 0 = (SE.app 20071 24 (some .i64) wmX14).val (envOf (FT Lm7_T) xs) := by
  unfold wmX15; simp only [vals_c, vals_n, List.getD_cons_succ, List.getD_cons_zero]; rfl
 rw [e]
 refine ap_i (l := 1 :: ys) h (by rw [List.getD_cons_succ]; exact hr) ?_
 show IntKind.i64.wrap _ = _
 rw [IntKind.wrap_i64]; omega
theorem mf15 : (wmF15.val (wmE xs) != 0) = false := by
 have hn := n_in hl
 have h9 := (wt_L9 hl).1
 have e53 : FT Lm7_Tq1b 53 = FT Tr7_T53 53 := FT_at 17 (by kernel_rfl) (by kernel_rfl)
 have e54 : FT Lm7_Tq1b 54 = FT Tr7_T54 54 := FT_at 13 (by kernel_rfl) (by kernel_rfl)
 obtain ⟨ys, h⟩ := q2b_all (FT Lm7_Tq1b) (wmX15.vals (envOf (FT Lm7_T) xs)) ((dec (wtL0.val (wtEnv xs))).length : Int) (by rw [x15_14]; omega) (x15_24 hl) (by omega) fun i hi => by
  rw [x15_14] at hi ⊢
  exact te_ok hl (fun a b c ha hb hc => by rw [e53]; exact f53 ha hb hc) (fun a b c ha hb hc => by rw [e54]; exact f54 ha hb hc) i hi
 show ((SE.cmp .eql (.app 20072 0 (some .i64) wmX15) (.lit .i64 0)).val (envOf (FT Lm7_T) xs) != 0) = false
 exact eql_1 (w := ys) (by rw [fm72]; exact h)
theorem mf9 : (wmF9.val (wmE xs) != 0) = false := by
 have h6 := wt_L6 hl
 have e91 : FT Lm7_Tq2a 91 = FT Tr7_T91 91 := FT_at 5 (by kernel_rfl) (by kernel_rfl)
 obtain ⟨ys, h⟩ := q3a_all (FT Lm7_Tq2a) (wmX9.vals (envOf (FT Lm7_T) xs)) (by rw [x9_14]; omega) fun i hi => by
  rw [x9_14] at hi ⊢
  rw [e91, f91n (rail_in hl i hi), rail_ok hl i hi]; rfl
 show ((SE.cmp .eql (.app 20083 0 (some .i64) wmX9) (.lit .i64 0)).val (envOf (FT Lm7_T) xs) != 0) = false
 exact eql_1 (w := ys) (by rw [fm83]; exact h)
theorem mf16 : (wmF16.val (wmE xs) != 0) = false := by
 have h6 := wt_L6 hl
 have e91 : FT Lm7_Tq2b 91 = FT Tr7_T91 91 := FT_at 2 (by kernel_rfl) (by kernel_rfl)
 obtain ⟨ys, h⟩ := q3b_all (FT Lm7_Tq2b) (wmX16.vals (envOf (FT Lm7_T) xs)) (by rw [x16_15]; omega) fun i hi => by
  rw [x16_15] at hi ⊢
  rw [e91, f91n (rail_in hl i hi), rail_ok hl i hi]; rfl
 show ((SE.cmp .eql (.app 20073 0 (some .i64) wmX16) (.lit .i64 0)).val (envOf (FT Lm7_T) xs) != 0) = false
 exact eql_1 (w := ys) (by rw [fm73]; exact h)
end
end Go.Proofs.Ytedfbamihjnhhaa.Own
end
section
namespace Go.Proofs.Ytedfbamihjnhhaa.Own
open Go Go.RowKit Go.Proofs Go.ChangeShapes Go.WideShapes Go.ChangeAt
set_option linter.unusedVariables false
set_option linter.unusedSimpArgs false
theorem cell_spot {P : Program} {w : World} {base : Nat} {t : TypeId} {v : Value} (h : Cell.okWide P w .any base t v) : spotOK v := by
 intro a n c hv
 subst hv
 unfold Cell.okWide at h
 split at h
 ·rename_i h2; cases h2
 ·rename_i h2; cases h2
 ·rename_i h2; cases h2
 ·rename_i h2; cases h2
 ·rename_i h2; cases h2
 ·rename_i h2; cases h2
 ·rename_i h2; cases h2
 ·unfold Cell.ok at h
  split at h
  all_goals first
   | (rename_i h2; cases h2; done)
   | (rename_i h2 h3; cases h3; done)
   | (rename_i h2 h3; cases h3; exact h.2.2.2.1)
   | exact h.elim
section
variable {H : Type} {enc' : TypeId × Value → H} {P : Program} {w : World} {base b2 : Nat} {sp : Nat → Bool} {held : Bool}
end
theorem LfsOK.at {w : World} {k : Option IntKind} : ∀ {ls : List Lf} {cs : List Value} {xs : List Int} {ss : List (Nat × Nat × Nat)} (i : Nat), LfsOK w ls cs xs ss → ls[i]? = some (.num k) → inK k (xs.getD i 0)
 | _, _, _, _, i, .nil, h => by cases i <;> cases h
 | _, _, _, _, 0, .num hk t, h => by cases h; exact hk
 | _, _, _, _, i + 1, .num hk t, h => by rw [List.getD_cons_succ]; exact LfsOK.at i t h
 | _, _, _, _, 0, .sl hk t, h => by cases h
 | _, _, _, _, i + 1, .sl hk t, h => by rw [List.getD_cons_succ]; exact LfsOK.at i t h
theorem LfsOK.atL {w : World} {e : TypeId} {ks : Ks} : ∀ {ls : List Lf} {cs : List Value} {xs : List Int} {ss : List (Nat × Nat × Nat)} (i : Nat), LfsOK w ls cs xs ss → ls[i]? = some (.sl e ks) → (dec (xs.getD i 0)).length ≤ maxLen
 | _, _, _, _, i, .nil, h => by cases i <;> cases h
 | _, _, _, _, 0, .num hk t, h => by cases h
 | _, _, _, _, i + 1, .num hk t, h => by rw [List.getD_cons_succ]; exact LfsOK.atL i t h
 | _, _, _, _, 0, .sl hk t, h => by rw [List.getD_cons_zero, dec_enc]; exact hk.l
 | _, _, _, _, i + 1, .sl hk t, h => by rw [List.getD_cons_succ]; exact LfsOK.atL i t h
def slN : List Lf → Nat
 | [] => 0
 | .num _ :: r => slN r
 | .sl _ _ :: r => slN r + 1
theorem LfsOK.slen {w : World} : ∀ {ls : List Lf} {cs : List Value} {xs : List Int} {ss : List (Nat × Nat × Nat)}, LfsOK w ls cs xs ss → ss.length = slN ls
 | _, _, _, _, .nil => rfl
 | _, _, _, _, .num _ t => by rw [slN]; exact LfsOK.slen t
 | _, _, _, _, .sl _ t => by rw [slN, List.length_cons, LfsOK.slen t]
end Go.Proofs.Ytedfbamihjnhhaa.Own
end
section
namespace Go.Proofs.Ytedfbamihjnhhaa.Own
open Go Go.RowKit Go.Proofs Go.ChangeShapes Go.WideShapes Go.ChangeAt
set_option linter.unusedVariables false
set_option linter.unusedSectionVars false
set_option linter.unusedSimpArgs false
section
variable {H : Type} {enc' : TypeId × Value → H} {P : Program} {w : World} {base b2 : Nat} {sp : Nat → Bool} {held : Bool}
theorem open_slice {t e : TypeId} {v : Value} {d : DataW H} {ps : List MemPlace} {ls : List Lf} {dd : Nat} (hu : P.underlying t = some (.slice e)) (hok : Value.okWide P w .any b2 t v) (h : DataW.Trod enc' P w base sp held t v d ps) (hlf : lfOf P dd t = some ls) :
  ∃ xs ss, LfsOK w ls [v] xs ss := by
 unfold Value.okWide at hok
 rw [hu] at hok
 obtain ⟨fuel, hf⟩ := h
 have hv : v.cells.toList = [v] := by
  unfold Cell.okWide at hok
  cases v <;> first | rfl | skip
  all_goals simp [Cell.ok, hu] at hok
 rw [hv] at hf
 exact trod_lf dd hlf hf (.inr fun u hu2 => by
  simp only [List.mem_singleton] at hu2
  subst hu2
  exact cell_spot hok)
end
theorem rel_ones {e : Vl} {σ : List (Nat × Nat × Nat)} : ∀ {cs : List C} {us : List Value}, RelCs e σ cs us → RelVs e σ (cs.map .one) us
 | _, _, .nil => .nil
 | _, _, .cons h t => .cons (.one h) (rel_ones t)
end Go.Proofs.Ytedfbamihjnhhaa.Own
end
section
namespace Go.Proofs.Ytedfbamihjnhhaa.Own
open Go Go.RowKit Go.Proofs Go.Proofs.Ytedfbamihjnhhaa.Plain
set_option linter.unusedVariables false
set_option linter.unusedSectionVars false
set_option linter.unusedSimpArgs false
set_option maxRecDepth 100000
def AllM (xs : List Int) : List (SE × Bool) → Prop
 | [] => True
 | p :: r => (isBool p.1 = true ∧ (p.1.val (wmE xs) != 0) = p.2) ∧ AllM xs r
theorem AllM.knows {xs : List Int} : ∀ {l : List (SE × Bool)}, AllM xs l → Knows (wmE xs) l
 | [], _ => .nil
 | (x, b) :: r, h => .cons (by rw [eS_k (isBool_ty h.1.1)]; show Value.bool _ = _; rw [show (x.val (wmE xs) != 0) = b from h.1.2]) (AllM.knows h.2)
section
variable {xs : List Int} (hl : WtLen xs)
include hl
theorem wm_all_t (hb : decide (128 ≤ wtHow xs) = true) : AllM xs wmD_t := ⟨⟨rfl, wm_fact (by kernel_rfl) (by
  have v : ∀ a b : SE, ((SE.cmp .geq a b).val (wtEnv xs) != 0) = decide (a.val (wtEnv xs) ≥ b.val (wtEnv xs)) := fun a b => by simp only [SE.val, b2i_ne, valCmp]
  have e1 : (SE.ivar .u8 4).val (wtEnv xs) = wtHow xs := by unfold wtHow wtEnv; rw [iu_at]
  have e2 : (SE.lit .u8 128).val (wtEnv xs) = 128 := by simp only [SE.val]; rfl
  unfold wtH0
  rw [v, e1, e2, ← hb])⟩, ⟨rfl, wm_fact (by kernel_rfl) (k0 hl)⟩,
 ⟨rfl, wm_fact (by kernel_rfl) (k1)⟩,
 ⟨rfl, wm_fact (by kernel_rfl) (k2 xs)⟩,
 ⟨rfl, wm_fact (by kernel_rfl) (k3 xs)⟩,
 ⟨rfl, wm_fact (by kernel_rfl) (k4 xs)⟩,
 ⟨rfl, wm_fact (by kernel_rfl) (k26 xs)⟩,
 ⟨rfl, wm_fact (by kernel_rfl) (k33 xs)⟩,
 ⟨rfl, wm_fact (by kernel_rfl) (k34 hl)⟩,
 ⟨rfl, wm_fact (by kernel_rfl) (k35 hl)⟩,
 ⟨rfl, wm_fact (by kernel_rfl) (k45 hl)⟩,
 ⟨rfl, mf0 hl⟩,
 ⟨rfl, wm_fact (by kernel_rfl) (k6 hl)⟩,
 ⟨rfl, wm_fact (by kernel_rfl) (k7 hl)⟩,
 ⟨rfl, mf1 hl⟩,
 ⟨rfl, mf2 hl⟩,
 ⟨rfl, mf3 xs⟩,
 ⟨rfl, mf4 xs⟩,
 ⟨rfl, mf5 xs⟩,
 ⟨rfl, mf6 xs⟩,
 ⟨rfl, mf7 xs⟩,
 ⟨rfl, mf8 hl⟩,
 ⟨rfl, mf9 hl⟩,
 ⟨rfl, wm_fact (by kernel_rfl) (k47 hl)⟩,
 ⟨rfl, wm_fact (by kernel_rfl) (k32 hl)⟩,
 ⟨rfl, wm_fact (by kernel_rfl) (k13 hl)⟩,
 ⟨rfl, wm_fact (by kernel_rfl) (k39 hl)⟩,
 ⟨rfl, mf10 hl⟩,
 ⟨rfl, wm_fact (by kernel_rfl) (k24 xs)⟩,
 ⟨rfl, wm_fact (by kernel_rfl) (k27 xs)⟩,
 ⟨rfl, wm_fact (by kernel_rfl) (k28 xs)⟩,
 ⟨rfl, wm_fact (by kernel_rfl) (k30 xs)⟩,
 ⟨rfl, wm_fact (by kernel_rfl) (k5 hl)⟩,
 ⟨rfl, wm_fact (by kernel_rfl) (k8 hl)⟩,
 ⟨rfl, wm_fact (by kernel_rfl) (k9 hl)⟩,
 ⟨rfl, wm_fact (by kernel_rfl) (k10 hl)⟩,
 ⟨rfl, wm_fact (by kernel_rfl) (k11 hl)⟩,
 ⟨rfl, wm_fact (by kernel_rfl) (k12 hl)⟩,
 ⟨rfl, wm_fact (by kernel_rfl) (k38 xs)⟩, trivial⟩
theorem wm_all_f (hb : decide (128 ≤ wtHow xs) = false) : AllM xs wmD_f := ⟨⟨rfl, wm_fact (by kernel_rfl) (by
  have v : ∀ a b : SE, ((SE.cmp .geq a b).val (wtEnv xs) != 0) = decide (a.val (wtEnv xs) ≥ b.val (wtEnv xs)) := fun a b => by simp only [SE.val, b2i_ne, valCmp]
  have e1 : (SE.ivar .u8 4).val (wtEnv xs) = wtHow xs := by unfold wtHow wtEnv; rw [iu_at]
  have e2 : (SE.lit .u8 128).val (wtEnv xs) = 128 := by simp only [SE.val]; rfl
  unfold wtH0
  rw [v, e1, e2, ← hb])⟩, ⟨rfl, wm_fact (by kernel_rfl) (k0 hl)⟩,
 ⟨rfl, wm_fact (by kernel_rfl) (k1)⟩,
 ⟨rfl, wm_fact (by kernel_rfl) (k2 xs)⟩,
 ⟨rfl, wm_fact (by kernel_rfl) (k3 xs)⟩,
 ⟨rfl, wm_fact (by kernel_rfl) (k4 xs)⟩,
 ⟨rfl, wm_fact (by kernel_rfl) (k26 xs)⟩,
 ⟨rfl, wm_fact (by kernel_rfl) (k33 xs)⟩,
 ⟨rfl, wm_fact (by kernel_rfl) (k34 hl)⟩,
 ⟨rfl, wm_fact (by kernel_rfl) (k35 hl)⟩,
 ⟨rfl, mf0 hl⟩,
 ⟨rfl, mf3 xs⟩,
 ⟨rfl, mf4 xs⟩,
 ⟨rfl, mf5 xs⟩,
 ⟨rfl, mf6 xs⟩,
 ⟨rfl, mf7 xs⟩,
 ⟨rfl, wm_fact (by kernel_rfl) (k47 hl)⟩,
 ⟨rfl, wm_fact (by kernel_rfl) (k13 hl)⟩,
 ⟨rfl, wm_fact (by kernel_rfl) (k39 hl)⟩,
 ⟨rfl, mf10 hl⟩,
 ⟨rfl, wm_fact (by kernel_rfl) (k24 xs)⟩,
 ⟨rfl, wm_fact (by kernel_rfl) (k27 xs)⟩,
 ⟨rfl, wm_fact (by kernel_rfl) (k28 xs)⟩,
 ⟨rfl, wm_fact (by kernel_rfl) (k30 xs)⟩,
 ⟨rfl, wm_fact (by kernel_rfl) (k5 hl)⟩,
 ⟨rfl, wm_fact (by kernel_rfl) (k9 hl)⟩,
 ⟨rfl, wm_fact (by kernel_rfl) (k10 hl)⟩,
 ⟨rfl, wm_fact (by kernel_rfl) (k38 xs)⟩,
 ⟨rfl, wm_fact (by kernel_rfl) (k14 hl)⟩,
 ⟨rfl, wm_fact (by kernel_rfl) (k40 hl)⟩,
 ⟨rfl, wm_fact (by kernel_rfl) (k46 hl)⟩,
 ⟨rfl, wm_fact (by kernel_rfl) (k15 hl)⟩,
 ⟨rfl, wm_fact (by kernel_rfl) (k16 hl)⟩,
 ⟨rfl, mf11 hl⟩,
 ⟨rfl, mf12 hl⟩,
 ⟨rfl, mf13 hl⟩,
 ⟨rfl, mf14 hl⟩,
 ⟨rfl, mf15 hl⟩,
 ⟨rfl, mf16 hl⟩,
 ⟨rfl, wm_fact (by kernel_rfl) (k17 hl)⟩,
 ⟨rfl, wm_fact (by kernel_rfl) (k18 hl)⟩,
 ⟨rfl, wm_fact (by kernel_rfl) (k19 hl)⟩,
 ⟨rfl, wm_fact (by kernel_rfl) (k20 hl)⟩,
 ⟨rfl, wm_fact (by kernel_rfl) (k21 hl)⟩, trivial⟩
end
section
variable {xs : List Int} {σ : List (Nat × Nat × Nat)} {us : List Value} {w : World} (hl : WtLen xs) (hn : σ.length = 4) (hus : RelVs (eV (wmE xs)) σ wmA us) (hF : FR (bW.loops Lm7_L).P (eV (wmE xs)) σ [wtM] w)
include hl hn hus hF
theorem wm_law : Calls Try.prog 7 (List.toArray us) w fun en w' => en = .returned (.bool true) ∧ Below w.heap.size w w' := by
 cases hb : decide (128 ≤ wtHow xs) with
 | true => exact law_soundK (b := bW.loops Lm7_L) (Tb := Lm7_T) (K := wtK) (loops_ok bW_ok _) wtK_ok (lb_of Lm7_lb) Lm7_ok (E := wmE xs) rfl hn hus hF .done wmD_t wmC_t (wm_all_t hl hb).knows trivial
 | false => exact law_soundK (b := bW.loops Lm7_L) (Tb := Lm7_T) (K := wtK) (loops_ok bW_ok _) wtK_ok (lb_of Lm7_lb) Lm7_ok (E := wmE xs) rfl hn hus hF .done wmD_f wmC_f (wm_all_f hl hb).knows trivial
end
noncomputable def wmLs : List Lf := [.sl 5 [some .u8], .sl 5 [some .u8], .sl 5 [some .u8], .sl 5 [some .u8], .num (some .u8)]
theorem wm_row {us : List Value} {xs : List Int} {ss : List (Nat × Nat × Nat)} {w : World} (h : LfsOK w wmLs us xs ss) : Calls Try.prog 7 (List.toArray us) w fun en w' => en = .returned (.bool true) ∧ Below w.heap.size w w' := by
 have h2 := symL_rel (P := (bW.loops Lm7_L).P) (E := wmE xs) (σ := ss) h 0 0 (fun i _ => by rw [Nat.zero_add]; exact ⟨rfl, rfl⟩) (fun i x hi => by rw [Nat.zero_add]; exact hi)
 have hn : ss.length = 4 := h.slen
 have hl : WtLen xs := ⟨h.atL 0 rfl, h.atL 1 rfl, h.atL 2 rfl, h.atL 3 rfl⟩
 exact wm_law hl hn (rel_ones h2.1) h2.2
end Go.Proofs.Ytedfbamihjnhhaa.Own
end
