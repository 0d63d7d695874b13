/- A world made: the document's loops that find nothing. -/
/- A world made: what is known. -/
import Derived.Test.YtedfbamihjnhhaaWmH
section
namespace Go.Proofs.Ytedfbamihjnhhaa.Own
open Go Go.RowKit Go.Proofs Go.Proofs.Ytedfbamihjnhhaa.Plain
set_option linter.unusedVariables false
set_option linter.unusedSectionVars false
set_option linter.unusedSimpArgs false
set_option maxRecDepth 100000
theorem lensub_v {F : Nat → List Int → List Int} {xs : List Int} {lv n : Nat} (h : (dec (xs.getD lv 0)).length = n) (hn : n ≤ 1000000) : (SE.bin .sub .i64 (.len (.lvar lv)) (.lit .i64 1)).val (envOf F xs) = (n : Int) - 1 := by
 rw [v_bin, len_at h (le_max hn), v_lit, w1i]
 show IntKind.i64.wrap ((n : Int) - 1) = _
 rw [IntKind.wrap_i64]; omega
theorem q1a_get : ∃ N O : List SE, ∀ E : Env, q1aT.get E = bif (SE.cmp .lss (.ivar .i64 23) (.len (.lvar 13))).val E != 0 then (bif (SE.not (.app 90 0 none (elB 22 23))).val E != 0 then (some 0, []) else (bif (SE.not (.app 53 0 none (.cons (.el (some .i64) (.lvar 15) (.ivar .i64 23) 0) (.cons (.lit .i64 (-1)) (.cons (.bin .sub .i64 (.len (.lvar 14)) (.lit .i64 1)) .nil))))).val E != 0 then (some 0, []) else (none, N.map (SE.val E)))) else (some 1, O.map (SE.val E)) := ⟨_, _, fun E => rfl⟩
theorem q1a_all (F : Nat → List Int → List Int) (zs : List Int) (hn : (dec (zs.getD 13 0)).length ≤ 1000000) (hr : (dec (zs.getD 14 0)).length ≤ 1000000) (hq : ∀ i, i < (dec (zs.getD 13 0)).length → F 90 (wr ((dec (zs.getD 22 0)).getD i [])) = [1] ∧ F 53 [IntKind.i64.wrap (((dec (zs.getD 15 0)).getD i []).getD 0 0), -1, ((dec (zs.getD 14 0)).length : Int) - 1] = [1]) : ∃ ys, q1aG F zs = 1 :: ys := by
 obtain ⟨N, O, hget⟩ := q1a_get
 refine lp_good (range_good (T := q1aT) (c := 23) (lv := 13) (ex := q1aE) (by kernel_rfl) (fun xs => xs.getD 13 0 = zs.getD 13 0 ∧ xs.getD 14 0 = zs.getD 14 0 ∧ xs.getD 15 0 = zs.getD 15 0 ∧ xs.getD 22 0 = zs.getD 22 0) (fun xs ys hJ hy => ?_) (fun xs i hJ hc hi e ys hg => ?_) _ 0 0 _ (at_lit (I := q1aI) (by kernel_rfl)) (by rw [at_lvar (I := q1aI) (j0 := 13) (by kernel_rfl)]; unfold q1aU; omega) (Nat.succ_pos _) (by rw [at_lvar (I := q1aI) (j0 := 13) (by kernel_rfl)]; exact le_max hn) ⟨at_lvar (I := q1aI) (c := 13) (j0 := 13) (by kernel_rfl), at_lvar (I := q1aI) (c := 14) (j0 := 14) (by kernel_rfl), at_lvar (I := q1aI) (c := 15) (j0 := 15) (by kernel_rfl), at_lvar (I := q1aI) (c := 22) (j0 := 22) (by kernel_rfl)⟩)
 ·have hB := (cB_get (hc := q1aC) (outs := q1aL.outs) (F := F) (xs := xs) (t := q1aT) (by kernel_rfl)).1 ys hy
  have h0 : ys.getD 13 0 = xs.getD 13 0 := hB (13, 13, none) (by simp [q1aC])
  have h1 : ys.getD 14 0 = xs.getD 14 0 := hB (14, 14, none) (by simp [q1aC])
  have h2 : ys.getD 15 0 = xs.getD 15 0 := hB (15, 15, none) (by simp [q1aC])
  have h3 : ys.getD 22 0 = xs.getD 22 0 := hB (22, 22, none) (by simp [q1aC])
  exact ⟨h0.trans hJ.1, h1.trans hJ.2.1, h2.trans hJ.2.2.1, h3.trans hJ.2.2.2⟩
 ·obtain ⟨j0, j1, j2, j3⟩ := hJ
  rw [j0] at hi
  have him : i ≤ 1000000 := by omega
  have m1 : IntKind.i64.wrap (-1) = -1 := rfl
  rw [hget, guard_x hc him (by rw [j0]; exact hn), j0] at hg
  by_cases hlt : i < (dec (zs.getD 13 0)).length
  ·obtain ⟨hb, ha⟩ := hq i hlt
   rw [decide_eq_true hlt, cond_true, ap_n (b := true) (by rw [elB_v hc him, j3]; exact hb), Bool.not_true, cond_false,
    ap_n (b := true) (by rw [vals_c, vals_c, vals_c, vals_n, el_x hc him, lensub_v rfl (by rw [j1]; exact hr), v_lit, m1, j2, j1]; exact ha), Bool.not_true, cond_false] at hg
   cases hg
  ·rw [decide_eq_false hlt, cond_false] at hg
   cases hg; rfl
theorem q3a_get : ∃ N O : List SE, ∀ E : Env, q3aT.get E = bif (SE.cmp .lss (.ivar .i64 23) (.len (.lvar 14))).val E != 0 then (bif (SE.not (.app 91 0 none (elR 14 23))).val E != 0 then (some 0, []) else (none, N.map (SE.val E))) else (some 1, O.map (SE.val E)) := ⟨_, _, fun E => rfl⟩
theorem q3a_all (F : Nat → List Int → List Int) (zs : List Int) (hn : (dec (zs.getD 14 0)).length ≤ 1000000) (hq : ∀ i, i < (dec (zs.getD 14 0)).length → F 91 (wrR ((dec (zs.getD 14 0)).getD i []) (i : Int)) = [1]) : ∃ ys, q3aG F zs = 1 :: ys := by
 obtain ⟨N, O, hget⟩ := q3a_get
 refine lp_good (range_good (T := q3aT) (c := 23) (lv := 14) (ex := []) (by kernel_rfl) (fun xs => xs.getD 14 0 = zs.getD 14 0) (fun xs ys hJ hy => ?_) (fun xs i hJ hc hi e ys hg => ?_) _ 0 0 _ (at_lit (I := q3aI) (by kernel_rfl)) (by rw [at_lvar (I := q3aI) (j0 := 14) (by kernel_rfl)]; unfold q3aU; omega) (Nat.succ_pos _) (by rw [at_lvar (I := q3aI) (j0 := 14) (by kernel_rfl)]; exact le_max hn) (at_lvar (I := q3aI) (c := 14) (j0 := 14) (by kernel_rfl)))
 ·have hB := (cB_get (hc := q3aC) (outs := q3aL.outs) (F := F) (xs := xs) (t := q3aT) (by kernel_rfl)).1 ys hy
  have h0 : ys.getD 14 0 = xs.getD 14 0 := hB (14, 14, none) (by simp [q3aC])
  exact h0.trans hJ
 ·have hJ : xs.getD 14 0 = zs.getD 14 0 := hJ
  rw [hJ] at hi
  have him : i ≤ 1000000 := by omega
  rw [hget, guard_x hc him (by rw [hJ]; exact hn), hJ] at hg
  by_cases hlt : i < (dec (zs.getD 14 0)).length
  ·rw [decide_eq_true hlt, cond_true, ap_n (b := true) (by rw [elR_v hc him, hJ]; exact hq i hlt), Bool.not_true, cond_false] at hg
   cases hg
  ·rw [decide_eq_false hlt, cond_false] at hg
   cases hg; rfl
theorem q3b_get : ∃ N O : List SE, ∀ E : Env, q3bT.get E = bif (SE.cmp .lss (.ivar .i64 24) (.len (.lvar 15))).val E != 0 then (bif (SE.not (.app 91 0 none (elR 15 24))).val E != 0 then (some 0, []) else (none, N.map (SE.val E))) else (some 1, O.map (SE.val E)) := ⟨_, _, fun E => rfl⟩
theorem q3b_all (F : Nat → List Int → List Int) (zs : List Int) (hn : (dec (zs.getD 15 0)).length ≤ 1000000) (hq : ∀ i, i < (dec (zs.getD 15 0)).length → F 91 (wrR ((dec (zs.getD 15 0)).getD i []) (i : Int)) = [1]) : ∃ ys, q3bG F zs = 1 :: ys := by
 obtain ⟨N, O, hget⟩ := q3b_get
 refine lp_good (range_good (T := q3bT) (c := 24) (lv := 15) (ex := []) (by kernel_rfl) (fun xs => xs.getD 15 0 = zs.getD 15 0) (fun xs ys hJ hy => ?_) (fun xs i hJ hc hi e ys hg => ?_) _ 0 0 _ (at_lit (I := q3bI) (by kernel_rfl)) (by rw [at_lvar (I := q3bI) (j0 := 15) (by kernel_rfl)]; unfold q3bU; omega) (Nat.succ_pos _) (by rw [at_lvar (I := q3bI) (j0 := 15) (by kernel_rfl)]; exact le_max hn) (at_lvar (I := q3bI) (c := 15) (j0 := 15) (by kernel_rfl)))
 ·have hB := (cB_get (hc := q3bC) (outs := q3bL.outs) (F := F) (xs := xs) (t := q3bT) (by kernel_rfl)).1 ys hy
  have h0 : ys.getD 15 0 = xs.getD 15 0 := hB (15, 15, none) (by simp [q3bC])
  exact h0.trans hJ
 ·have hJ : xs.getD 15 0 = zs.getD 15 0 := hJ
  rw [hJ] at hi
  have him : i ≤ 1000000 := by omega
  rw [hget, guard_x hc him (by rw [hJ]; exact hn), hJ] at hg
  by_cases hlt : i < (dec (zs.getD 15 0)).length
  ·rw [decide_eq_true hlt, cond_true, ap_n (b := true) (by rw [elR_v hc him, hJ]; exact hq i hlt), Bool.not_true, cond_false] at hg
   cases hg
  ·rw [decide_eq_false hlt, cond_false] at hg
   cases hg; rfl
theorem q2b_get : ∃ N O : List SE, ∀ E : Env, q2bT.get E = bif (SE.cmp .lss (.ivar .i64 25) (.len (.lvar 14))).val E != 0 then (bif (SE.not (.app 53 0 none (.cons (.el (some .i64) (.lvar 14) (.ivar .i64 25) 0) (.cons (.lit .i64 0) (.cons (.bin .sub .i64 (.ivar .i64 24) (.lit .i64 1)) .nil))))).val E != 0 then (some 0, []) else (bif (SE.not (.app 53 0 none (.cons (.el (some .i64) (.lvar 14) (.ivar .i64 25) 1) (.cons (.lit .i64 0) (.cons (.bin .sub .i64 (.ivar .i64 24) (.lit .i64 1)) .nil))))).val E != 0 then (some 0, []) else
  (bif (SE.cmp .eql (.el (some .i64) (.lvar 14) (.ivar .i64 25) 0) (.el (some .i64) (.lvar 14) (.ivar .i64 25) 1)).val E != 0 then (some 0, []) else (bif (SE.not (.app 54 0 none (.cons (.el (some .i64) (.lvar 14) (.ivar .i64 25) 2) (.cons (.el (some .u64) (.lvar 14) (.ivar .i64 25) 3) (.cons (.lit .i64 1073741824) .nil))))).val E != 0 then (some 0, []) else (bif (SE.and (.cmp .eql (.el (some .i64) (.lvar 14) (.ivar .i64 25) 2) (.lit .i64 0)) (.and (.cmp .eql (.el (some .u64) (.lvar 14) (.ivar .i64 25) 3) (.lit .u64 0)) (.cmp .eql (.lit .i64 1) (.lit .i64 1)))).val E != 0 then (some 0, []) else
  (bif (SE.not (.app 54 0 none (.cons (.el (some .i64) (.lvar 14) (.ivar .i64 25) 4) (.cons (.el (some .u64) (.lvar 14) (.ivar .i64 25) 5) (.cons (.lit .i64 1099511627776) .nil))))).val E != 0 then (some 0, []) else (none, N.map (SE.val E)))))))) else (some 1, O.map (SE.val E)) := ⟨_, _, fun E => rfl⟩
theorem q2b_all (F : Nat → List Int → List Int) (zs : List Int) (n : Int) (hn : (dec (zs.getD 14 0)).length ≤ 1000000) (h24 : zs.getD 24 0 = n) (hm : 0 ≤ n ∧ n ≤ 1000000) (hq : ∀ i, i < (dec (zs.getD 14 0)).length → TeOK (F 53) (F 54) n ((dec (zs.getD 14 0)).getD i [])) : ∃ ys, q2bG F zs = 1 :: ys := by
 obtain ⟨N, O, hget⟩ := q2b_get
 have wn : IntKind.i64.wrap n = n := by rw [IntKind.wrap_i64]; omega
 have ini : (q2bI.map (SE.val (envOf F zs))).getD 24 0 = n := by
  have : (q2bI.map (SE.val (envOf F zs))).getD 24 0 = (SE.ivar .i64 24).val (envOf F zs) := rfl
  rw [this, iu_at, h24]; exact wn
 refine lp_good (range_good (T := q2bT) (c := 25) (lv := 14) (ex := []) (by kernel_rfl) (fun xs => xs.getD 14 0 = zs.getD 14 0 ∧ IntKind.i64.wrap (xs.getD 24 0) = n) (fun xs ys hJ hy => ?_) (fun xs i hJ hc hi e ys hg => ?_) _ 0 0 _ (at_lit (I := q2bI) (by kernel_rfl)) (by rw [at_lvar (I := q2bI) (j0 := 14) (by kernel_rfl)]; unfold q2bU; omega) (Nat.succ_pos _) (by rw [at_lvar (I := q2bI) (j0 := 14) (by kernel_rfl)]; exact le_max hn) ⟨at_lvar (I := q2bI) (c := 14) (j0 := 14) (by kernel_rfl), by rw [ini, wn]⟩)
 ·have hB := (cB_get (hc := q2bC) (outs := q2bL.outs) (F := F) (xs := xs) (t := q2bT) (by kernel_rfl)).1 ys hy
  have h0 : ys.getD 14 0 = xs.getD 14 0 := hB (14, 14, none) (by simp [q2bC])
  have h1 : wrK (some .i64) (ys.getD 24 0) = wrK (some .i64) (xs.getD 24 0) := hB (24, 24, some (some .i64)) (by simp [q2bC])
  exact ⟨h0.trans hJ.1, h1.trans hJ.2⟩
 ·obtain ⟨hJ, hJ1⟩ := hJ
  rw [hJ] at hi
  have him : i ≤ 1000000 := by omega
  rw [hget, guard_x hc him (by rw [hJ]; exact hn), hJ] at hg
  by_cases hlt : i < (dec (zs.getD 14 0)).length
  ·obtain ⟨ha, hb, hne, hlen, hlo, hlim⟩ := hq i hlt
   have w0 : IntKind.i64.wrap 0 = 0 := rfl
   have wL : IntKind.i64.wrap 1073741824 = 1073741824 := rfl
   have wM : IntKind.i64.wrap 1099511627776 = 1099511627776 := rfl
   have k3 : ((SE.cmp .eql (.el (some .i64) (.lvar 14) (.ivar .i64 25) 0) (.el (some .i64) (.lvar 14) (.ivar .i64 25) 1)).val (envOf F xs) != 0) = false := by
    rw [v_cmp, el_x hc him, el_x hc him, hJ]; exact beq_eq_false_iff_ne.2 hne
   have k5 : ((SE.and (.cmp .eql (.el (some .i64) (.lvar 14) (.ivar .i64 25) 2) (.lit .i64 0)) (.and (.cmp .eql (.el (some .u64) (.lvar 14) (.ivar .i64 25) 3) (.lit .u64 0)) (.cmp .eql (.lit .i64 1) (.lit .i64 1)))).val (envOf F xs) != 0) = false := by
    have q : ((SE.cmp .eql (.el (some .u64) (.lvar 14) (.ivar .i64 25) 3) (.lit .u64 0)).val (envOf F xs) != 0) = false := by
     rw [v_cmp, el_x hc him, hJ, v_lit]; exact beq_eq_false_iff_ne.2 hlo
    rw [v_and, v_and, q, Bool.false_and, Bool.and_false]
   rw [decide_eq_true hlt, cond_true, ap_n (b := true) (by rw [vals_c, vals_c, vals_c, vals_n, el_x hc him, sub1_v hJ1 hm, v_lit, w0, hJ]; exact ha), Bool.not_true, cond_false,
    ap_n (b := true) (by rw [vals_c, vals_c, vals_c, vals_n, el_x hc him, sub1_v hJ1 hm, v_lit, w0, hJ]; exact hb), Bool.not_true, cond_false, k3, cond_false,
    ap_n (b := true) (by rw [vals_c, vals_c, vals_c, vals_n, el_x hc him, el_x hc him, v_lit, wL, hJ]; exact hlen), Bool.not_true, cond_false, k5, cond_false,
    ap_n (b := true) (by rw [vals_c, vals_c, vals_c, vals_n, el_x hc him, el_x hc him, v_lit, wM, hJ]; exact hlim), Bool.not_true, cond_false] at hg
   cases hg
  ·rw [decide_eq_false hlt, cond_false] at hg
   cases hg; rfl
end Go.Proofs.Ytedfbamihjnhhaa.Own
end
section
namespace Go.Proofs.Ytedfbamihjnhhaa.Own
open Go Go.RowKit Go.Proofs Go.Proofs.Ytedfbamihjnhhaa.Plain
set_option linter.unusedVariables false
set_option linter.unusedSectionVars false
set_option linter.unusedSimpArgs false
set_option maxRecDepth 100000
noncomputable def wmE (xs : List Int) : Env := envOf (FT Lm7_T) xs
theorem wm_old (xs : List Int) (x : SE) (h : x.fsB (fun f => (Lm7_T.take 28).all fun e => !Nat.beq f e.f) = true) : x.val (wmE xs) = x.val (wtEnv xs) :=
 val_drop 28 (by kernel_rfl) xs x h
theorem wm_fact {xs : List Int} {x : SE} {b : Bool} (h : x.fsB (fun f => (Lm7_T.take 28).all fun e => !Nat.beq f e.f) = true) (hx : (x.val (wtEnv xs) != 0) = b) : (x.val (wmE xs) != 0) = b := by
 rw [wm_old xs x h]; exact hx
theorem fm31 : FT Lm7_T 20031 = mrG (FT Tr5_T) := (FT_at 28 (by kernel_rfl) (by kernel_rfl)).trans ft31
theorem fm61 : FT Lm7_T 20061 = ib2G (FT Lm5_T) := (FT_at 28 (by kernel_rfl) (by kernel_rfl)).trans ft61
theorem fm33 : FT Lm7_T 20033 = itG (FT Lm1_Tib) := (FT_at 44 (Tb' := Lm1_Tit) (by kernel_rfl) (by kernel_rfl)).trans (FT_hd (Tb := Lm1_Tit) rfl rfl)
theorem fm34 : FT Lm7_T 20034 = iaG (FT Lm1_Tit) := (FT_at 43 (Tb' := Lm1_Tia) (by kernel_rfl) (by kernel_rfl)).trans (FT_hd (Tb := Lm1_Tia) rfl rfl)
theorem fm71 : FT Lm7_T 20071 = q1bG (FT Tr7_T) := (FT_at 5 (Tb' := Lm7_Tq1b) (by kernel_rfl) (by kernel_rfl)).trans (FT_hd (Tb := Lm7_Tq1b) rfl rfl)
theorem fm72 : FT Lm7_T 20072 = q2bG (FT Lm7_Tq1b) := (FT_at 4 (Tb' := Lm7_Tq2b) (by kernel_rfl) (by kernel_rfl)).trans (FT_hd (Tb := Lm7_Tq2b) rfl rfl)
theorem fm73 : FT Lm7_T 20073 = q3bG (FT Lm7_Tq2b) := (FT_at 3 (Tb' := Lm7_Tq3b) (by kernel_rfl) (by kernel_rfl)).trans (FT_hd (Tb := Lm7_Tq3b) rfl rfl)
theorem fm81 : FT Lm7_T 20081 = q1aG (FT Lm7_Tq3b) := (FT_at 2 (Tb' := Lm7_Tq1a) (by kernel_rfl) (by kernel_rfl)).trans (FT_hd (Tb := Lm7_Tq1a) rfl rfl)
theorem fm83 : FT Lm7_T 20083 = q3aG (FT Lm7_Tq2a) := (FT_at 0 (Tb' := Lm7_Tq3a) (by kernel_rfl) (by kernel_rfl)).trans (FT_hd (Tb := Lm7_Tq3a) rfl rfl)
theorem e42 : FT Tr5_T 42 = FT Tr5_T42 42 := FT_at 15 (by kernel_rfl) (by kernel_rfl)
theorem eql_1 {F : Nat → List Int → List Int} {xs : List Int} {f : Nat} {zs : SE} {w : List Int} (h : F f (zs.vals (envOf F xs)) = 1 :: w) : ((SE.cmp .eql (.app f 0 (some .i64) zs) (.lit .i64 0)).val (envOf F xs) != 0) = false := by
 rw [v_cmp, v_app, h, List.getD_cons_zero, l_i0]; rfl
theorem al_wr (el : List Int) : al (wr el) = wr el := rfl
theorem f44n (el : List Int) : FT Lm5_T 44 (wr el) = [b2i (!mayB (wr el))] := by
 have e : (SE.not (.app 45 0 none aB)).val (envOf (FT Tr5_T45) (wr el)) = b2i (!((SE.app 45 0 none aB).val (envOf (FT Tr5_T45) (wr el)) != 0)) := by simp only [SE.val]
 have t : tr44 = .leaf (.one (.opq (.not (.app 45 0 none aB)))) := rfl
 have h := f45n (wr_in el)
 rw [g44, t]
 refine tf_1 ?_
 rw [e, ap_b (b := mayB (wr el)) (by rw [aB_v (wr_in el), al_wr]; exact h), b2i_ne]
section
variable {xs : List Int} (hl : WtLen xs)
include hl
theorem bd0 (i : Nat) (hi : i < (dec (wtL0.val (wtEnv xs))).length) : BdT ((dec (wtL0.val (wtEnv xs))).getD i []) := by
 refine bdT_of ((wt_L0 hl).2 _ ?_)
 rw [List.getD_eq_getElem?_getD, List.getElem?_eq_getElem hi, Option.getD_some]
 exact List.getElem_mem hi
theorem bd5 (i : Nat) (hi : i < (dec (wtL0.val (wtEnv xs))).length) : BdT ((dec (wtL5.val (wtEnv xs))).getD i []) := bdT_th ((wt_L5 hl).2 i) (bd0 hl i hi)
theorem bd10 (i : Nat) (hi : i < (dec (wtL0.val (wtEnv xs))).length) : BdT ((dec (wtL10.val (wtEnv xs))).getD i []) := by
 refine bdT_th ((wt_L10 hl).2 i) ?_
 have : (dec (wtL7.val (wtEnv xs))).getD i [] = nearB ((dec (wtL0.val (wtEnv xs))).getD i []) := by
  rw [wt_L7 hl, List.getD_eq_getElem?_getD, List.getD_eq_getElem?_getD, List.getElem?_map, List.getElem?_eq_getElem hi]; rfl
 rw [this]; exact bdT_near (bd0 hl i hi)
theorem wt_ra : ∀ (j : Nat) (el : List Int), (dec (wtL6.val (wtEnv xs)))[j]? = some el → isRa (FT Lm5_Twl) j el := by
 have e : wtL6.val (wtEnv xs) = (raG (FT Lm5_Twl) [xs.getD 2 0]).getD 1 0 := by
  unfold wtL6 wtEnv; rw [lap_at, ft57]; simp only [vals_c, vals_n, lvar_at]
 have hp : Pre raL (FT Lm5_Twl) [xs.getD 2 0] := ⟨fun c hc => by
  have hc : c ∈ [(0, 0)] := hc
  simp only [List.mem_singleton] at hc; subst hc; exact hl.l2, fun c hc => (by cases hc), fun c hc => (by cases hc)⟩
 obtain ⟨ys, h1, h2, h3⟩ := ra_val (FT Lm5_Twl) [xs.getD 2 0] hp
 rw [e, h1]; exact h3
theorem rail_ok (i : Nat) (hi : i < (dec (wtL6.val (wtEnv xs))).length) : mayR (wrR ((dec (wtL6.val (wtEnv xs))).getD i []) (i : Int)) = true := by
 have h6 := wt_L6 hl
 have hF : FT Lm5_Twl 22 = FT Tr5_T22 22 := FT_at 44 (by kernel_rfl) (by kernel_rfl)
 refine mayR_ok (by omega) hF (wt_ra hl i _ ?_)
 rw [List.getD_eq_getElem?_getD, List.getElem?_eq_getElem hi, Option.getD_some]
theorem rail_in (i : Nat) (hi : i < (dec (wtL6.val (wtEnv xs))).length) : RaIn (wrR ((dec (wtL6.val (wtEnv xs))).getD i []) (i : Int)) := by
 have h6 := wt_L6 hl
 exact wrR_in _ (by show IntKind.i64.wrap _ = _; rw [IntKind.wrap_i64]; omega)
theorem rep_get (n i : Nat) (hi : i < n) : (List.replicate n [(-1 : Int)]).getD i [] = [-1] := by
 rw [List.getD_eq_getElem?_getD, List.getElem?_replicate, if_pos hi]; rfl
theorem te_ok {f g : List Int → List Int} (hf : ∀ a b c : Int, inK (some .i64) a → inK (some .i64) b → inK (some .i64) c → f [a, b, c] = [b2i (decide (b ≤ a) && decide (a ≤ c))])
  (hg : ∀ a b c : Int, inK (some .i64) a → inK (some .u64) b → 0 ≤ c ∧ c ≤ 1152921504606846976 → g [a, b, c] = [b2i (inF a b 0 (nn c 0))])
  (i : Nat) (hi : i < (dec (wtL9.val (wtEnv xs))).length) : TeOK f g ((dec (wtL0.val (wtEnv xs))).length : Int) ((dec (wtL9.val (wtEnv xs))).getD i []) := by
 have hn := n_in hl
 have hmem : (dec (wtL9.val (wtEnv xs))).getD i [] ∈ dec (wtL9.val (wtEnv xs)) := by
  rw [List.getD_eq_getElem?_getD, List.getElem?_eq_getElem hi, Option.getD_some]
  exact List.getElem_mem hi
 obtain ⟨a, b, h, q, ha, hb, hne, hh, hq, hel⟩ := (wt_L9 hl).2 _ hmem
 have hF : FT Lm4_T 22 = FT Tr5_T22 22 := FT_at 41 (by kernel_rfl) (by kernel_rfl)
 have wi : ∀ v : Int, -1000000000 ≤ v ∧ v ≤ 1000000000 → IntKind.i64.wrap v = v := fun v h => by rw [IntKind.wrap_i64]; omega
 rw [hF, f22b (n := q) ⟨by omega, by omega⟩] at hel
 have e3 : wrK (some .i64) (([q, 0] : List Int).getD 0 0) = q := by show IntKind.i64.wrap q = _; exact wi _ (by omega)
 have e4 : wrK (some .u64) (([q, 0] : List Int).getD 1 0) = 0 := rfl
 rw [e3, e4] at hel
 rw [hel]
 have wa := wi a (by omega)
 have wb := wi b (by omega)
 have wh := wi h (by omega)
 have wq := wi q (by omega)
 have w3 : IntKind.u64.wrap 2305843009213693952 = 2305843009213693952 := rfl
 have w5 : IntKind.u64.wrap 0 = 0 := rfl
 have kn : inK (some .i64) (((dec (wtL0.val (wtEnv xs))).length : Int) - 1) := wi _ (by omega)
 refine ⟨?_, ?_, ?_, ?_, ?_, ?_⟩ <;> simp only [List.getD_cons_zero, List.getD_cons_succ]
 ·rw [wa, hf a 0 (((dec (wtL0.val (wtEnv xs))).length : Int) - 1) wa rfl kn, decide_eq_true ha.1, decide_eq_true (by omega)]; rfl
 ·rw [wb, hf b 0 (((dec (wtL0.val (wtEnv xs))).length : Int) - 1) wb rfl kn, decide_eq_true hb.1, decide_eq_true (by omega)]; rfl
 ·rw [wa, wb]; exact hne
 ·rw [wh, w3, hg h 2305843009213693952 1073741824 wh rfl ⟨by decide, by decide⟩, inF_ok (by omega) (by unfold nn; omega) (by unfold nn; omega)]; rfl
 ·rw [w3]; decide
 ·rw [wq, w5, hg q 0 1099511627776 wq rfl ⟨by decide, by decide⟩, inF_ok (by omega) (by unfold nn; omega) (by unfold nn; omega)]; rfl
end
section
variable {xs : List Int} (hl : WtLen xs)
include hl
theorem mf0 : (wmF0.val (wmE xs) != 0) = false := by
 have h6 := wt_L6 hl
 have e := wm_old xs wtL6 (by kernel_rfl)
 obtain ⟨ys, h⟩ := mr_all (FT Tr5_T) (wtL6.val (wtEnv xs)) (by omega) fun i hi => by
  rw [e42, f42n (rail_in hl i hi), rail_ok hl i hi]; rfl
 unfold wmF0
 exact eql_1 (F := FT Lm7_T) (xs := xs) (w := ys) (by rw [fm31, vals_c, vals_n]; show mrG _ [wtL6.val (wmE xs)] = _; rw [e]; exact h)
theorem mf1 : (wmF1.val (wmE xs) != 0) = false := by
 have hn := n_in hl
 have e0 := wm_old xs wtL0 (by kernel_rfl)
 have e5 := wm_old xs wtL5 (by kernel_rfl)
 obtain ⟨ys, h⟩ := ib2_all (FT Lm5_T) (wtL0.val (wtEnv xs)) (wtL5.val (wtEnv xs)) (by omega) fun i hi => by
  rw [f44n, mayB_ok (bd5 hl i hi)]; rfl
 unfold wmF1
 exact eql_1 (F := FT Lm7_T) (xs := xs) (w := ys) (by rw [fm61, vals_c, vals_c, vals_n]; show ib2G _ [wtL0.val (wmE xs), wtL5.val (wmE xs)] = _; rw [e0, e5]; exact h)
theorem mf11 : (wmF11.val (wmE xs) != 0) = false := by
 have hn := n_in hl
 have e0 := wm_old xs wtL0 (by kernel_rfl)
 have e5 := wm_old xs wtL10 (by kernel_rfl)
 obtain ⟨ys, h⟩ := ib2_all (FT Lm5_T) (wtL0.val (wtEnv xs)) (wtL10.val (wtEnv xs)) (by omega) fun i hi => by
  rw [f44n, mayB_ok (bd10 hl i hi)]; rfl
 unfold wmF11
 exact eql_1 (F := FT Lm7_T) (xs := xs) (w := ys) (by rw [fm61, vals_c, vals_c, vals_n]; show ib2G _ [wtL0.val (wmE xs), wtL10.val (wmE xs)] = _; rw [e0, e5]; exact h)
theorem in51 (n : Int) (hn : 0 ≤ n ∧ n ≤ 1000000) : FT Lm1_Tit 51 [IntKind.i64.wrap (([-1] : List Int).getD 0 0), -1, n - 1] = [1] := by
 have e : FT Lm1_Tit 51 = FT Tr5_T51 51 := FT_at 20 (by kernel_rfl) (by kernel_rfl)
 have w : IntKind.i64.wrap (([-1] : List Int).getD 0 0) = -1 := rfl
 rw [e, w, f51n (a0 := -1) (b0 := -1) (c := n - 1) rfl rfl (show IntKind.i64.wrap (n - 1) = n - 1 by rw [IntKind.wrap_i64]; omega), decide_eq_true (by omega), decide_eq_true (by omega)]; rfl
theorem mf2 : (wmF2.val (wmE xs) != 0) = false := by
 have hn := n_in hl
 have h6 := wt_L6 hl
 have e4 := wm_old xs wtL4 (by kernel_rfl)
 have e6 := wm_old xs wtL6 (by kernel_rfl)
 have el : (SE.len wtL6).val (wmE xs) = ((dec (wtL6.val (wtEnv xs))).length : Int) := len_v (by rw [e6]) (by omega)
 have hd := wt_L4 hl
 obtain ⟨ys, h⟩ := ia_all (FT Lm1_Tit) (wtL4.val (wtEnv xs)) ((dec (wtL6.val (wtEnv xs))).length : Int) (by rw [hd, List.length_replicate]; omega) (by omega) fun i hi => by
  rw [hd, List.length_replicate] at hi
  rw [hd, rep_get hl _ i hi]
  exact in51 hl _ (by omega)
 unfold wmF2
 exact eql_1 (F := FT Lm7_T) (xs := xs) (w := ys) (by rw [fm34, vals_c, vals_c, vals_n]; show iaG _ [wtL4.val (wmE xs), (SE.len wtL6).val (wmE xs)] = _; rw [e4, el]; exact h)
theorem mf13 : (wmF13.val (wmE xs) != 0) = false := by
 have hn := n_in hl
 have h6 := wt_L6 hl
 have e4 := wm_old xs wtL8 (by kernel_rfl)
 have e6 := wm_old xs wtL6 (by kernel_rfl)
 have el : (SE.len wtL6).val (wmE xs) = ((dec (wtL6.val (wtEnv xs))).length : Int) := len_v (by rw [e6]) (by omega)
 have hd := wt_L8 hl
 obtain ⟨ys, h⟩ := ia_all (FT Lm1_Tit) (wtL8.val (wtEnv xs)) ((dec (wtL6.val (wtEnv xs))).length : Int) (by rw [hd, List.length_replicate]; omega) (by omega) fun i hi => by
  rw [hd, List.length_replicate] at hi
  rw [hd, rep_get hl _ i hi]
  exact in51 hl _ (by omega)
 unfold wmF13
 exact eql_1 (F := FT Lm7_T) (xs := xs) (w := ys) (by rw [fm34, vals_c, vals_c, vals_n]; show iaG _ [wtL8.val (wmE xs), (SE.len wtL6).val (wmE xs)] = _; rw [e4, el]; exact h)
theorem mf10 : (wmF10.val (wmE xs) != 0) = true := wm_fact (by kernel_rfl) (by unfold wmF10; exact leq_len (by have := (wt_L9 hl).1; omega))
theorem mf12 : (wmF12.val (wmE xs) != 0) = false := by
 have hn := n_in hl
 have h9 := (wt_L9 hl).1
 have e9 := wm_old xs wtL9 (by kernel_rfl)
 have e0 := wm_old xs wtL0 (by kernel_rfl)
 have el : (SE.len wtL0).val (wmE xs) = ((dec (wtL0.val (wtEnv xs))).length : Int) := len_v (by rw [e0]) (by omega)
 have e51 : FT Lm1_Tib 51 = FT Tr5_T51 51 := FT_at 19 (by kernel_rfl) (by kernel_rfl)
 have e75 : FT Lm1_Tib 75 = FT Tr5_T75 75 := FT_at 20 (by kernel_rfl) (by kernel_rfl)
 obtain ⟨ys, h⟩ := it_all (FT Lm1_Tib) (wtL9.val (wtEnv xs)) ((dec (wtL0.val (wtEnv xs))).length : Int) (by omega) (by omega) fun i hi =>
  te_ok hl (fun a b c ha hb hc => by rw [e51]; exact f51n ha hb hc) (fun a b c ha hb hc => by rw [e75]; exact f75n ha hb hc) i hi
 unfold wmF12
 exact eql_1 (F := FT Lm7_T) (xs := xs) (w := ys) (by rw [fm33, vals_c, vals_c, vals_n]; show itG _ [wtL9.val (wmE xs), (SE.len wtL0).val (wmE xs)] = _; rw [e9, el]; exact h)
end
theorem e54 : FT Lm7_T 54 = FT Tr7_T54 54 := FT_at 18 (by kernel_rfl) (by kernel_rfl)
theorem e53 : FT Lm7_T 53 = FT Tr7_T53 53 := FT_at 22 (by kernel_rfl) (by kernel_rfl)
theorem mf3 (xs : List Int) : (wmF3.val (wmE xs) != 0) = false := by
 have h := how_in xs
 have e1 : wtL1.val (envOf (FT Lm7_T) xs) = 1 + wtHow xs % 3 := (wm_old xs wtL1 (by kernel_rfl)).trans (wt_L1 xs)
 have e2 : wtL2.val (envOf (FT Lm7_T) xs) = 0 := (wm_old xs wtL2 (by kernel_rfl)).trans (wt_L2 xs)
 have w : IntKind.i64.wrap 1048576 = 1048576 := rfl
 unfold wmF3 wmE
 refine ap_n (b := true) ?_
 rw [vals_c, vals_c, vals_c, vals_n, e1, e2, v_lit, w, e54, f54 (a0 := 1 + wtHow xs % 3) (a1 := 0) (n := 1048576) (by show IntKind.i64.wrap _ = _; rw [IntKind.wrap_i64]; omega) rfl ⟨by decide, by decide⟩, inF_ok (by omega) (by unfold nn; omega) (by unfold nn; omega)]
theorem to_one {x : SE} (xs : List Int) (hk : x.ty = some (some .u64)) : ((SE.not (.app 54 0 none (.cons (.lit .i64 0) (.cons x (.cons (.lit .i64 1) .nil))))).val (envOf (FT Lm7_T) xs) != 0) = false := by
 have hx : inK (some .u64) (x.val (envOf (FT Lm7_T) xs)) := val_wrap _ hk
 have b := in_u hx
 have w : IntKind.i64.wrap 0 = 0 := rfl
 refine ap_n (b := true) ?_
 rw [vals_c, vals_c, vals_c, vals_n, v_lit, v_lit, w, w1i, e54, f54 (a0 := 0) (n := 1) rfl hx ⟨by decide, by decide⟩, inF_ok (by omega) (by unfold nn; omega) (by unfold nn; omega)]
theorem mf4 (xs : List Int) : (wmF4.val (wmE xs) != 0) = false := to_one xs rfl
theorem mf5 (xs : List Int) : (wmF5.val (wmE xs) != 0) = false := to_one xs rfl
theorem bit_one (xs : List Int) (d : Int) (hd : 1 ≤ d ∧ d ≤ 100) (h : (SE.bin .rem .i64 (.bin .quo .i64 (.conv .i64 (.ivar .u8 4)) (.lit .i64 d)) (.lit .i64 2)).val (envOf (FT Lm7_T) xs) = wtHow xs / d % 2) : ((SE.not (.app 53 0 none (.cons (.bin .rem .i64 (.bin .quo .i64 (.conv .i64 (.ivar .u8 4)) (.lit .i64 d)) (.lit .i64 2)) (.cons (.lit .i64 0) (.cons (.lit .i64 1) .nil))))).val (envOf (FT Lm7_T) xs) != 0) = false := by
 have w : IntKind.i64.wrap 0 = 0 := rfl
 refine ap_n (b := true) ?_
 rw [vals_c, vals_c, vals_c, vals_n, h, v_lit, v_lit, w, w1i, e53, f53 (a0 := wtHow xs / d % 2) (b0 := 0) (c := 1) (by show IntKind.i64.wrap _ = _; rw [IntKind.wrap_i64]; omega) rfl rfl, decide_eq_true (by omega), decide_eq_true (by omega)]; rfl
theorem mf6 (xs : List Int) : (wmF6.val (wmE xs) != 0) = false := bit_one xs 4 (by decide) ((wm_old xs _ (by kernel_rfl)).trans (wt_bit xs 4 (by decide)))
theorem mf7 (xs : List Int) : (wmF7.val (wmE xs) != 0) = false := bit_one xs 8 (by decide) ((wm_old xs _ (by kernel_rfl)).trans (wt_bit xs 8 (by decide)))
end Go.Proofs.Ytedfbamihjnhhaa.Own
end
