/- A world turned: what is known of lengths and of the first things of lists. -/
/- A world turned: the first rail, the first tether, the body's place. -/
/- A world turned: the bodies' rows. -/
/- A world turned: a body that is not as it was. -/
import Derived.Test.YtedfbamihjnhhaaWtS
import Derived.Test.YtedfbamihjnhhaaWtF
section
namespace Go.Proofs.Ytedfbamihjnhhaa.Own
open Go Go.RowKit Go.Proofs Go.Proofs.Ytedfbamihjnhhaa.Plain
set_option linter.unusedVariables false
set_option linter.unusedSectionVars false
set_option linter.unusedSimpArgs false
set_option maxRecDepth 100000
theorem len_v {e : Env} {x : SE} {n : Nat} (h : (dec (x.val e)).length = n) (hn : n ≤ 1000000) : (SE.len x).val e = (n : Int) := by
  simp only [SE.val, h]; rw [sat_of (le_max hn)]
theorem leq_len {e : Env} {x : SE} (h : (dec (x.val e)).length ≤ 1000000) : ((SE.cmp .leq (.len x) (.lit .i64 1000000)).val e != 0) = true := by
  have e1 : ((SE.cmp .leq (.len x) (.lit .i64 1000000)).val e != 0) = decide ((SE.len x).val e ≤ (SE.lit .i64 1000000).val e) := by simp only [SE.val, b2i_ne, valCmp]
  have e2 : (SE.lit .i64 1000000).val e = 1000000 := by simp only [SE.val]; rfl
  rw [e1, e2, len_v rfl h, decide_eq_true_eq]; omega
theorem neq_len {e : Env} {x y : SE} (h : (dec (x.val e)).length = (dec (y.val e)).length) : ((SE.cmp .neq (.len x) (.len y)).val e != 0) = false := by
  have : (SE.len x).val e = (SE.len y).val e := by simp only [SE.val, h]
  rw [neq_at, this]; simp
theorem neq_len' {e : Env} {x y : SE} (h : (dec (x.val e)).length ≠ (dec (y.val e)).length) (h1 : (dec (x.val e)).length ≤ 1000000) (h2 : (dec (y.val e)).length ≤ 1000000) : ((SE.cmp .neq (.len x) (.len y)).val e != 0) = true := by
  rw [neq_at, len_v rfl h1, len_v rfl h2, bne_iff_ne]; omega
theorem gtr_len {e : Env} {x : SE} {m : Nat} (h : (dec (x.val e)).length ≤ m) (hm : m ≤ 1000000) : ((SE.cmp .gtr (.len x) (.lit .i64 (m : Int))).val e != 0) = false := by
  have e1 : ((SE.cmp .gtr (.len x) (.lit .i64 (m : Int))).val e != 0) = decide ((SE.len x).val e > (SE.lit .i64 (m : Int)).val e) := by simp only [SE.val, b2i_ne, valCmp]
  have e2 : (SE.lit .i64 (m : Int)).val e = (m : Int) := by simp only [SE.val]; rw [IntKind.wrap_i64]; omega
  rw [e1, e2, len_v rfl (by omega), decide_eq_false_iff_not]; omega
theorem eql_one {e : Env} {f i : Nat} {zs : SE} {F : Nat → List Int → List Int} {xs : List Int} {w : List Int} (h : F f (zs.vals (envOf F xs)) = 1 :: w) : ((SE.cmp .eql (.app f 0 (some .i64) zs) (.lit .i64 0)).val (envOf F xs) != 0) = false := by
  rw [eql_at, app_at, h, l_i0]; rfl
theorem eql_nul {e : Env} {f i : Nat} {zs : SE} {F : Nat → List Int → List Int} {xs : List Int} {w : List Int} (h : F f (zs.vals (envOf F xs)) = 0 :: w) : ((SE.cmp .eql (.app f 0 (some .i64) zs) (.lit .i64 0)).val (envOf F xs) != 0) = true := by
  rw [eql_at, app_at, h, l_i0]; rfl
section
variable {xs : List Int} (hl : WtLen xs)
include hl
theorem n_in : (dec (wtL0.val (wtEnv xs))).length ≤ 5 := (wt_L0 hl).1
theorem n4 : (dec (wtL4.val (wtEnv xs))).length = (dec (wtL0.val (wtEnv xs))).length := by rw [wt_L4 hl, List.length_replicate]
theorem n8 : (dec (wtL8.val (wtEnv xs))).length = (dec (wtL0.val (wtEnv xs))).length := by rw [wt_L8 hl, List.length_replicate]
theorem n7 : (dec (wtL7.val (wtEnv xs))).length = (dec (wtL0.val (wtEnv xs))).length := by rw [wt_L7 hl, List.length_map]
theorem n5 : (dec (wtL5.val (wtEnv xs))).length = (dec (wtL0.val (wtEnv xs))).length := (wt_L5 hl).1
theorem n10 : (dec (wtL10.val (wtEnv xs))).length = (dec (wtL0.val (wtEnv xs))).length := (wt_L10 hl).1
theorem n11 : (dec (wtL11.val (wtEnv xs))).length = (dec (wtL0.val (wtEnv xs))).length + 1 := by
  unfold wtL11; simp only [SE.val, dec_enc, List.length_append, n4 hl, List.length_singleton]
theorem n12 : (dec (wtL12.val (wtEnv xs))).length = (dec (wtL0.val (wtEnv xs))).length + 1 := by
  unfold wtL12; simp only [SE.val, dec_enc, List.length_append, n8 hl, List.length_singleton]
omit hl in
theorem L13_dec : dec (wtL13.val (wtEnv xs)) = [0, 0, 0, 0, 0, 0, 0, 1, 0, 0] :: dec (wtL6.val (wtEnv xs)) := by
  unfold wtL13; simp only [SE.val, SE.vals, dec_enc]; rfl
theorem k0 : (wtF0.val (wtEnv xs) != 0) = true := by unfold wtF0; exact leq_len (by have := n_in hl; omega)
omit hl in
theorem k1 : (wtF1.val (wtEnv xs) != 0) = true := by
  unfold wtF1; rw [eql_at, len_v (n := 0) (by rw [wt_L3]; rfl) (Nat.zero_le _), l_i0]; rfl
theorem k5 : (wtF5.val (wtEnv xs) != 0) = false := by unfold wtF5; exact neq_len rfl
theorem k6 : (wtF6.val (wtEnv xs) != 0) = true := by unfold wtF6; exact leq_len (by have := n_in hl; rw [n5 hl]; omega)
theorem k7 : (wtF7.val (wtEnv xs) != 0) = false := by unfold wtF7; exact neq_len (n5 hl).symm
theorem k9 : (wtF9.val (wtEnv xs) != 0) = false := by unfold wtF9; exact neq_len rfl
theorem k11 : (wtF11.val (wtEnv xs) != 0) = false := by unfold wtF11; exact neq_len rfl
theorem k13 : (wtF13.val (wtEnv xs) != 0) = true := by unfold wtF13; exact leq_len (by have := n_in hl; rw [n7 hl]; omega)
theorem k14 : (wtF14.val (wtEnv xs) != 0) = false := by unfold wtF14; exact neq_len (n7 hl).symm
theorem k15 : (wtF15.val (wtEnv xs) != 0) = true := by unfold wtF15; exact leq_len (by have := n_in hl; rw [n10 hl]; omega)
theorem k16 : (wtF16.val (wtEnv xs) != 0) = false := by unfold wtF16; exact neq_len (n10 hl).symm
theorem k18 : (wtF18.val (wtEnv xs) != 0) = false := by unfold wtF18; exact neq_len rfl
theorem k20 : (wtF20.val (wtEnv xs) != 0) = false := by unfold wtF20; exact neq_len rfl
theorem k32 : (wtF32.val (wtEnv xs) != 0) = true := by unfold wtF32; exact leq_len (by have := n_in hl; rw [n4 hl]; omega)
theorem k34 : (wtF34.val (wtEnv xs) != 0) = false := by unfold wtF34; exact gtr_len (m := 32) (by have := n_in hl; omega) (by omega)
theorem k35 : (wtF35.val (wtEnv xs) != 0) = false := by unfold wtF35; exact gtr_len (m := 16) (by have := wt_L6 hl; omega) (by omega)
theorem k36 : (wtF36.val (wtEnv xs) != 0) = true := by unfold wtF36; have := n_in hl; exact neq_len' (by rw [n11 hl]; omega) (by rw [n11 hl]; omega) (by omega)
theorem k37 : (wtF37.val (wtEnv xs) != 0) = true := by unfold wtF37; have := n_in hl; exact neq_len' (by rw [n11 hl, n4 hl]; omega) (by rw [n11 hl]; omega) (by rw [n4 hl]; omega)
theorem k39 : (wtF39.val (wtEnv xs) != 0) = true := by unfold wtF39; exact leq_len (by have := n_in hl; rw [n8 hl]; omega)
theorem k40 : (wtF40.val (wtEnv xs) != 0) = false := by unfold wtF40; exact gtr_len (m := 32) (by have := (wt_L9 hl).1; omega) (by omega)
theorem k41 : (wtF41.val (wtEnv xs) != 0) = true := by unfold wtF41; have := n_in hl; exact neq_len' (by rw [n12 hl]; omega) (by rw [n12 hl]; omega) (by omega)
theorem k42 : (wtF42.val (wtEnv xs) != 0) = true := by unfold wtF42; have := n_in hl; exact neq_len' (by rw [n12 hl, n8 hl]; omega) (by rw [n12 hl]; omega) (by rw [n8 hl]; omega)
theorem k45 : (wtF45.val (wtEnv xs) != 0) = false := by unfold wtF45; exact neq_len (n4 hl)
theorem k46 : (wtF46.val (wtEnv xs) != 0) = false := by unfold wtF46; exact neq_len (n8 hl)
theorem k47 : (wtF47.val (wtEnv xs) != 0) = true := by unfold wtF47; exact leq_len (by have := wt_L6 hl; omega)
theorem k48 : (wtF48.val (wtEnv xs) != 0) = true := by unfold wtF48; have := wt_L6 hl; exact neq_len' (by rw [L13_dec]; simp) (by rw [L13_dec, List.length_cons]; omega) (by omega)
theorem k8 : (wtF8.val (wtEnv xs) != 0) = false := by
  obtain ⟨w, h⟩ := eb2_self (FT Lm6_Tib2) (wtL0.val (wtEnv xs)) (wtL5.val (wtEnv xs)) (by have := n_in hl; omega)
  unfold wtF8
  exact eql_one (e := wtEnv xs) (i := 0) (w := w) (by rw [ft62]; simp only [vals_c, vals_n]; exact h)
theorem k17 : (wtF17.val (wtEnv xs) != 0) = false := by
  obtain ⟨w, h⟩ := eb2_self (FT Lm6_Tib2) (wtL0.val (wtEnv xs)) (wtL10.val (wtEnv xs)) (by have := n_in hl; omega)
  unfold wtF17
  exact eql_one (e := wtEnv xs) (i := 0) (w := w) (by rw [ft62]; simp only [vals_c, vals_n]; exact h)
theorem k10 : (wtF10.val (wtEnv xs) != 0) = false := by
  obtain ⟨w, h⟩ := er_self (FT Lm2_Tet) (wtL6.val (wtEnv xs)) (by have := wt_L6 hl; omega)
  unfold wtF10
  exact eql_one (e := wtEnv xs) (i := 0) (w := w) (by rw [ft43]; simp only [vals_c, vals_n]; exact h)
theorem k12 : (wtF12.val (wtEnv xs) != 0) = false := by
  obtain ⟨w, h⟩ := ei_self (FT Lm2_Ter) (wtL4.val (wtEnv xs)) (by have := n_in hl; rw [n4 hl]; omega)
  unfold wtF12
  exact eql_one (e := wtEnv xs) (i := 0) (w := w) (by rw [ft44]; simp only [vals_c, vals_n]; exact h)
theorem k21 : (wtF21.val (wtEnv xs) != 0) = false := by
  obtain ⟨w, h⟩ := ei_self (FT Lm2_Ter) (wtL8.val (wtEnv xs)) (by have := n_in hl; rw [n8 hl]; omega)
  unfold wtF21
  exact eql_one (e := wtEnv xs) (i := 0) (w := w) (by rw [ft44]; simp only [vals_c, vals_n]; exact h)
theorem k19 : (wtF19.val (wtEnv xs) != 0) = false := by
  obtain ⟨w, h⟩ := et_self (FT Lm2_Teb) (wtL9.val (wtEnv xs)) (by have := (wt_L9 hl).1; omega)
  unfold wtF19
  exact eql_one (e := wtEnv xs) (i := 0) (w := w) (by rw [ft42]; simp only [vals_c, vals_n]; exact h)
end
end Go.Proofs.Ytedfbamihjnhhaa.Own
end
section
namespace Go.Proofs.Ytedfbamihjnhhaa.Own
open Go Go.RowKit Go.Proofs Go.Proofs.Ytedfbamihjnhhaa.Plain
set_option linter.unusedVariables false
set_option linter.unusedSimpArgs false
set_option linter.unusedSectionVars false
set_option maxRecDepth 100000
theorem g42 : FT Tr5_T 42 = treeFn tr42 (FT Tr5_T76) := by kernel_rfl
theorem f42 (zs : List Int) (h0 : zs.getD 0 0 = 0) (h10 : zs.getD 10 0 = 0) : FT Tr5_T 42 zs = [0] := by
  rw [g42]
  have z : IntKind.i64.wrap 0 = 0 := rfl
  have m : IntKind.i64.wrap (-1) = -1 := rfl
  simp only [treeFn, tr42, ST.get]
  rw [show ((SE.cmp .geq (.ivar .i64 0) (.lit .i64 (-1))).val (envOf (FT Tr5_T76) zs) != 0) = true by
    simp only [SE.val, valCmp, b2i_ne, envOf_iv, h0, z, m]; rfl]
  rw [show ((SE.cmp .lss (.ivar .i64 0) (.ivar .i64 10)).val (envOf (FT Tr5_T76) zs) != 0) = false by
    simp only [SE.val, valCmp, b2i_ne, envOf_iv, h0, h10, z]; rfl]
  rfl
theorem k49 {xs : List Int} (hl : WtLen xs) : (wtF49.val (wtEnv xs) != 0) = true := by
  have hd := L13_dec (xs := xs)
  have h6 := wt_L6 hl
  have q : ((rtQ mrT).val (envOf (FT Tr5_T) ([wtL13.val (wtEnv xs)] ++ [((0 : Nat) : Int)])) != 0) = true := by
    have e : rtQ mrT = .not (.app 42 0 none (match rtQ mrT with | .not (.app _ _ _ zs) => zs | _ => .nil)) := rfl
    rw [e, not_at, app_at, f42]
    · rfl
    · show List.getD (SE.vals _ (SE.cons (.el (some .i64) (.lvar 0) (.ivar .i64 1) 0) _)) 0 0 = 0
      rw [vals_c, List.getD_cons_zero]
      simp only [SE.val, envOf_iv]
      rw [show ([wtL13.val (wtEnv xs)] ++ [((0 : Nat) : Int)]).getD 0 0 = wtL13.val (wtEnv xs) from rfl, hd]
      rfl
    · show List.getD (SE.vals _ (SE.cons _ (SE.cons _ (SE.cons _ (SE.cons _ (SE.cons _ (SE.cons _ (SE.cons _ (SE.cons _ (SE.cons _ (SE.cons _ (SE.cons (.ivar .i64 1) SE.nil)))))))))))) 10 0 = 0
      simp only [vals_c, List.getD_cons_zero, List.getD_cons_succ]
      simp only [SE.val, envOf_iv]; rfl
  have h := mr_first (FT Tr5_T) (wtL13.val (wtEnv xs)) (by rw [hd, List.length_cons]; omega) (by rw [hd, List.length_cons]; omega) q
  unfold wtF49
  exact eql_nul (e := wtEnv xs) (i := 0) (w := []) (by rw [ft31]; simp only [vals_c, vals_n]; exact h)
theorem el_v {e : Env} {k : Option IntKind} {x i : SE} {j : Nat} {t : Nat} (h : i.val e = (t : Int)) : (SE.el k x i j).val e = wrK k (((dec (x.val e)).getD t []).getD j 0) := by
  simp only [SE.val, h, Int.toNat_natCast]
theorem k51 {xs : List Int} (hl : WtLen xs) : (wtF51.val (wtEnv xs) != 0) = true := by
  have h9 := wt_L9 hl
  have hn := n_in hl
  unfold wtF51
  rw [not_at, and_at, and_at, and_at, and_at, eql_at, eql_at, eql_at, el_v (t := 0) l_i0, el_v (t := 0) l_i0, el_v (t := 0) l_i0, l_i0, l_i1]
  cases hd : dec (wtL9.val (wtEnv xs)) with
  | nil =>
    have e : ((1 : Int) == wrK (some IntKind.i64) ((([] : List (List Int)).getD 0 []).getD 2 0)) = false := rfl
    rw [e]; simp
  | cons r l =>
    rw [hd] at h9
    obtain ⟨a, b, h, q, ha, hb, hab, _, _, rfl⟩ := h9.2 r (.head _)
    rw [List.getD_cons_zero, List.getD_cons_zero, List.getD_cons_succ, List.getD_cons_zero]
    have ea : wrK (some .i64) a = a := by show IntKind.i64.wrap a = a; rw [IntKind.wrap_i64]; omega
    have eb : wrK (some .i64) b = b := by show IntKind.i64.wrap b = b; rw [IntKind.wrap_i64]; omega
    rw [ea, eb]
    by_cases h1 : (0 : Int) = a
    · have h2 : ((0 : Int) == b) = false := by rw [beq_eq_false_iff_ne]; omega
      rw [h2]; simp
    · have h2 : ((0 : Int) == a) = false := by rw [beq_eq_false_iff_ne]; omega
      rw [h2]; simp
/-! the place -/
noncomputable def wtPl (xs : List Int) : Nat := (wtNum xs % ((dec (wtL0.val (wtEnv xs))).length : Int)).toNat
section
variable {xs : List Int} (hl : WtLen xs) (h0 : 0 < (dec (wtL0.val (wtEnv xs))).length)
include hl h0
theorem pl_lt : wtPl xs < (dec (wtL0.val (wtEnv xs))).length := by
  unfold wtPl
  have h1 := Int.emod_nonneg (wtNum xs) (show ((dec (wtL0.val (wtEnv xs))).length : Int) ≠ 0 by omega)
  have h2 := Int.emod_lt_of_pos (wtNum xs) (show (0 : Int) < ((dec (wtL0.val (wtEnv xs))).length : Int) by omega)
  omega
theorem pl_v : wtL14.val (wtEnv xs) = (wtPl xs : Int) := by
  have hn := n_in hl
  have h := num_in xs
  have e : (SE.len wtL0).val (wtEnv xs) = ((dec (wtL0.val (wtEnv xs))).length : Int) := len_v rfl (by omega)
  have h1 := Int.emod_nonneg (wtNum xs) (show ((dec (wtL0.val (wtEnv xs))).length : Int) ≠ 0 by omega)
  have h2 := Int.emod_lt_of_pos (wtNum xs) (show (0 : Int) < ((dec (wtL0.val (wtEnv xs))).length : Int) by omega)
  have v : wtL14.val (wtEnv xs) = IntKind.i64.wrap ((IntKind.i64.wrap (wtNum xs)).tmod ((SE.len wtL0).val (wtEnv xs))) := by
    unfold wtL14 wtNum wtEnv; simp only [SE.val, valBin, envOf_iv]
  have w4 : IntKind.i64.wrap (wtNum xs) = wtNum xs := by rw [IntKind.wrap_i64]; omega
  rw [v, e, w4, Int.tmod_eq_emod_of_nonneg h.1]
  unfold wtPl
  rw [IntKind.wrap_i64]; omega
theorem k53 : (wtF53.val (wtEnv xs) != 0) = true := by
  unfold wtF53
  have e1 : ((SE.cmp .geq wtL14 (.lit .i64 0)).val (wtEnv xs) != 0) = decide (wtL14.val (wtEnv xs) ≥ (SE.lit .i64 0).val (wtEnv xs)) := by simp only [SE.val, b2i_ne, valCmp]
  rw [e1, pl_v hl h0, l_i0, decide_eq_true_eq]; omega
theorem lss_pl {x : SE} (h : (dec (x.val (wtEnv xs))).length = (dec (wtL0.val (wtEnv xs))).length) : ((SE.cmp .lss wtL14 (.len x)).val (wtEnv xs) != 0) = true := by
  have e1 : ((SE.cmp .lss wtL14 (.len x)).val (wtEnv xs) != 0) = decide (wtL14.val (wtEnv xs) < (SE.len x).val (wtEnv xs)) := by simp only [SE.val, b2i_ne, valCmp]
  have := pl_lt hl h0
  have hn := n_in hl
  rw [e1, pl_v hl h0, len_v h (by omega), decide_eq_true_eq]; omega
theorem k54 : (wtF54.val (wtEnv xs) != 0) = true := by unfold wtF54; exact lss_pl hl h0 rfl
theorem k55 : (wtF55.val (wtEnv xs) != 0) = true := by unfold wtF55; exact lss_pl hl h0 (n5 hl)
theorem k59 : (wtF59.val (wtEnv xs) != 0) = true := by unfold wtF59; exact lss_pl hl h0 (n10 hl)
end
end Go.Proofs.Ytedfbamihjnhhaa.Own
end
section
namespace Go.Proofs.Ytedfbamihjnhhaa.Own
open Go Go.RowKit Go.Proofs Go.Proofs.Ytedfbamihjnhhaa.Plain
set_option linter.unusedVariables false
set_option linter.unusedSimpArgs false
set_option linter.unusedSectionVars false
set_option maxRecDepth 100000
theorem g72 : FT Lm2_T 72 = treeFn tr72 (FT Tr5_T22) := by kernel_rfl
theorem g22b : FT Tr5_T22 22 = treeFn tr22 (FT TbE_T) := by kernel_rfl
theorem f22b {n : Int} (h : 0 ≤ n ∧ n ≤ 1152921504606846976) : FT Tr5_T22 22 [n] = [n, 0] := by
  rw [g22b, ← g22]; exact f22 h
/-- what is used of a body's row -/
structure BdR (el : List Int) : Prop where
  m : 1 ≤ el.getD 0 0 ∧ el.getD 0 0 ≤ 9
  f : el.getD 12 0 = 0
  y : wrK (some .u64) (el.getD 7 0) ≠ 1
theorem sh40 (c : Int) (h : 0 ≤ c ∧ c < 256) : IntKind.u64.wrap (c * 1099511627776) ≠ 1 ∧ IntKind.u64.wrap (IntKind.u64.wrap (c * 1099511627776)) ≠ 1 := by
  simp only [IntKind.wrap_u64]; omega
theorem bd_r {el : List Int} (h : isBd (FT Lm2_T) el) : BdR el := by
  obtain ⟨b0, b1, b2, b3, h0, h1, h2, h3, rfl⟩ := h
  have c0 : (rowBd (FT Lm2_T) b0 b1 b2 b3).getD 0 0 = wrK (some .i64) ((FT Lm2_T 72 [b0, b1, b2, b3]).getD 0 0) := rfl
  have c12 : (rowBd (FT Lm2_T) b0 b1 b2 b3).getD 12 0 = wrK (some .i64) ((FT Lm2_T 72 [b0, b1, b2, b3]).getD 12 0) := rfl
  have c7 : (rowBd (FT Lm2_T) b0 b1 b2 b3).getD 7 0 = wrK (some .u64) ((FT Lm2_T 72 [b0, b1, b2, b3]).getD 7 0) := rfl
  have w8 : IntKind.u8.wrap b2 = b2 := by rw [IntKind.wrap_u8]; omega
  have w64 : IntKind.u64.wrap b2 = b2 := by rw [IntKind.wrap_u64]; omega
  have wi64 : IntKind.i64.wrap b2 = b2 := by rw [IntKind.wrap_i64]; omega
  have v0 : (FT Lm2_T 72 [b0, b1, b2, b3]).getD 0 0 = 1 + b2 % 9 := by
    rw [g72]
    simp only [treeFn, tr72, ST.get, flatV, List.map, List.getD_cons_zero, valC]
    rw [app_at, vals_c, vals_n]
    have e : (SE.bin .add .i64 (.lit .i64 1) (.bin .rem .i64 (.conv .i64 (.ivar .u8 2)) (.lit .i64 9))).val (envOf (FT Tr5_T22) [b0, b1, b2, b3]) = 1 + b2 % 9 := by
      simp only [SE.val, valBin, envOf_iv, List.getD_cons_zero, List.getD_cons_succ, w8, wi64]
      rw [show IntKind.i64.wrap 1 = 1 from rfl, show IntKind.i64.wrap 9 = 9 from rfl, Int.tmod_eq_emod_of_nonneg h2.1]
      simp only [IntKind.wrap_i64]; omega
    rw [e, f22b ⟨by omega, by omega⟩]
    show IntKind.i64.wrap _ = _
    rw [List.getD_cons_zero, IntKind.wrap_i64]; omega
  have v12 : (FT Lm2_T 72 [b0, b1, b2, b3]).getD 12 0 = 0 := by
    rw [g72]
    simp only [treeFn, tr72, ST.get, flatV, List.map, List.getD_cons_zero, List.getD_cons_succ, valC]
  have v7 : (FT Lm2_T 72 [b0, b1, b2, b3]).getD 7 0 = IntKind.u64.wrap (b2 * 1099511627776) := by
    rw [g72]
    simp only [treeFn, tr72, ST.get, flatV, List.map, List.getD_cons_zero, List.getD_cons_succ, valC]
    simp only [SE.val, valBin, envOf_iv, List.getD_cons_zero, List.getD_cons_succ, w8, w64]
    rfl
  refine ⟨?_, ?_, ?_⟩
  · rw [c0, v0]
    show 1 ≤ IntKind.i64.wrap _ ∧ IntKind.i64.wrap _ ≤ 9
    rw [IntKind.wrap_i64]; omega
  · rw [c12, v12]; rfl
  · rw [c7, v7]
    show IntKind.u64.wrap (IntKind.u64.wrap _) ≠ 1
    have e : IntKind.u64.wrap (IntKind.u64.wrap (IntKind.u64.wrap (b2 * 1099511627776))) = IntKind.u64.wrap (IntKind.u64.wrap (b2 * 1099511627776)) := by
      simp only [IntKind.wrap_u64]; omega
    rw [e]; exact (sh40 b2 h2).2
theorem set_r {el : List Int} (h : BdR el) (off : Nat) (x : Int) (ho : off ≠ 0 ∧ off ≠ 12 ∧ off ≠ 7) : BdR (setRow el off [x]) := by
  have g : ∀ j, j ≠ off → (setRow el off [x]).getD j 0 = el.getD j 0 := fun j hj => by
    rw [setRow_get, if_neg]; simp only [List.length_singleton]; omega
  exact ⟨by rw [g 0 (Ne.symm ho.1)]; exact h.m, by rw [g 12 (Ne.symm ho.2.1)]; exact h.f, by rw [g 7 (Ne.symm ho.2.2)]; exact h.y⟩
theorem near_r {el : List Int} (h : BdR el) : BdR (nearB el) := by
  unfold nearB
  exact set_r (set_r h 4 _ (by decide)) 6 _ (by decide)
theorem th_r {a b : List Int} (h : ThR a b) (ha : BdR a) : BdR b := by
  rcases h with rfl | ⟨c, _, _, rfl⟩
  · exact ha
  · exact set_r ha 18 _ (by decide)
section
variable {xs : List Int} (hl : WtLen xs) {k : Nat} (hk : k < (dec (wtL0.val (wtEnv xs))).length)
include hl hk
theorem r0 : BdR ((dec (wtL0.val (wtEnv xs))).getD k []) := by
  refine bd_r ((wt_L0 hl).2 _ ?_)
  rw [List.getD_eq_getElem?_getD, List.getElem?_eq_getElem hk, Option.getD_some]
  exact List.getElem_mem hk
theorem r5 : BdR ((dec (wtL5.val (wtEnv xs))).getD k []) := th_r ((wt_L5 hl).2 k) (r0 hl hk)
theorem r10 : BdR ((dec (wtL10.val (wtEnv xs))).getD k []) := by
  refine th_r ((wt_L10 hl).2 k) ?_
  have : (dec (wtL7.val (wtEnv xs))).getD k [] = nearB ((dec (wtL0.val (wtEnv xs))).getD k []) := by
    rw [wt_L7 hl, List.getD_eq_getElem?_getD, List.getD_eq_getElem?_getD, List.getElem?_map, List.getElem?_eq_getElem hk]; rfl
  rw [this]; exact near_r (r0 hl hk)
end
end Go.Proofs.Ytedfbamihjnhhaa.Own
end
section
namespace Go.Proofs.Ytedfbamihjnhhaa.Own
open Go Go.RowKit Go.Proofs Go.Proofs.Ytedfbamihjnhhaa.Plain
set_option linter.unusedVariables false
set_option linter.unusedSimpArgs false
set_option linter.unusedSectionVars false
set_option maxRecDepth 100000
def wtS14 (B : SE) : SE := .lset B wtL14 0 (.cons (.el (some .i64) B wtL14 12) (.cons (.el (some .u64) B wtL14 13) .nil))
def wtS15 (B : SE) : SE := .lset B wtL14 6 (.cons (.lit .i64 1073741824) (.cons (.lit .u64 1) .nil))
section
variable {xs : List Int} (hl : WtLen xs) (h0 : 0 < (dec (wtL0.val (wtEnv xs))).length) {B : SE} (hB : (dec (B.val (wtEnv xs))).length = (dec (wtL0.val (wtEnv xs))).length)
include hl h0 hB
theorem s14_row : (dec ((wtS14 B).val (wtEnv xs))).getD (wtPl xs) [] = setRow ((dec (B.val (wtEnv xs))).getD (wtPl xs) []) 0 [wrK (some .i64) (((dec (B.val (wtEnv xs))).getD (wtPl xs) []).getD 12 0), wrK (some .u64) (((dec (B.val (wtEnv xs))).getD (wtPl xs) []).getD 13 0)] := by
  have hp := pl_v hl h0
  unfold wtS14
  have e : ∀ zs : SE, dec ((SE.lset B wtL14 0 zs).val (wtEnv xs)) = setL (dec (B.val (wtEnv xs))) (wtPl xs) 0 (zs.vals (wtEnv xs)) := fun zs => by
    simp only [SE.val, dec_enc, hp, Int.toNat_natCast]
  rw [e, setL_at (by rw [hB]; exact pl_lt hl h0), vals_c, vals_c, vals_n, el_v hp, el_v hp]
theorem s15_row : (dec ((wtS15 B).val (wtEnv xs))).getD (wtPl xs) [] = setRow ((dec (B.val (wtEnv xs))).getD (wtPl xs) []) 6 [1073741824, 1] := by
  have hp := pl_v hl h0
  unfold wtS15
  have e : ∀ zs : SE, dec ((SE.lset B wtL14 6 zs).val (wtEnv xs)) = setL (dec (B.val (wtEnv xs))) (wtPl xs) 6 (zs.vals (wtEnv xs)) := fun zs => by
    simp only [SE.val, dec_enc, hp, Int.toNat_natCast]
  rw [e, setL_at (by rw [hB]; exact pl_lt hl h0), vals_c, vals_c, vals_n]
  simp only [SE.val]; rfl
end
theorem eb2_el (F : Nat → List Int → List Int) (l1 l2 b1 b2 : Int) (k : Nat) (hk : k ≤ 1000000) (kk : Option IntKind) (j : Nat) : (SE.el kk (.lvar 2) (.ivar .i64 4) j).val (envOf F ([l1, l2, b1, b2] ++ [(k : Int)])) = wrK kk (((dec b1).getD k []).getD j 0) ∧ (SE.el kk (.lvar 3) (.ivar .i64 4) j).val (envOf F ([l1, l2, b1, b2] ++ [(k : Int)])) = wrK kk (((dec b2).getD k []).getD j 0) := by
  have hi := iv_at (F := F) (xs := [l1, l2, b1, b2] ++ [(k : Int)]) (c := 4) (i := k) rfl (by omega)
  exact ⟨by rw [el_v hi, lvar_at]; rfl, by rw [el_v hi, lvar_at]; rfl⟩
/-- rows that differ in their first number -/
theorem eb2_q0 (F : Nat → List Int → List Int) (l1 l2 b1 b2 : Int) (k : Nat) (hk : k ≤ 1000000) (h : wrK (some .i64) (((dec b1).getD k []).getD 0 0) ≠ wrK (some .i64) (((dec b2).getD k []).getD 0 0)) : ((rtQ eb2T).val (envOf F ([l1, l2, b1, b2] ++ [(k : Int)])) != 0) = true := by
  obtain ⟨e1, e2⟩ := eb2_el F l1 l2 b1 b2 k hk (some .i64) 0
  simp only [eb2T, rtQ, rtQ1, not_at, and_at, eql_at]
  rw [e1, e2, beq_eq_false_iff_ne.2 h]
  simp only [Bool.false_and, Bool.not_false]
/-- rows that differ in the eighth -/
theorem eb2_q7 (F : Nat → List Int → List Int) (l1 l2 b1 b2 : Int) (k : Nat) (hk : k ≤ 1000000) (h : wrK (some .u64) (((dec b1).getD k []).getD 7 0) ≠ wrK (some .u64) (((dec b2).getD k []).getD 7 0)) : ((rtQ eb2T).val (envOf F ([l1, l2, b1, b2] ++ [(k : Int)])) != 0) = true := by
  obtain ⟨e1, e2⟩ := eb2_el F l1 l2 b1 b2 k hk (some .u64) 7
  simp only [eb2T, rtQ, rtQ1, not_at, and_at, eql_at]
  rw [e1, e2, beq_eq_false_iff_ne.2 h]
  simp only [Bool.false_and, Bool.and_false, Bool.not_false]
section
variable {xs : List Int} (hl : WtLen xs) (h0 : 0 < (dec (wtL0.val (wtEnv xs))).length) {B : SE} (hB : (dec (B.val (wtEnv xs))).length = (dec (wtL0.val (wtEnv xs))).length) (hr : BdR ((dec (B.val (wtEnv xs))).getD (wtPl xs) []))
include hl h0 hB hr
theorem s14_eq : ∃ w, eb2G (FT Lm6_Tib2) [wtL0.val (wtEnv xs), wtL0.val (wtEnv xs), (wtS14 B).val (wtEnv xs), B.val (wtEnv xs)] = 0 :: w := by
  have hn := n_in hl
  have hp := pl_lt hl h0
  refine eb2_find _ _ _ _ _ (by omega) (wtPl xs) hp (eb2_q0 _ _ _ _ _ _ (by omega) ?_)
  rw [s14_row hl h0 hB, setRow_get, if_pos ⟨Nat.le_refl _, Nat.succ_pos _⟩, hr.f]
  have hm := hr.m
  have e : wrK (some .i64) (((dec (B.val (wtEnv xs))).getD (wtPl xs) []).getD 0 0) = ((dec (B.val (wtEnv xs))).getD (wtPl xs) []).getD 0 0 := by
    show IntKind.i64.wrap _ = _
    rw [IntKind.wrap_i64]; omega
  rw [e]
  show (0 : Int) ≠ _
  omega
theorem s15_eq : ∃ w, eb2G (FT Lm6_Tib2) [wtL0.val (wtEnv xs), wtL0.val (wtEnv xs), (wtS15 B).val (wtEnv xs), B.val (wtEnv xs)] = 0 :: w := by
  have hn := n_in hl
  have hp := pl_lt hl h0
  refine eb2_find _ _ _ _ _ (by omega) (wtPl xs) hp (eb2_q7 _ _ _ _ _ _ (by omega) ?_)
  rw [s15_row hl h0 hB, setRow_get, if_pos (by decide)]
  exact fun h => hr.y h.symm
end
section
variable {xs : List Int} (hl : WtLen xs) (h0 : 0 < (dec (wtL0.val (wtEnv xs))).length)
include hl h0
theorem k56 : (wtF56.val (wtEnv xs) != 0) = true := by
  obtain ⟨w, h⟩ := s14_eq hl h0 (B := wtL5) (n5 hl) (r5 hl (pl_lt hl h0))
  unfold wtF56
  exact eql_nul (e := wtEnv xs) (i := 0) (w := w) (by rw [ft62]; simp only [vals_c, vals_n]; exact h)
theorem k60 : (wtF60.val (wtEnv xs) != 0) = true := by
  obtain ⟨w, h⟩ := s14_eq hl h0 (B := wtL10) (n10 hl) (r10 hl (pl_lt hl h0))
  unfold wtF60
  exact eql_nul (e := wtEnv xs) (i := 0) (w := w) (by rw [ft62]; simp only [vals_c, vals_n]; exact h)
theorem k63 : (wtF63.val (wtEnv xs) != 0) = true := by
  obtain ⟨w, h⟩ := s15_eq hl h0 (B := wtL5) (n5 hl) (r5 hl (pl_lt hl h0))
  unfold wtF63
  exact eql_nul (e := wtEnv xs) (i := 0) (w := w) (by rw [ft62]; simp only [vals_c, vals_n]; exact h)
theorem k66 : (wtF66.val (wtEnv xs) != 0) = true := by
  obtain ⟨w, h⟩ := s15_eq hl h0 (B := wtL10) (n10 hl) (r10 hl (pl_lt hl h0))
  unfold wtF66
  exact eql_nul (e := wtEnv xs) (i := 0) (w := w) (by rw [ft62]; simp only [vals_c, vals_n]; exact h)
end
end Go.Proofs.Ytedfbamihjnhhaa.Own
end
