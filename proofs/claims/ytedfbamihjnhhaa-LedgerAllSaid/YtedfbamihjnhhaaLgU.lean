/- What all is together: what the tables say. -/
import Derived.Test.YtedfbamihjnhhaaLgS1
import Derived.Test.YtedfbamihjnhhaaLgS2
import Derived.Test.YtedfbamihjnhhaaLgS4
namespace Go.Proofs.Ytedfbamihjnhhaa.Own
open Go Go.RowKit Go.Proofs Go.Proofs.Ytedfbamihjnhhaa.Plain
set_option linter.unusedVariables false
set_option linter.unusedSimpArgs false
set_option maxRecDepth 100000
theorem ft_lm : FT Lo1_T 20001 = lmG (FT Lo2_T) := by kernel_rfl
theorem ft_lp : FT Lo1_T 20002 = lpG (FT Lo1_Tlm) := by kernel_rfl
theorem ft_rm : FT Lo1_T 20003 = rmG (FT Lo1_Tlp) := by kernel_rfl
theorem ft_rp : FT Lo1_T 20004 = rpG (FT Lo1_Trm) := by kernel_rfl
theorem ft_29 : FT Lo2_T 29 = gFadd := by kernel_rfl
theorem ft_30 : FT Lo1_Tlm 30 = gVadd := by kernel_rfl
theorem ft_19 : FT Lo1_Tlp 19 = gRadd := by kernel_rfl
theorem ft_q1 : FT Lo1_T 20011 = q1G (FT Tr2_T) := by kernel_rfl
theorem ft_90 : FT Tr2_T 90 = treeFn tr90 (FT Tr2_T107) := by kernel_rfl
theorem ft_88 : FT Tr2_T107 88 = treeFn tr88 (FT Tr1_T106) := by kernel_rfl
theorem ft_89 : FT Tr1_T106 89 = treeFn tr89 (FT Tr1_T22) := by kernel_rfl
theorem ft_55 : FT Tr2_T107 55 = treeFn tr55 (FT Tr1_T54) := by kernel_rfl
theorem ft_89b : FT Tr1_T54 89 = treeFn tr89 (FT Tr1_T22) := by kernel_rfl
theorem ft_54 : FT Lo1_T 54 = treeFn tr54 (FT Tr1_T88) := by kernel_rfl
theorem ft_88b : FT Tr1_T88 88 = treeFn tr88 (FT Tr1_T106) := by kernel_rfl
theorem ft_55b : FT Lo1_T 55 = treeFn tr55 (FT Tr1_T54) := by kernel_rfl
theorem ft_16 : FT Lo1_T 16 = treeFn tr16 (FT Tr1_T72) := by kernel_rfl
theorem ft_20 : FT Lo1_Trm 20 = treeFn tr20 (FT Tr1_T37) := by kernel_rfl
theorem ft_37 : FT Tr1_T37 37 = treeFn tr37 (FT Tr1_T16) := by kernel_rfl
theorem ft_19b : FT Tr1_T37 19 = gRadd := by kernel_rfl
/-- the document's sum of ways -/
theorem both_val (x y : Fx × Int) (hx : x.2 = 0 ∨ x.2 = 3) (hy : y.2 = 0 ∨ y.2 = 3) (F : Nat → List Int → List Int) : treeFn tr37 F [x.1.hi, x.1.lo, x.2, y.1.hi, y.1.lo, y.2] = if x.2 = 0 then if y.2 = 0 then [x.1.hi, x.1.lo, y.1.hi, y.1.lo, 0] else [0, 0, 0, 0, y.2] else [0, 0, 0, 0, x.2] := by
  have w0 : IntKind.i64.wrap 0 = 0 := rfl
  simp only [treeFn, tr37, ST.get, SE.val, valCmp, b2i_ne, envOf_iv, List.getD_cons_zero, List.getD_cons_succ, w0, err64 hx, err64 hy]
  rcases hx with hx | hx <;> rcases hy with hy | hy <;> rw [hx, hy] <;>
    simp [flatV, valC, SE.val, envOf_iv, w_hi, w_lo, hx, hy, cond, err64]
theorem f20 (a b : Vx) : FT Lo1_Trm 20 [a.x.hi, a.x.lo, a.y.hi, a.y.lo, b.x.hi, b.x.lo, b.y.hi, b.y.lo] = rvl a b := by
  rw [ft_20]
  have hx := radd_err a.x b.x
  have hy := radd_err a.y b.y
  have g1 : ∀ k, (FT Tr1_T37 19 [a.x.hi, a.x.lo, b.x.hi, b.x.lo]).getD k 0 = [(radd a.x b.x).1.hi, (radd a.x b.x).1.lo, (radd a.x b.x).2].getD k 0 := fun k => by
    rw [ft_19b]; show (gRadd _).getD k 0 = _; unfold gRadd; simp only [List.getD_cons_zero, List.getD_cons_succ, fxW_self]
  have g2 : ∀ k, (FT Tr1_T37 19 [a.y.hi, a.y.lo, b.y.hi, b.y.lo]).getD k 0 = [(radd a.y b.y).1.hi, (radd a.y b.y).1.lo, (radd a.y b.y).2].getD k 0 := fun k => by
    rw [ft_19b]; show (gRadd _).getD k 0 = _; unfold gRadd; simp only [List.getD_cons_zero, List.getD_cons_succ, fxW_self]
  have g3 := both_val (radd a.x b.x) (radd a.y b.y) hx hy (FT Tr1_T16)
  rw [← ft_37] at g3
  simp only [treeFn, tr20, ST.get, flatV, List.map, valC, SE.val, SE.vals, envOf_iv, envOf_F, wrK, List.getD_cons_zero, List.getD_cons_succ, w_hi, w_lo, g1, g2, err64 hx, err64 hy, g3]
  have w0 : IntKind.i64.wrap 0 = 0 := rfl
  have u0 : IntKind.u64.wrap 0 = 0 := rfl
  have z1 : Fx.zero.hi = 0 := rfl
  have z2 : Fx.zero.lo = 0 := rfl
  unfold rvl rvadd
  by_cases h1 : (radd a.x b.x).2 = 0
  · by_cases h2 : (radd a.y b.y).2 = 0
    · simp only [if_pos h1, if_pos h2, List.getD_cons_zero, List.getD_cons_succ, w_hi, w_lo, w0]
    · simp only [if_pos h1, if_neg h2, List.getD_cons_zero, List.getD_cons_succ, w0, u0, z1, z2, err64 hy]
  · simp only [if_neg h1, List.getD_cons_zero, List.getD_cons_succ, w0, u0, z1, z2, err64 hx]
/-! ### what may be -/
theorem cond_same {α : Type} (c : Bool) (x : α) : (bif c then x else x) = x := by cases c <;> rfl
theorem b2i_ne0 {x : Int} (h : b2i (x != 0) ≠ 0) : x ≠ 0 := fun q => h (by rw [q]; rfl)
theorem may_val {hi lo : Int} {F : Nat → List Int → List Int} (h : (treeFn tr89 F [hi, lo]).getD 0 0 ≠ 0) (h1 : inK (some .i64) hi) (h2 : inK (some .u64) lo) : FxMay (fxW hi lo) := by
  have e1 : IntKind.i64.wrap hi = hi := h1
  have e2 : IntKind.u64.wrap lo = lo := h2
  have e3 : IntKind.i64.wrap (-9223372036854775808) = -9223372036854775808 := rfl
  have e4 : IntKind.u64.wrap 0 = 0 := rfl
  simp only [treeFn, tr89, ST.get, SE.val, valCmp, b2i_ne, envOf_iv, List.getD_cons_zero, List.getD_cons_succ, e1, e2, e3, e4] at h
  unfold FxMay
  rw [fxW_n h1 h2]
  have b1 := inK_i64 h1
  have b2 := inK_u64 h2
  by_cases hq : hi = -9223372036854775808
  · have : (hi != -9223372036854775808) = false := by simpa using hq
    rw [this, cond_false] at h
    have hl : lo ≠ 0 := fun q => by
      apply h
      simp only [flatV, List.map, valC, SE.val, envOf_iv, List.getD_cons_zero, List.getD_cons_succ, valCmp, e2, e4, q]
      rfl
    omega
  · omega
theorem from_may {x0 x1 x2 x3 x4 x5 : Int} (h : (treeFn tr88 (FT Tr1_T106) [x0, x1, x2, x3, x4, x5]).getD 0 0 ≠ 0) (h1 : inK (some .i64) x0) (h2 : inK (some .u64) x1) : FxMay (fxW x0 x1) := by
  have e1 : IntKind.i64.wrap x0 = x0 := h1
  have e2 : IntKind.u64.wrap x1 = x1 := h2
  by_cases hq : (FT Tr1_T106 89 [x0, x1]).getD 0 0 = 0
  · exfalso
    apply h
    have : (treeFn tr88 (FT Tr1_T106) [x0, x1, x2, x3, x4, x5]) = [0] := by
      have hb : (b2i ((FT Tr1_T106 89 [x0, x1]).getD 0 0 != 0) != 0) = false := by rw [hq]; rfl
      unfold treeFn
      have hc : ((SE.app 89 0 none (.cons (.ivar .i64 0) (.cons (.ivar .u64 1) .nil))).val (envOf (FT Tr1_T106) [x0, x1, x2, x3, x4, x5]) != 0) = false := by
        simp only [SE.val, SE.vals, wrK, envOf_iv, envOf_F, List.getD_cons_zero, List.getD_cons_succ, e1, e2]; exact hb
      simp only [tr88, ST.get, hc, cond_false]
      rfl
    rw [this]; rfl
  · rw [ft_89] at hq
    exact may_val hq h1 h2
theorem to_may {x0 x1 m : Int} (h : (FT Lo1_T 54 [x0, x1, m]).getD 0 0 ≠ 0) (h1 : inK (some .i64) x0) (h2 : inK (some .u64) x1) : FxMay (fxW x0 x1) := by
  have e1 : IntKind.i64.wrap x0 = x0 := h1
  have e2 : IntKind.u64.wrap x1 = x1 := h2
  rw [ft_54] at h
  simp only [treeFn, tr54, ST.get, flatV, List.map, valC, SE.val, SE.vals, wrK, envOf_iv, envOf_F, List.getD_cons_zero, List.getD_cons_succ, e1, e2] at h
  rw [ft_88b] at h
  exact from_may (b2i_ne0 h) h1 h2
theorem vec_may {x0 x1 x2 x3 : Int} (h : (treeFn tr55 (FT Tr1_T54) [x0, x1, x2, x3]).getD 0 0 ≠ 0) (h1 : inK (some .i64) x0) (h2 : inK (some .u64) x1) (h3 : inK (some .i64) x2) (h4 : inK (some .u64) x3) : VxMay ⟨fxW x0 x1, fxW x2 x3⟩ := by
  have e1 : IntKind.i64.wrap x0 = x0 := h1
  have e2 : IntKind.u64.wrap x1 = x1 := h2
  have e3 : IntKind.i64.wrap x2 = x2 := h3
  have e4 : IntKind.u64.wrap x3 = x3 := h4
  have hc : ∀ v, ((SE.app 89 0 none (.cons (.ivar .i64 0) (.cons (.ivar .u64 1) .nil))).val (envOf (FT Tr1_T54) [x0, x1, x2, x3]) != 0) = v → ((FT Tr1_T54 89 [x0, x1]).getD 0 0 != 0) = v := fun v hv => by
    rw [← hv]; simp only [SE.val, SE.vals, wrK, b2i_ne, envOf_iv, envOf_F, List.getD_cons_zero, List.getD_cons_succ, e1, e2]
  unfold treeFn at h
  simp only [tr55, ST.get] at h
  cases hb : ((SE.app 89 0 none (.cons (.ivar .i64 0) (.cons (.ivar .u64 1) .nil))).val (envOf (FT Tr1_T54) [x0, x1, x2, x3]) != 0) with
  | false =>
    rw [hb] at h
    exact absurd (by rfl) h
  | true =>
    rw [hb, cond_true] at h
    have q1 := hc true hb
    simp only [flatV, List.map, valC, SE.val, SE.vals, wrK, envOf_iv, envOf_F, List.getD_cons_zero, List.getD_cons_succ, e3, e4] at h
    rw [ft_89b] at q1 h
    exact ⟨may_val (by simpa using q1) h1 h2, may_val (b2i_ne0 h) h3 h4⟩
/-- a row as a body's numbers -/
def bodyW (el : List Int) : List Int := [IntKind.i64.wrap (el.getD 0 0), IntKind.u64.wrap (el.getD 1 0), IntKind.i64.wrap (el.getD 2 0), IntKind.u64.wrap (el.getD 3 0), IntKind.i64.wrap (el.getD 4 0), IntKind.u64.wrap (el.getD 5 0), IntKind.i64.wrap (el.getD 6 0), IntKind.u64.wrap (el.getD 7 0), IntKind.i64.wrap (el.getD 8 0), IntKind.u64.wrap (el.getD 9 0), IntKind.i64.wrap (el.getD 10 0), IntKind.u64.wrap (el.getD 11 0), IntKind.i64.wrap (el.getD 12 0), IntKind.u64.wrap (el.getD 13 0), IntKind.i64.wrap (el.getD 14 0), IntKind.u64.wrap (el.getD 15 0), IntKind.i64.wrap (el.getD 16 0), IntKind.u64.wrap (el.getD 17 0), IntKind.i64.wrap (el.getD 18 0), IntKind.i64.wrap (el.getD 19 0)]
theorem body_may {el : List Int} (h : (FT Tr2_T 90 (bodyW el)).getD 0 0 ≠ 0) : FxMay (massOf el) ∧ VxMay (momOf el) := by
  rw [ft_90] at h
  unfold treeFn at h
  generalize hE : envOf (FT Tr2_T107) (bodyW el) = E at *
  have a1 : ((SE.app 88 0 none (.cons (.ivar .i64 0) (.cons (.ivar .u64 1) (.cons (.lit .i64 0) (.cons (.lit .u64 281474976710656) (.cons (.lit .i64 1048576) (.cons (.lit .u64 0) .nil))))))).val E != 0) = true := by
    cases hb : ((SE.app 88 0 none (.cons (.ivar .i64 0) (.cons (.ivar .u64 1) (.cons (.lit .i64 0) (.cons (.lit .u64 281474976710656) (.cons (.lit .i64 1048576) (.cons (.lit .u64 0) .nil))))))).val E != 0) with
    | true => rfl
    | false =>
      exfalso
      have hn := hb
      apply h
      have : ((SE.not (SE.app 88 0 none (.cons (.ivar .i64 0) (.cons (.ivar .u64 1) (.cons (.lit .i64 0) (.cons (.lit .u64 281474976710656) (.cons (.lit .i64 1048576) (.cons (.lit .u64 0) .nil)))))))).val E != 0) = true := by
        unfold SE.val; rw [b2i_ne, hn]; rfl
      unfold tr90
      simp only [ST.get, this, cond_true]
      rfl
  have a2 : ((SE.app 55 0 none (.cons (.ivar .i64 8) (.cons (.ivar .u64 9) (.cons (.ivar .i64 10) (.cons (.ivar .u64 11) .nil))))).val E != 0) = true := by
    cases hb : ((SE.app 55 0 none (.cons (.ivar .i64 8) (.cons (.ivar .u64 9) (.cons (.ivar .i64 10) (.cons (.ivar .u64 11) .nil))))).val E != 0) with
    | true => rfl
    | false =>
      exfalso
      have hn := hb
      apply h
      have : ((SE.not (SE.app 55 0 none (.cons (.ivar .i64 8) (.cons (.ivar .u64 9) (.cons (.ivar .i64 10) (.cons (.ivar .u64 11) .nil)))))).val E != 0) = true := by
        unfold SE.val; rw [b2i_ne, hn]; rfl
      unfold tr90
      simp only [ST.get, this, cond_true, cond_same]
      rfl
  subst hE
  have ww : ∀ k x, inK (some k) (IntKind.wrap k x) := fun k x => wrap_wrap k x
  constructor
  · simp only [SE.val, SE.vals, wrK, b2i_ne, envOf_iv, envOf_F, bodyW, List.getD_cons_zero, List.getD_cons_succ, wrap_wrap] at a1
    rw [ft_88] at a1
    exact from_may (by simpa using a1) (ww _ _) (ww _ _)
  · simp only [SE.val, SE.vals, wrK, b2i_ne, envOf_iv, envOf_F, bodyW, List.getD_cons_zero, List.getD_cons_succ, wrap_wrap] at a2
    rw [ft_55] at a2
    exact vec_may (by simpa using a2) (ww _ _) (ww _ _) (ww _ _) (ww _ _)
/-! ### the loop over the bodies -/
theorem bif_pair {b : Bool} {ys zs w : List Int} {e : Nat} (h : (bif b then (some 0, ys) else (none, zs)) = (some e, w)) : e = 0 := by
  cases b <;> cases h
  rfl
theorem q1_all {F : Nat → List Int → List Int} {l : List (List Int)} {ee : Nat} (hee : ee ≠ 0) (hlen : l.length ≤ maxLen) : ∀ (k i j : Nat) (cur : List Int) (ys : List Int), i + k = l.length + 1 → cur.getD 24 0 = (i : Int) → dec (cur.getD 13 0) = l → runL (fun _ => q1T) F j k cur = some (ee, ys) → ∀ el ∈ l.drop i, (F 90 (bodyW el)).getD 0 0 ≠ 0
  | 0, i, _, _, _, _, _, _, h, _, _ => by cases h
  | k + 1, i, j, cur, ys, hik, h3, hl, h, el, hel => by
    by_cases hi : i < l.length
    · have e3 : IntKind.i64.wrap (i : Int) = (i : Int) := i64_nat (by omega)
      have e4 : IntKind.i64.wrap ((i : Int) + 1) = ((i + 1 : Nat) : Int) := by rw [show (i : Int) + 1 = ((i + 1 : Nat) : Int) by omega]; exact i64_nat (by omega)
      have hlt : decide ((i : Int) < ((sat l.length : Nat) : Int)) = true := by rw [sat_of hlen]; exact decide_eq_true (by omega)
      have hget : ((i : Int)).toNat = i := by omega
      have w1 : IntKind.i64.wrap 1 = 1 := rfl
      have hw : (F 90 (bodyW (l.getD i []))).getD 0 0 ≠ 0 := by
        intro q
        have hb : b2i ((F 90 (bodyW (l.getD i []))).getD 0 0 != 0) = 0 := by rw [q]; rfl
        have hr : q1T.get (envOf F cur) = (some 0, []) := by
          unfold bodyW at hb
          have z0 : ((0 : Int) != 0) = false := rfl
          simp only [q1T, RT.get, SE.val, SE.vals, List.map, valCmp, valBin, b2i_ne, envOf_iv, envOf_F, h3, hl, e3, hlt, hget, wrK, cond_true, hb, z0, Bool.not_false]
        simp only [runL, hr] at h
        exact hee (Prod.mk.inj (Option.some.inj h)).1.symm
      rw [drop_cons l i [] hi] at hel
      rcases List.mem_cons.1 hel with rfl | hel
      · exact hw
      · simp only [runL] at h
        have hn : ∃ e zs, q1T.get (envOf F cur) = (e, zs) := ⟨_, _, rfl⟩
        obtain ⟨e, zs, hz⟩ := hn
        rw [hz] at h
        cases e with
        | none =>
          obtain ⟨g1, g2, g3⟩ := rg_next (c := 24) (lv := 13) (ex := q1E) (F := F) (xs := cur) (i := i) h3 (by rw [hl]; exact hlen) (by rw [hl]; omega) (t := q1T) (g := false) (by kernel_rfl) (fun q => by cases q) zs hz
          exact q1_all hee hlen k (i + 1) (j + 1) zs ys (by omega) g2 (by rw [g3]; exact hl) h el hel
        | some e =>
          have he : e = 0 := by
            have hb : ((F 90 (bodyW (l.getD i []))).getD 0 0 != 0) = true := by simpa using hw
            have z0 : b2i (true) = 1 := rfl
            have z1 : ((1 : Int) != 0) = true := rfl
            unfold bodyW at hb
            simp only [q1T, RT.get, SE.val, SE.vals, valCmp, valBin, b2i_ne, envOf_iv, envOf_F, h3, hl, e3, hlt, hget, wrK, cond_true, hb, Bool.not_true, cond_false] at hz
            exact bif_pair hz
          subst he
          exact absurd rfl (fun q : (0:Nat) = 0 => hee (Prod.mk.inj (Option.some.inj h)).1.symm)
    · rw [List.drop_eq_nil_of_le (by omega)] at hel
      cases hel
end Go.Proofs.Ytedfbamihjnhhaa.Own
