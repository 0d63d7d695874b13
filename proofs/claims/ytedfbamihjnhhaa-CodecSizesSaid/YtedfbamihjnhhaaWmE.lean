/- A world made: whether a body may be, by the document, is the same truth. -/
/- A world made: bodies by numbers may be. -/
import Derived.Test.YtedfbamihjnhhaaWmC
import Derived.Test.YtedfbamihjnhhaaWmB
import Derived.Test.YtedfbamihjnhhaaTr7
section
namespace Go.Proofs.Ytedfbamihjnhhaa.Own
open Go Go.RowKit Go.Proofs Go.Proofs.Ytedfbamihjnhhaa.Plain
set_option linter.unusedVariables false
set_option linter.unusedSectionVars false
set_option linter.unusedSimpArgs false
set_option maxRecDepth 100000
section
variable {F : Nat → List Int → List Int} {zs : List Int} {x y : SE} {q r : Bool}
end
section
variable {a0 a1 b0 b1 : Int}
end
section
variable {a0 a1 b0 b1 : Int}
end
section
variable {zs : List Int} (h : BdIn zs)
include h
end
section
variable {zs : List Int} (h : BdIn zs)
include h
end
end Go.Proofs.Ytedfbamihjnhhaa.Own
end
section
namespace Go.Proofs.Ytedfbamihjnhhaa.Own
open Go Go.RowKit Go.Proofs Go.Proofs.Ytedfbamihjnhhaa.Plain
set_option linter.unusedVariables false
set_option linter.unusedSectionVars false
set_option linter.unusedSimpArgs false
set_option maxRecDepth 100000
def wc (j : Nat) (el : List Int) : Int := (kB j).wrap (el.getD j 0)
def wr (el : List Int) : List Int := [wc 0 el, wc 1 el, wc 2 el, wc 3 el, wc 4 el, wc 5 el, wc 6 el, wc 7 el, wc 8 el, wc 9 el, wc 10 el, wc 11 el, wc 12 el, wc 13 el, wc 14 el, wc 15 el, wc 16 el, wc 17 el, wc 18 el, wc 19 el]
theorem wr_get (el : List Int) (j : Nat) (hj : j < 20) : (wr el).getD j 0 = wc j el := by
 match j, hj with
 | 0, _ | 1, _ | 2, _ | 3, _ | 4, _ | 5, _ | 6, _ | 7, _ | 8, _ | 9, _ | 10, _ | 11, _ | 12, _ | 13, _ | 14, _ | 15, _ | 16, _ | 17, _ | 18, _ | 19, _ => rfl
 | (n + 20), hn => omega
theorem wc_in (j : Nat) (el : List Int) : inK (some (kB j)) (wc j el) := wrap_wrap _ _
theorem wr_in (el : List Int) : BdIn (wr el) := fun j hj => by rw [wr_get el j hj]; exact wc_in j el
theorem q_small {p0 p1 m : Int} (h0 : inK (some .i64) p0) (h1 : inK (some .u64) p1) (hp : -5 ≤ p0 ∧ p0 ≤ 4) (hm : 1 ≤ m ∧ m ≤ 9) : (qV p0 p1 m 0).2 = 0 ∧ nearF (qV p0 p1 m 0).1.n 65536 = true := by
 have km : inK (some .i64) m := by show IntKind.i64.wrap m = m; rw [IntKind.wrap_i64]; omega
 have b1 := in_u h1
 have e1 : (fxW p0 p1).mag.n = (p0 * 18446744073709551616 + p1).natAbs := by rw [Fx.mag_n, fxW_n h0 h1]
 have e2 : (fxW m 0).mag.n = (m * 18446744073709551616 + 0).natAbs := by rw [Fx.mag_n, fxW_n km (show inK (some .u64) 0 from rfl)]
 have hx : (p0 * 18446744073709551616 + p1).natAbs ≤ 110680464442257309696 := by omega
 have hy : 18446744073709551616 ≤ (m * 18446744073709551616 + 0).natAbs := by omega
 unfold qV fdiv
 rw [e1, e2]
 generalize (p0 * 18446744073709551616 + p1).natAbs = x at *
 generalize (m * 18446744073709551616 + 0).natAbs = y at *
 generalize (!((fxW p0 p1).below == (fxW m 0).below)) = s
 clear e1 e2
 have hN : fdivN x y ≤ 110680464442257309697 := by
  have q : x * 18446744073709551616 / y ≤ x := by
   refine Nat.le_trans (Nat.div_le_div_left hy (by omega)) ?_
   rw [Nat.mul_div_cancel _ (by omega)]; exact Nat.le_refl _
  unfold fdivN
  split <;> omega
 rw [if_neg (by omega)]
 generalize fdivN x y = N at *
 have n4 : (Four.of N).n = N := by rw [Four.of_n]; exact Nat.mod_eq_of_lt (by omega)
 have nl : (Four.of N).lo.n = N := by
  have h := (Four.of N).n_eq
  rw [n4] at h
  have := (Four.of N).lo.lt
  omega
 unfold told
 rw [n4, if_neg (by omega), nl]
 refine ⟨rfl, ?_⟩
 have hs : -110680464442257309697 ≤ sgn s N ∧ sgn s N ≤ 110680464442257309697 := by
  unfold sgn
  cases s with
  | true => rw [cond_true]; omega
  | false => rw [cond_false]; omega
 show nearF (Fx.of (sgn s N)).n 65536 = true
 rw [Fx.of_n _ (by omega)]
 unfold nearF nn
 rw [decide_eq_true (show sgn s N ≤ 65536 * 18446744073709551616 + 0 by omega), decide_eq_true (show -65536 * 18446744073709551616 + 0 ≤ sgn s N by omega)]; rfl
structure BdT (el : List Int) : Prop where
 m : 1 ≤ wc 0 el ∧ wc 0 el ≤ 9
 m1 : wc 1 el = 0
 r : 0 ≤ wc 2 el ∧ wc 2 el ≤ 2
 x : -128 ≤ wc 4 el ∧ wc 4 el ≤ 127
 y : -128 ≤ wc 6 el ∧ wc 6 el ≤ 127
 px : -3 ≤ wc 8 el ∧ wc 8 el ≤ 3
 py : -2 ≤ wc 10 el ∧ wc 10 el ≤ 2
 f : wc 12 el = 0
 f1 : wc 13 el ≤ 288230376151711744
 ra : wc 14 el = 0
 ex : 0 ≤ wc 16 el ∧ wc 16 el ≤ 3
 ex1 : wc 17 el = 0
 th : 0 ≤ wc 18 el ∧ wc 18 el ≤ 100
 he : 0 ≤ wc 19 el ∧ wc 19 el ≤ 65535
theorem mayN_small {a b : Int} (h : -1000 ≤ a) : mayN a b = true := by
 unfold mayN
 rw [beq_eq_false_iff_ne.2 (show a ≠ -9223372036854775808 by omega)]; rfl
theorem inF_ok {a b lo hi : Int} (h : -1000 ≤ a) (h1 : lo ≤ nn a b) (h2 : nn a b ≤ hi) : inF a b lo hi = true := by
 unfold inF
 rw [mayN_small h, decide_eq_true h1, decide_eq_true h2]; rfl
theorem near_ok {a b : Int} (h : -200 ≤ a ∧ a ≤ 200) (hb : 0 ≤ b ∧ b < 18446744073709551616) : nearF (nn a b) 1073741824 = true := by
 unfold nearF nn
 rw [decide_eq_true (by omega), decide_eq_true (by omega)]; rfl
theorem wu (j : Nat) (el : List Int) (h : kB j = .u64) : 0 ≤ wc j el ∧ wc j el < 18446744073709551616 := by
 have := wc_in j el; rw [h] at this; exact in_u this
theorem mayB_ok {el : List Int} (h : BdT el) : mayB (wr el) = true := by
 have u3 := wu 3 el rfl
 have u5 := wu 5 el rfl
 have u7 := wu 7 el rfl
 have u9 := wu 9 el rfl
 have u11 := wu 11 el rfl
 have u13 := wu 13 el rfl
 have u15 := wu 15 el rfl
 have hm := h.m; have hr := h.r; have hx := h.x; have hy := h.y; have hpx := h.px; have hpy := h.py; have hf1 := h.f1; have hex := h.ex; have ht := h.th; have hh := h.he
 have k8 : inK (some .i64) (wc 8 el) := wc_in 8 el
 have k9 : inK (some .u64) (wc 9 el) := wc_in 9 el
 have k10 : inK (some .i64) (wc 10 el) := wc_in 10 el
 have k11 : inK (some .u64) (wc 11 el) := wc_in 11 el
 have q1 := q_small k8 k9 (by omega) hm
 have q2 := q_small k10 k11 (by omega) hm
 have hs : slowB (wr el) = true := by
  rw [slow_eq, wr_get el 8 (by decide), wr_get el 9 (by decide), wr_get el 10 (by decide), wr_get el 11 (by decide), wr_get el 0 (by decide), wr_get el 1 (by decide), h.m1]
  rw [decide_eq_true q1.1, decide_eq_true q2.1, q1.2, q2.2]; rfl
 unfold mayB
 rw [hs, wr_get el 0 (by decide), wr_get el 1 (by decide), wr_get el 2 (by decide), wr_get el 3 (by decide), wr_get el 4 (by decide), wr_get el 5 (by decide), wr_get el 6 (by decide), wr_get el 7 (by decide), wr_get el 8 (by decide), wr_get el 9 (by decide), wr_get el 10 (by decide), wr_get el 11 (by decide), wr_get el 12 (by decide), wr_get el 13 (by decide), wr_get el 14 (by decide), wr_get el 15 (by decide), wr_get el 16 (by decide), wr_get el 17 (by decide), wr_get el 18 (by decide), wr_get el 19 (by decide), h.m1, h.f, h.ra, h.ex1]
 rw [mayN_small (by omega), mayN_small (by omega), mayN_small (by omega), mayN_small (by omega)]
 rw [inF_ok (a := wc 0 el) (by omega) (by unfold nn; omega) (by unfold nn; omega)]
 rw [inF_ok (a := 0) (b := wc 13 el) (by omega) (by unfold nn; omega) (by unfold nn; omega)]
 rw [inF_ok (a := wc 2 el) (by omega) (by unfold nn; omega) (by unfold nn; omega)]
 rw [inF_ok (a := 0) (b := wc 15 el) (by omega) (by unfold nn; omega) (by unfold nn; omega)]
 rw [inF_ok (a := wc 16 el) (by omega) (by unfold nn; omega) (by unfold nn; omega)]
 rw [near_ok (by omega) u5, near_ok (by omega) u7]
 rw [decide_eq_true (show 281474976710656 ≤ nn (wc 0 el) 0 - nn 0 (wc 13 el) by unfold nn; omega), decide_eq_true ht.1, decide_eq_true ht.2, decide_eq_true hh.1, decide_eq_true hh.2]
 rfl
/-! bodies by four bytes -/
theorem wb8 {b : Int} (h : 0 ≤ b ∧ b < 256) : IntKind.u8.wrap b = b := by rw [IntKind.wrap_u8]; omega
section
variable {b0 b1 b2 b3 : Int} (h0 : 0 ≤ b0 ∧ b0 < 256) (h1 : 0 ≤ b1 ∧ b1 < 256) (h2 : 0 ≤ b2 ∧ b2 < 256) (h3 : 0 ≤ b3 ∧ b3 < 256)
include h0 h1 h2 h3
theorem f72 : ∃ x3 x5 x7 x9 x11 x15 : Int, FT Lm2_T 72 [b0, b1, b2, b3] = [1 + b2 % 9, 0, b3 % 3, x3, b0 - 128, x5, b1 - 128, x7, b3 % 7 - 3, x9, b2 % 5 - 2, x11, 0, b3 * 1125899906842624, 0, x15, b1 % 4, 0, 0, b3 * 257] := by
 have e : FT Lm2_T 72 = treeFn tr72 (FT Tr5_T22) := g72
 have i0 : (SE.ivar .u8 0).val (envOf (FT Tr5_T22) [b0, b1, b2, b3]) = b0 := by rw [iu_at]; exact wb8 h0
 have i1 : (SE.ivar .u8 1).val (envOf (FT Tr5_T22) [b0, b1, b2, b3]) = b1 := by rw [iu_at]; exact wb8 h1
 have i2 : (SE.ivar .u8 2).val (envOf (FT Tr5_T22) [b0, b1, b2, b3]) = b2 := by rw [iu_at]; exact wb8 h2
 have i3 : (SE.ivar .u8 3).val (envOf (FT Tr5_T22) [b0, b1, b2, b3]) = b3 := by rw [iu_at]; exact wb8 h3
 have cv : ∀ (k : IntKind) (x : SE), (SE.conv k x).val (envOf (FT Tr5_T22) [b0, b1, b2, b3]) = k.wrap (x.val (envOf (FT Tr5_T22) [b0, b1, b2, b3])) := fun k x => by simp only [SE.val]
 have ci : ∀ x : Int, 0 ≤ x ∧ x < 256 → IntKind.i64.wrap x = x := fun x h => by rw [IntKind.wrap_i64]; omega
 have cu : ∀ x : Int, 0 ≤ x ∧ x < 256 → IntKind.u64.wrap x = x := fun x h => by rw [IntKind.wrap_u64]; omega
 have l1 : (SE.lit .i64 1).val (envOf (FT Tr5_T22) [b0, b1, b2, b3]) = 1 := by rw [v_lit]; rfl
 have rm : ∀ (k : IntKind) (x n : Int), 0 ≤ x → 0 < n → k.wrap (x % n) = x % n → valBin .rem k x n = x % n := fun k x n hx hn hk => by
  show k.wrap (x.tmod n) = _
  rw [Int.tmod_eq_emod_of_nonneg hx, hk]
 have a0 : (SE.bin .add .i64 (.lit .i64 1) (.bin .rem .i64 (.conv .i64 (.ivar .u8 2)) (.lit .i64 9))).val (envOf (FT Tr5_T22) [b0, b1, b2, b3]) = 1 + b2 % 9 := by
  rw [v_bin, v_bin, l1, cv, i2, ci b2 h2, v_lit, show IntKind.i64.wrap 9 = 9 from rfl, rm .i64 b2 9 h2.1 (by decide) (by rw [IntKind.wrap_i64]; omega)]
  show IntKind.i64.wrap (1 + b2 % 9) = _
  rw [IntKind.wrap_i64]; omega
 have a16 : (SE.bin .rem .i64 (.conv .i64 (.ivar .u8 1)) (.lit .i64 4)).val (envOf (FT Tr5_T22) [b0, b1, b2, b3]) = b1 % 4 := by
  rw [v_bin, cv, i1, ci b1 h1, v_lit, show IntKind.i64.wrap 4 = 4 from rfl, rm .i64 b1 4 h1.1 (by decide) (by rw [IntKind.wrap_i64]; omega)]
 have t0 : FT Tr5_T22 22 ((SE.cons (.bin .add .i64 (.lit .i64 1) (.bin .rem .i64 (.conv .i64 (.ivar .u8 2)) (.lit .i64 9))) .nil).vals (envOf (FT Tr5_T22) [b0, b1, b2, b3])) = [1 + b2 % 9, 0] := by
  rw [vals_c, vals_n, a0, f22b ⟨by omega, by omega⟩]
 have t16 : FT Tr5_T22 22 ((SE.cons (.bin .rem .i64 (.conv .i64 (.ivar .u8 1)) (.lit .i64 4)) .nil).vals (envOf (FT Tr5_T22) [b0, b1, b2, b3])) = [b1 % 4, 0] := by
  rw [vals_c, vals_n, a16, f22b ⟨by omega, by omega⟩]
 have c0 := ap_i (i := 0) (k := .i64) t0 (gd0 _ _ _) (by show IntKind.i64.wrap _ = _; rw [IntKind.wrap_i64]; omega)
 have c1 := ap_i (i := 1) (k := .u64) (v := 0) t0 rfl rfl
 have c16 := ap_i (i := 0) (k := .i64) t16 (gd0 _ _ _) (by show IntKind.i64.wrap _ = _; rw [IntKind.wrap_i64]; omega)
 have c17 := ap_i (i := 1) (k := .u64) (v := 0) t16 rfl rfl
 have r8 : ∀ (j : Nat) (b n m : Int), (SE.ivar .u8 j).val (envOf (FT Tr5_T22) [b0, b1, b2, b3]) = b → 0 ≤ b ∧ b < 256 → 0 < n ∧ n < 256 → IntKind.u8.wrap n = n → (SE.conv .i64 (.bin .rem .u8 (.ivar .u8 j) (.lit .u8 n))).val (envOf (FT Tr5_T22) [b0, b1, b2, b3]) = b % n := fun j b n m hj hb hn hw => by
  have := Int.emod_lt_of_pos b hn.1
  have := Int.emod_nonneg b (show n ≠ 0 by omega)
  rw [cv, v_bin, hj, v_lit, hw, rm .u8 b n hb.1 hn.1 (wb8 (by omega)), ci _ (by omega)]
 have c2 := r8 3 b3 3 0 i3 h3 (by decide) rfl
 have d8 := r8 3 b3 7 0 i3 h3 (by decide) rfl
 have d10 := r8 2 b2 5 0 i2 h2 (by decide) rfl
 have sb : ∀ (x : SE) (v n : Int), x.val (envOf (FT Tr5_T22) [b0, b1, b2, b3]) = v → 0 ≤ v ∧ v < 256 → 0 ≤ n ∧ n < 256 → IntKind.i64.wrap n = n → (SE.bin .sub .i64 x (.lit .i64 n)).val (envOf (FT Tr5_T22) [b0, b1, b2, b3]) = v - n := fun x v n hx hv hn hw => by
  rw [v_bin, hx, v_lit, hw]
  show IntKind.i64.wrap (v - n) = _
  rw [IntKind.wrap_i64]; omega
 have cI : ∀ (j : Nat) (b : Int), (SE.ivar .u8 j).val (envOf (FT Tr5_T22) [b0, b1, b2, b3]) = b → 0 ≤ b ∧ b < 256 → (SE.conv .i64 (.ivar .u8 j)).val (envOf (FT Tr5_T22) [b0, b1, b2, b3]) = b := fun j b hj hb => by rw [cv, hj, ci b hb]
 have c4 := sb _ b0 128 (cI 0 b0 i0 h0) h0 (by decide) rfl
 have c6 := sb _ b1 128 (cI 1 b1 i1 h1) h1 (by decide) rfl
 have c8 := sb _ (b3 % 7) 3 d8 (by omega) (by decide) rfl
 have c10 := sb _ (b2 % 5) 2 d10 (by omega) (by decide) rfl
 have c13 : (SE.bin .shl .u64 (.conv .u64 (.ivar .u8 3)) (.lit .u64 50)).val (envOf (FT Tr5_T22) [b0, b1, b2, b3]) = b3 * 1125899906842624 := by
  rw [v_bin, cv, i3, cu b3 h3, v_lit]
  show IntKind.u64.wrap (b3 * 1125899906842624) = _
  rw [IntKind.wrap_u64]; omega
 have c19 : (SE.bin .mul .i64 (.conv .i64 (.ivar .u8 3)) (.lit .i64 257)).val (envOf (FT Tr5_T22) [b0, b1, b2, b3]) = b3 * 257 := by
  rw [v_bin, cv, i3, ci b3 h3, v_lit]
  show IntKind.i64.wrap (b3 * 257) = _
  rw [IntKind.wrap_i64]; omega
 refine ⟨4611686018427387904, (SE.bin .shl .u64 (.conv .u64 (.ivar .u8 1)) (.lit .u64 56)).val (envOf (FT Tr5_T22) [b0, b1, b2, b3]), (SE.bin .shl .u64 (.conv .u64 (.ivar .u8 2)) (.lit .u64 40)).val (envOf (FT Tr5_T22) [b0, b1, b2, b3]), (SE.conv .u64 (.ivar .u8 0)).val (envOf (FT Tr5_T22) [b0, b1, b2, b3]), (SE.bin .shl .u64 (.conv .u64 (.ivar .u8 3)) (.lit .u64 60)).val (envOf (FT Tr5_T22) [b0, b1, b2, b3]), (SE.bin .shl .u64 (.conv .u64 (.ivar .u8 0)) (.lit .u64 50)).val (envOf (FT Tr5_T22) [b0, b1, b2, b3]), ?_⟩
 rw [e]
 unfold treeFn
 simp only [tr72, ST.get, flatV, List.map, valC]
 rw [c0, c1, c2, c4, c6, c8, c10, c13, c16, c17, c19]
end
theorem row_get (L : List Int) (j : Nat) (hj : j < 20) : (kBd.zipIdx.map fun p => wrK p.1 (L.getD p.2 0)).getD j 0 = (kB j).wrap (L.getD j 0) := by
 match j, hj with
 | 0, _ | 1, _ | 2, _ | 3, _ | 4, _ | 5, _ | 6, _ | 7, _ | 8, _ | 9, _ | 10, _ | 11, _ | 12, _ | 13, _ | 14, _ | 15, _ | 16, _ | 17, _ | 18, _ | 19, _ => rfl
 | (n + 20), hn => omega
theorem bdT_of {el : List Int} (h : isBd (FT Lm2_T) el) : BdT el := by
 obtain ⟨b0, b1, b2, b3, h0, h1, h2, h3, rfl⟩ := h
 obtain ⟨x3, x5, x7, x9, x11, x15, hf⟩ := f72 h0 h1 h2 h3
 have cell : ∀ (j : Nat) (v : Int), j < 20 → (FT Lm2_T 72 [b0, b1, b2, b3]).getD j 0 = v → (kB j).wrap v = v → wc j (rowBd (FT Lm2_T) b0 b1 b2 b3) = v := by
  intro j v hj hv hk
  have e : (rowBd (FT Lm2_T) b0 b1 b2 b3).getD j 0 = (kB j).wrap ((FT Lm2_T 72 [b0, b1, b2, b3]).getD j 0) := by
   unfold rowBd; exact row_get _ j hj
  unfold wc
  rw [e, hv, hk, hk]
 have wi : ∀ v : Int, -1000 ≤ v ∧ v ≤ 100000 → IntKind.i64.wrap v = v := fun v h => by rw [IntKind.wrap_i64]; omega
 have c0 := cell 0 (1 + b2 % 9) (by decide) (by rw [hf]; rfl) (wi _ (by omega))
 have c1 := cell 1 0 (by decide) (by rw [hf]; rfl) rfl
 have c2 := cell 2 (b3 % 3) (by decide) (by rw [hf]; rfl) (wi _ (by omega))
 have c4 := cell 4 (b0 - 128) (by decide) (by rw [hf]; rfl) (wi _ (by omega))
 have c6 := cell 6 (b1 - 128) (by decide) (by rw [hf]; rfl) (wi _ (by omega))
 have c8 := cell 8 (b3 % 7 - 3) (by decide) (by rw [hf]; rfl) (wi _ (by omega))
 have c10 := cell 10 (b2 % 5 - 2) (by decide) (by rw [hf]; rfl) (wi _ (by omega))
 have c12 := cell 12 0 (by decide) (by rw [hf]; rfl) rfl
 have c13 := cell 13 (b3 * 1125899906842624) (by decide) (by rw [hf]; rfl) (by show IntKind.u64.wrap _ = _; rw [IntKind.wrap_u64]; omega)
 have c14 := cell 14 0 (by decide) (by rw [hf]; rfl) rfl
 have c16 := cell 16 (b1 % 4) (by decide) (by rw [hf]; rfl) (wi _ (by omega))
 have c17 := cell 17 0 (by decide) (by rw [hf]; rfl) rfl
 have c18 := cell 18 0 (by decide) (by rw [hf]; rfl) rfl
 have c19 := cell 19 (b3 * 257) (by decide) (by rw [hf]; rfl) (wi _ (by omega))
 exact ⟨by rw [c0]; omega, c1, by rw [c2]; omega, by rw [c4]; omega, by rw [c6]; omega, by rw [c8]; omega, by rw [c10]; omega, c12, by rw [c13]; omega, c14, by rw [c16]; omega, c17, by rw [c18]; omega, by rw [c19]; omega⟩
theorem wc_set {el : List Int} {off : Nat} {x : Int} {j : Nat} (hj : j ≠ off) : wc j (setRow el off [x]) = wc j el := by
 unfold wc
 rw [setRow_get, if_neg]
 simp only [List.length_singleton]; omega
theorem wc_set' {el : List Int} {off : Nat} {x : Int} : wc off (setRow el off [x]) = (kB off).wrap x := by
 unfold wc
 rw [setRow_get, if_pos ⟨by omega, by simp only [List.length_singleton]; omega⟩, Nat.sub_self]; rfl
theorem m4_in (x : Int) : -3 ≤ m4 x ∧ m4 x ≤ 3 ∧ IntKind.i64.wrap (m4 x) = m4 x := by
 have e : IntKind.i64.wrap 4 = 4 := rfl
 have h : m4 x = IntKind.i64.wrap ((IntKind.i64.wrap x).tmod 4) := by unfold m4; rw [e]
 generalize IntKind.i64.wrap x = y at h
 have b : -3 ≤ y.tmod 4 ∧ y.tmod 4 ≤ 3 := by
  rcases Int.le_total 0 y with hy | hy
  ·rw [Int.tmod_eq_emod_of_nonneg hy]; omega
  ·have := Int.neg_tmod (a := -y) (b := 4)
   rw [Int.neg_neg] at this
   rw [this, Int.tmod_eq_emod_of_nonneg (show 0 ≤ -y by omega)]; omega
 rw [IntKind.wrap_i64] at h
 rw [IntKind.wrap_i64]
 omega
theorem bdT_near {el : List Int} (h : BdT el) : BdT (nearB el) := by
 unfold nearB
 have w4 : wc 4 (setRow (setRow el 4 [m4 (el.getD 4 0)]) 6 [m4 ((setRow el 4 [m4 (el.getD 4 0)]).getD 6 0)]) = m4 (el.getD 4 0) := by
  rw [wc_set (by decide), wc_set']; exact (m4_in _).2.2
 have w6 : wc 6 (setRow (setRow el 4 [m4 (el.getD 4 0)]) 6 [m4 ((setRow el 4 [m4 (el.getD 4 0)]).getD 6 0)]) = m4 ((setRow el 4 [m4 (el.getD 4 0)]).getD 6 0) := by
  rw [wc_set']; exact (m4_in _).2.2
 have m1 := m4_in (el.getD 4 0)
 have m2 := m4_in ((setRow el 4 [m4 (el.getD 4 0)]).getD 6 0)
 have o : ∀ j, j ≠ 4 → j ≠ 6 → wc j (setRow (setRow el 4 [m4 (el.getD 4 0)]) 6 [m4 ((setRow el 4 [m4 (el.getD 4 0)]).getD 6 0)]) = wc j el := fun j h4 h6 => by rw [wc_set h6, wc_set h4]
 exact ⟨by rw [o 0 (by decide) (by decide)]; exact h.m, by rw [o 1 (by decide) (by decide)]; exact h.m1, by rw [o 2 (by decide) (by decide)]; exact h.r, by rw [w4]; omega, by rw [w6]; omega, by rw [o 8 (by decide) (by decide)]; exact h.px, by rw [o 10 (by decide) (by decide)]; exact h.py, by rw [o 12 (by decide) (by decide)]; exact h.f, by rw [o 13 (by decide) (by decide)]; exact h.f1, by rw [o 14 (by decide) (by decide)]; exact h.ra, by rw [o 16 (by decide) (by decide)]; exact h.ex, by rw [o 17 (by decide) (by decide)]; exact h.ex1, by rw [o 18 (by decide) (by decide)]; exact h.th, by rw [o 19 (by decide) (by decide)]; exact h.he⟩
theorem bdT_th {a b : List Int} (h : ThR a b) (ha : BdT a) : BdT b := by
 rcases h with rfl | ⟨c, c0, c1, rfl⟩
 ·exact ha
 ·have o : ∀ j, j ≠ 18 → wc j (setRow a 18 [c]) = wc j a := fun j hj => wc_set hj
  have w : wc 18 (setRow a 18 [c]) = c := by rw [wc_set']; show IntKind.i64.wrap c = c; rw [IntKind.wrap_i64]; omega
  exact ⟨by rw [o 0 (by decide)]; exact ha.m, by rw [o 1 (by decide)]; exact ha.m1, by rw [o 2 (by decide)]; exact ha.r, by rw [o 4 (by decide)]; exact ha.x, by rw [o 6 (by decide)]; exact ha.y, by rw [o 8 (by decide)]; exact ha.px, by rw [o 10 (by decide)]; exact ha.py, by rw [o 12 (by decide)]; exact ha.f, by rw [o 13 (by decide)]; exact ha.f1, by rw [o 14 (by decide)]; exact ha.ra, by rw [o 16 (by decide)]; exact ha.ex, by rw [o 17 (by decide)]; exact ha.ex1, by rw [w]; omega, by rw [o 19 (by decide)]; exact ha.he⟩
end Go.Proofs.Ytedfbamihjnhhaa.Own
end
