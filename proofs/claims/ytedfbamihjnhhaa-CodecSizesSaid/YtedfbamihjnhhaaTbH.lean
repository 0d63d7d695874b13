/- Package vec: a sum of ways: what the code computes. -/
/- The document's sums: what the code computes. -/
/- Contracts that were proved by hand, as a table. -/
import Derived.Test.YtedfbamihjnhhaaFixX
import Derived.Test.YtedfbamihjnhhaaRefX
import Derived.Test.YtedfbamihjnhhaaFvX
section
namespace Go.Proofs.Ytedfbamihjnhhaa.Own
open Go Go.RowKit Go.Proofs Go.Proofs.Ytedfbamihjnhhaa.Plain
set_option linter.unusedVariables false
set_option linter.unusedSimpArgs false
set_option maxRecDepth 100000
structure Vx where
 x : Fx
 y : Fx
@[reducible] def Vx.v (a : Vx) : Value := .agg #[.int .i64 a.x.hi, .int .u64 a.x.lo, .int .i64 a.y.hi, .int .u64 a.y.lo]
def Fx.zero : Fx := ⟨0, 0, by decide⟩
def vadd (a b : Vx) : Vx × Int := if (fadd a.x b.x).2 = 0 then if (fadd a.y b.y).2 = 0 then (⟨(fadd a.x b.x).1, (fadd a.y b.y).1⟩, 0) else (⟨.zero, .zero⟩, (fadd a.y b.y).2) else (⟨.zero, .zero⟩, (fadd a.x b.x).2)
set_option maxHeartbeats 8000000 in
theorem each_pure (a b : Vx) : Pure Try.prog 71 #[a.v, b.v, .func (.func 29) #[] #[]] (.tuple #[(vadd a b).1.v, .int .i64 (vadd a b).2]) := by
 have h1 := fadd_pure a.x b.x
 have h2 := fadd_pure a.y b.y
 have hv : vadd a b = if (fadd a.x b.x).2 = 0 then if (fadd a.y b.y).2 = 0 then (⟨(fadd a.x b.x).1, (fadd a.y b.y).1⟩, 0) else (⟨.zero, .zero⟩, (fadd a.y b.y).2) else (⟨.zero, .zero⟩, (fadd a.x b.x).2) := rfl
 generalize vadd a b = r at *
 generalize fadd a.x b.x = p at *
 generalize fadd a.y b.y = q at *
 obtain ⟨p, e⟩ := p
 obtain ⟨q, f⟩ := q
 dsimp only at h1 h2 hv
 obtain ⟨c, hc⟩ : ∃ c, (!(decide (e = 0))) = c := ⟨_, rfl⟩
 obtain ⟨d, hd⟩ : ∃ c, (!(decide (f = 0))) = c := ⟨_, rfl⟩
 have e1 : arith .neq .i64 e 0 = some (.bool c) := by simp only [arith, ← hc]; rfl
 have e2 : arith .neq .i64 f 0 = some (.bool d) := by simp only [arith, ← hd]; rfl
 refine pure_q Try.func71 rfl Try.ntmps71 rfl rfl (fun w0 Q hQ => ?_)
 repeat' (
  first
   | refine k_callv (hcap := by first | eq_refl | fail) (hp := h1) (h := ?_)
   | refine k_callv (hcap := by first | eq_refl | fail) (hp := h2) (h := ?_)
   | refine j_seq_k (fun N hN => ?_)
   | refine j_text ?_
   | refine j_block ?_
   | refine j_skip ?_
   | refine j_ret ?_
   | refine j_exit ?_
   | refine s_nil (show X _ _ _ _ _ from ?_)
   | (refine x_next hN ?_; clear hN N)
   | (refine x_then_ret ?_; clear hN N)
   | (refine x_then_exit ?_; clear hN N)
   | refine x_block ?_
   | refine x_block_ret ?_
   | refine x_block_hit ?_
   | refine x_block_miss (by eq_refl) ?_
   | refine k_skip (h := ?_)
   | refine k_fieldAddr (h := ?_)
   | refine k_load_one (h := ?_)
   | refine k_load_agg (h := ?_)
   | refine k_bin (h := ?_)
   | refine k_move (h := ?_)
   | refine k_assign (h := ?_)
   | refine k_extract (h := ?_)
   | (refine k_box (h := ?_); intro g)
   | (refine k_alloc (h := ?_); intro g)
   | refine k_store (h := ?_)
   | refine k_field_agg (h := ?_)
   | refine k_build (h := ?_)
   | refine k_conv (h := ?_)
   | refine k_not (h := ?_)
   | refine k_eqb (h := ?_)
   | refine k_neb (h := ?_)
   | refine k_eqs (h := ?_)
   | refine k_nes (h := ?_)
   | refine k_pick_t (h := ?_)
   | refine k_pick_f (h := ?_)
   | refine k_shl (h := ?_)
   | refine k_shr (h := ?_)
   | refine k_len_slice (h := ?_)
   | refine k_quo (h := ?_)
   | refine k_rem (h := ?_)
   | (refine k_buildSlice (h := ?_); intro g)
   | refine k_indexAddr_arr (h := ?_)
   | refine c_true (h := ?_)
   | refine c_false (h := ?_)
   | (refine s_ask (by eq_refl) (by eq_refl) (evO_eq (by eq_refl)) (fun hask => ?_) (fun hask => ?_))
   | (refine c_split (by eq_refl) (fun hif => ?_) (fun hif => ?_))
  )
 all_goals refine hQ _ _ (ret2 rfl (by (first | exact v_tmp | exact v_agg)) (by (first | exact v_tmp | exact v_agg)) ?_)
 all_goals clear hQ h1 h2 e1 e2
 ·have he : ¬ e = 0 := by rw [hif] at hc; simpa using hc
  rw [if_neg he] at hv; rw [hv]; rfl
 ·have hc0 : c = false := by assumption
  have he : e = 0 := by rw [hc0] at hc; simpa using hc
  have hf : ¬ f = 0 := by rw [hif] at hd; simpa using hd
  rw [if_pos he, if_neg hf] at hv; rw [hv]; rfl
 ·have hc0 : c = false := by assumption
  have he : e = 0 := by rw [hc0] at hc; simpa using hc
  have hf : f = 0 := by rw [hif] at hd; simpa using hd
  rw [if_pos he, if_pos hf] at hv; rw [hv]
set_option maxHeartbeats 8000000 in
theorem vadd_pure (a b : Vx) : Pure Try.prog 30 #[a.v, b.v] (.tuple #[(vadd a b).1.v, .int .i64 (vadd a b).2]) := by
 have h1 := each_pure a b
 generalize vadd a b = r at *
 refine pure_q Try.func30 rfl Try.ntmps30 rfl rfl (fun w0 Q hQ => ?_)
 repeat' (
  first
   | refine j_seq_k (fun N hN => ?_)
   | refine j_text ?_
   | refine j_block ?_
   | refine j_skip ?_
   | refine j_ret ?_
   | refine j_exit ?_
   | refine s_nil (show X _ _ _ _ _ from ?_)
   | (refine x_next hN ?_; clear hN N)
   | (refine x_then_ret ?_; clear hN N)
   | (refine x_then_exit ?_; clear hN N)
   | refine x_block ?_
   | refine x_block_ret ?_
   | refine x_block_hit ?_
   | refine x_block_miss (by eq_refl) ?_
   | refine k_skip (h := ?_)
   | refine k_fieldAddr (h := ?_)
   | refine k_load_one (h := ?_)
   | refine k_load_agg (h := ?_)
   | refine k_bin (h := ?_)
   | refine k_move (h := ?_)
   | refine k_assign (h := ?_)
   | refine k_extract (h := ?_)
   | refine k_call (hp := h1) (h := ?_)
   | (refine k_box (h := ?_); intro g)
   | (refine k_alloc (h := ?_); intro g)
   | refine k_store (h := ?_)
   | refine k_field_agg (h := ?_)
   | refine k_build (h := ?_)
   | refine k_conv (h := ?_)
   | refine k_not (h := ?_)
   | refine k_eqb (h := ?_)
   | refine k_neb (h := ?_)
   | refine k_eqs (h := ?_)
   | refine k_nes (h := ?_)
   | refine k_pick_t (h := ?_)
   | refine k_pick_f (h := ?_)
   | refine k_shl (h := ?_)
   | refine k_shr (h := ?_)
   | refine k_len_slice (h := ?_)
   | refine k_quo (h := ?_)
   | refine k_rem (h := ?_)
   | (refine k_buildSlice (h := ?_); intro g)
   | refine k_indexAddr_arr (h := ?_)
   | refine c_true (h := ?_)
   | refine c_false (h := ?_)
   | (refine s_ask (by eq_refl) (by eq_refl) (evO_eq (by eq_refl)) (fun hask => ?_) (fun hask => ?_))
   | (refine c_split (by eq_refl) (fun hif => ?_) (fun hif => ?_))
  )
 all_goals refine hQ _ _ (ret2 rfl (by (first | exact v_tmp | exact v_agg)) (by (first | exact v_tmp | exact v_agg)) ?_)
 rfl
end Go.Proofs.Ytedfbamihjnhhaa.Own
end
section
namespace Go.Proofs.Ytedfbamihjnhhaa.Own
open Go Go.RowKit Go.Proofs Go.Proofs.Ytedfbamihjnhhaa.Plain
set_option linter.unusedVariables false
set_option linter.unusedSimpArgs false
set_option maxRecDepth 100000
set_option maxHeartbeats 8000000 in
theorem radd_pure (a b : Fx) : Pure Try.prog 19 #[a.v, b.v] (.agg #[.int .i64 (radd a b).1.hi, .int .u64 (radd a b).1.lo, .int .i64 (radd a b).2]) := by
 have h1 := mag_pure a
 have h2 := mag_pure b
 have h3 := addtwo_pure a.mag b.mag
 have h4 := less_pure a.mag b.mag
 have h5 := subtwo_pure a.mag b.mag
 have h6 := subtwo_pure b.mag a.mag
 have s1 := signed_pure a.below ⟨⟨0, 0, by decide⟩, Two.of (a.mag.n + b.mag.n)⟩
 have s2 := signed_pure b.below ⟨⟨0, 0, by decide⟩, Two.of (b.mag.n + 340282366920938463463374607431768211456 - a.mag.n)⟩
 have s3 := signed_pure a.below ⟨⟨0, 0, by decide⟩, Two.of (a.mag.n + 340282366920938463463374607431768211456 - b.mag.n)⟩
 have hr : radd a b = if a.below = b.below then told ⟨⟨0, 0, by decide⟩, Two.of (a.mag.n + b.mag.n)⟩ a.below else if a.mag.n < b.mag.n then told ⟨⟨0, 0, by decide⟩, Two.of (b.mag.n + 340282366920938463463374607431768211456 - a.mag.n)⟩ b.below else told ⟨⟨0, 0, by decide⟩, Two.of (a.mag.n + 340282366920938463463374607431768211456 - b.mag.n)⟩ a.below := rfl
 generalize radd a b = r at *
 generalize told ⟨⟨0, 0, by decide⟩, Two.of (a.mag.n + b.mag.n)⟩ a.below = t1 at *
 generalize told ⟨⟨0, 0, by decide⟩, Two.of (b.mag.n + 340282366920938463463374607431768211456 - a.mag.n)⟩ b.below = t2 at *
 generalize told ⟨⟨0, 0, by decide⟩, Two.of (a.mag.n + 340282366920938463463374607431768211456 - b.mag.n)⟩ a.below = t3 at *
 generalize Two.of (a.mag.n + b.mag.n) = S at *
 generalize Two.of (b.mag.n + 340282366920938463463374607431768211456 - a.mag.n) = D1 at *
 generalize Two.of (a.mag.n + 340282366920938463463374607431768211456 - b.mag.n) = D2 at *
 obtain ⟨sa, hsa⟩ : ∃ x, a.below = x := ⟨_, rfl⟩
 obtain ⟨sb, hsb⟩ : ∃ x, b.below = x := ⟨_, rfl⟩
 obtain ⟨ls, hls⟩ : ∃ x, decide (a.mag.n < b.mag.n) = x := ⟨_, rfl⟩
 have e1 : arith .lss .i64 a.hi 0 = some (.bool sa) := by rw [← hsa]; rfl
 have e2 : arith .lss .i64 b.hi 0 = some (.bool sb) := by rw [← hsb]; rfl
 rw [hsa] at s1 s3
 rw [hsb] at s2
 rw [hls] at h4
 rw [hsa, hsb] at hr
 refine pure_q Try.func19 rfl Try.ntmps19 rfl rfl (fun w0 Q hQ => ?_)
 repeat' (
  first
   | refine j_seq_k (fun N hN => ?_)
   | refine j_text ?_
   | refine j_draw (id := 1) [] (by kernel_rfl) (by kernel_rfl) ?_
   | refine j_draw (id := 3) [(998, .eff)] (by kernel_rfl) (by kernel_rfl) ?_
   | refine j_draw (id := 5) [(998, .eff)] (by kernel_rfl) (by kernel_rfl) ?_
   | refine j_draw (id := 6) [(998, .eff)] (by kernel_rfl) (by kernel_rfl) ?_
   | refine j_block ?_
   | refine j_skip ?_
   | refine j_ret ?_
   | refine j_exit ?_
   | refine s_nil (show X _ _ _ _ _ from ?_)
   | (refine x_next hN ?_; clear hN N)
   | (refine x_then_ret ?_; clear hN N)
   | (refine x_then_exit ?_; clear hN N)
   | refine x_block ?_
   | refine x_block_ret ?_
   | refine x_block_hit ?_
   | refine x_block_miss (by eq_refl) ?_
   | refine k_skip (h := ?_)
   | refine k_fieldAddr (h := ?_)
   | refine k_load_one (h := ?_)
   | refine k_load_agg (h := ?_)
   | refine k_bin (h := ?_)
   | refine k_move (h := ?_)
   | refine k_assign (h := ?_)
   | refine k_extract (h := ?_)
   | refine k_call (hp := h1) (h := ?_)
   | refine k_call (hp := h2) (h := ?_)
   | refine k_call (hp := h3) (h := ?_)
   | refine k_call (hp := h4) (h := ?_)
   | refine k_call (hp := h5) (h := ?_)
   | refine k_call (hp := h6) (h := ?_)
   | refine k_call (hp := s1) (h := ?_)
   | refine k_call (hp := s2) (h := ?_)
   | refine k_call (hp := s3) (h := ?_)
   | (refine k_box (h := ?_); intro g)
   | (refine k_alloc (h := ?_); intro g)
   | refine k_store (h := ?_)
   | refine k_field_agg (h := ?_)
   | refine k_build (h := ?_)
   | refine k_conv (h := ?_)
   | refine k_not (h := ?_)
   | refine k_eqb (h := ?_)
   | refine k_neb (h := ?_)
   | refine k_eqs (h := ?_)
   | refine k_nes (h := ?_)
   | refine k_pick_t (h := ?_)
   | refine k_pick_f (h := ?_)
   | refine k_shl (h := ?_)
   | refine k_shr (h := ?_)
   | refine k_len_slice (h := ?_)
   | refine k_quo (h := ?_)
   | refine k_rem (h := ?_)
   | (refine k_buildSlice (h := ?_); intro g)
   | refine k_indexAddr_arr (h := ?_)
   | refine c_true (h := ?_)
   | refine c_false (h := ?_)
   | (refine s_ask (by eq_refl) (by eq_refl) (evO_eq (by eq_refl)) (fun hask => ?_) (fun hask => ?_))
   | (refine c_split (by eq_refl) (fun hif => ?_) (fun hif => ?_))
  )
 all_goals clear h1 h2 h3 h4 h5 h6 s1 s2 s3
 all_goals refine hQ _ _ (ret1 rfl (by (first | exact v_tmp | exact v_agg)) ?_)
 all_goals clear hQ
 ·rw [if_pos (beq_iff_eq.1 hif)] at hr; rw [hr]
 ·have q : ¬ sa = sb := by have q : (sa == sb) = false := (by assumption); intro h; rw [h] at q; simp at q
  rw [if_neg q, if_pos (of_decide_eq_true (hls.trans hif))] at hr; rw [hr]
 ·have q : ¬ sa = sb := by have q : (sa == sb) = false := (by assumption); intro h; rw [h] at q; simp at q
  rw [if_neg q, if_neg (of_decide_eq_false (hls.trans hif))] at hr; rw [hr]
end Go.Proofs.Ytedfbamihjnhhaa.Own
end
section
namespace Go.Proofs.Ytedfbamihjnhhaa.Own
open Go Go.RowKit Go.Proofs Go.Proofs.Ytedfbamihjnhhaa.Plain
set_option linter.unusedVariables false
set_option linter.unusedSimpArgs false
set_option maxRecDepth 100000
def fxW (hi lo : Int) : Fx := Fx.of (hi * 18446744073709551616 + lo)
theorem inK_i64 {x : Int} (h : inK (some .i64) x) : -9223372036854775808 ≤ x ∧ x < 9223372036854775808 := by
 have h : IntKind.i64.wrap x = x := h
 rw [IntKind.wrap_i64] at h; omega
theorem inK_u64 {x : Int} (h : inK (some .u64) x) : 0 ≤ x ∧ x < 18446744073709551616 := by
 have h : IntKind.u64.wrap x = x := h
 rw [IntKind.wrap_u64] at h; omega
theorem fxW_hi {hi lo : Int} (h : inK (some .i64) hi) (h' : inK (some .u64) lo) : (fxW hi lo).hi = hi := by
 have := inK_i64 h; have := inK_u64 h'
 unfold fxW Fx.of
 show IntKind.i64.wrap _ = _
 rw [IntKind.wrap_i64]; omega
theorem fxW_lo {hi lo : Int} (h' : inK (some .u64) lo) : (fxW hi lo).lo = lo := by
 have := inK_u64 h'
 unfold fxW Fx.of
 show (_ : Int) % _ = _
 omega
theorem fxW_v {hi lo : Int} (h : inK (some .i64) hi) (h' : inK (some .u64) lo) : (fxW hi lo).v = .agg #[.int .i64 hi, .int .u64 lo] := by
 unfold Fx.v; rw [fxW_hi h h', fxW_lo h']
theorem fxW_n {hi lo : Int} (h : inK (some .i64) hi) (h' : inK (some .u64) lo) : (fxW hi lo).n = hi * 18446744073709551616 + lo := by
 unfold Fx.n; rw [fxW_hi h h', fxW_lo h']
theorem fx_in (a : Fx) : inK (some .i64) a.hi ∧ inK (some .u64) a.lo := by
 have := a.b
 constructor
 ·show IntKind.i64.wrap a.hi = a.hi; rw [IntKind.wrap_i64]; omega
 ·show IntKind.u64.wrap a.lo = a.lo; rw [IntKind.wrap_u64]; omega
theorem err_in {e : Int} (h : e = 0 ∨ e = 3) : inK (some .i64) e := by
 rcases h with rfl | rfl <;> rfl
theorem told_err (m : Four) (s : Bool) : (told m s).2 = 0 ∨ (told m s).2 = 3 := by unfold told; split <;> simp
theorem fadd_err (a b : Fx) : (fadd a b).2 = 0 ∨ (fadd a b).2 = 3 := by unfold fadd; split; exact told_err _ _; exact .inl rfl
theorem radd_err (a b : Fx) : (radd a b).2 = 0 ∨ (radd a b).2 = 3 := by
 unfold radd
 split
 ·exact told_err _ _
 ·split <;> exact told_err _ _
theorem vadd_err (a b : Vx) : (vadd a b).2 = 0 ∨ (vadd a b).2 = 3 := by
 unfold vadd
 split
 ·split
  ·exact .inl rfl
  ·exact fadd_err _ _
 ·exact fadd_err _ _
def kFx : Sh := .agg [some .i64, some .u64]
def kVx : Sh := .agg [some .i64, some .u64, some .i64, some .u64]
def gFadd (xs : List Int) : List Int := let p := fadd (fxW (xs.getD 0 0) (xs.getD 1 0)) (fxW (xs.getD 2 0) (xs.getD 3 0)); [p.1.hi, p.1.lo, p.2]
def gRadd (xs : List Int) : List Int := let p := radd (fxW (xs.getD 0 0) (xs.getD 1 0)) (fxW (xs.getD 2 0) (xs.getD 3 0)); [p.1.hi, p.1.lo, p.2]
def gVadd (xs : List Int) : List Int := let p := vadd ⟨fxW (xs.getD 0 0) (xs.getD 1 0), fxW (xs.getD 2 0) (xs.getD 3 0)⟩ ⟨fxW (xs.getD 4 0) (xs.getD 5 0), fxW (xs.getD 6 0) (xs.getD 7 0)⟩; [p.1.x.hi, p.1.x.lo, p.1.y.hi, p.1.y.lo, p.2]
theorem in4 {a b c d : Option IntKind} {xs : List Int} (h : InC [a, b, c, d] xs) : ∃ x0 x1 x2 x3, xs = [x0, x1, x2, x3] ∧ inK a x0 ∧ inK b x1 ∧ inK c x2 ∧ inK d x3 := by
 match xs, h with
 | [x0, x1, x2, x3], h => exact ⟨x0, x1, x2, x3, rfl, h.1, h.2.1, h.2.2.1, h.2.2.2.1⟩
theorem in8 {a b c d e f g i : Option IntKind} {xs : List Int} (h : InC [a, b, c, d, e, f, g, i] xs) : ∃ x0 x1 x2 x3 x4 x5 x6 x7, xs = [x0, x1, x2, x3, x4, x5, x6, x7] ∧ (inK a x0 ∧ inK b x1 ∧ inK c x2 ∧ inK d x3) ∧ inK e x4 ∧ inK f x5 ∧ inK g x6 ∧ inK i x7 := by
 match xs, h with
 | [x0, x1, x2, x3, x4, x5, x6, x7], h => exact ⟨x0, x1, x2, x3, x4, x5, x6, x7, rfl, ⟨h.1, h.2.1, h.2.2.1, h.2.2.2.1⟩, h.2.2.2.2.1, h.2.2.2.2.2.1, h.2.2.2.2.2.2.1, h.2.2.2.2.2.2.2.1⟩
theorem cte_fadd : CTE Try.prog gFadd 29 [kFx, kFx] (.tup [kFx, .one (some .i64)]) := fun xs h => by
 obtain ⟨x0, x1, x2, x3, rfl, h0, h1, h2, h3⟩ := in4 h
 have e1 := fxW_v h0 h1
 have e2 := fxW_v h2 h3
 have hp := fadd_pure (fxW x0 x1) (fxW x2 x3)
 rw [e1, e2] at hp
 obtain ⟨i1, i2⟩ := fx_in (fadd (fxW x0 x1) (fxW x2 x3)).1
 exact ⟨⟨i1, i2, err_in (fadd_err _ _), trivial⟩, hp⟩
theorem cte_radd : CTE Try.prog gRadd 19 [kFx, kFx] (.one (.agg [some .i64, some .u64, some .i64])) := fun xs h => by
 obtain ⟨x0, x1, x2, x3, rfl, h0, h1, h2, h3⟩ := in4 h
 have e1 := fxW_v h0 h1
 have e2 := fxW_v h2 h3
 have hp := radd_pure (fxW x0 x1) (fxW x2 x3)
 rw [e1, e2] at hp
 obtain ⟨i1, i2⟩ := fx_in (radd (fxW x0 x1) (fxW x2 x3)).1
 exact ⟨⟨i1, i2, err_in (radd_err _ _), trivial⟩, hp⟩
theorem cte_vadd : CTE Try.prog gVadd 30 [kVx, kVx] (.tup [kVx, .one (some .i64)]) := fun xs h => by
 obtain ⟨x0, x1, x2, x3, x4, x5, x6, x7, rfl, ⟨h0, h1, h2, h3⟩, h4, h5, h6, h7⟩ := in8 h
 have hp := vadd_pure ⟨fxW x0 x1, fxW x2 x3⟩ ⟨fxW x4 x5, fxW x6 x7⟩
 have e1 : (⟨fxW x0 x1, fxW x2 x3⟩ : Vx).v = .agg #[.int .i64 x0, .int .u64 x1, .int .i64 x2, .int .u64 x3] := by
  unfold Vx.v; simp only [fxW_hi h0 h1, fxW_lo h1, fxW_hi h2 h3, fxW_lo h3]
 have e2 : (⟨fxW x4 x5, fxW x6 x7⟩ : Vx).v = .agg #[.int .i64 x4, .int .u64 x5, .int .i64 x6, .int .u64 x7] := by
  unfold Vx.v; simp only [fxW_hi h4 h5, fxW_lo h5, fxW_hi h6 h7, fxW_lo h7]
 rw [e1, e2] at hp
 obtain ⟨i1, i2⟩ := fx_in (vadd ⟨fxW x0 x1, fxW x2 x3⟩ ⟨fxW x4 x5, fxW x6 x7⟩).1.x
 obtain ⟨i3, i4⟩ := fx_in (vadd ⟨fxW x0 x1, fxW x2 x3⟩ ⟨fxW x4 x5, fxW x6 x7⟩).1.y
 exact ⟨⟨i1, i2, i3, i4, err_in (vadd_err _ _), trivial⟩, hp⟩
def TbH_T : List Ent := ⟨29, [kFx, kFx], .tup [kFx, .one (some .i64)], fun _ => gFadd, false⟩ :: ⟨19, [kFx, kFx], .one (.agg [some .i64, some .u64, some .i64]), fun _ => gRadd, false⟩ :: ⟨30, [kVx, kVx], .tup [kVx, .one (some .i64)], fun _ => gVadd, false⟩ :: []
theorem TbH_ok : TbOK Try.prog TbH_T := tb_cons (tb_cons (tb_cons tb_nil rfl (by kernel_rfl) cte_vadd) rfl (by kernel_rfl) cte_radd) rfl (by kernel_rfl) cte_fadd
end Go.Proofs.Ytedfbamihjnhhaa.Own
end
