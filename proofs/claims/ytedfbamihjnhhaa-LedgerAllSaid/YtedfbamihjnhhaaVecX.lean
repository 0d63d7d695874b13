/- Package vec: a sum of ways: what the code computes. -/
import Derived.Test.YtedfbamihjnhhaaFixX
namespace Go.Proofs.Ytedfbamihjnhhaa.Own
open Go Go.RowKit Go.Proofs Go.Proofs.Ytedfbamihjnhhaa.Plain
set_option linter.unusedVariables false
set_option linter.unusedSimpArgs false
set_option maxRecDepth 100000
structure Vx where
  x : Fx
  y : Fx
@[reducible] def Vx.v (a : Vx) : Value := .agg #[.int .i64 a.x.hi, .int .u64 a.x.lo, .int .i64 a.y.hi, .int .u64 a.y.lo]
def Fx.zero : Fx := ⟨0, 0, by decide⟩
def vadd (a b : Vx) : Vx × Int := if (fadd a.x b.x).2 = 0 then if (fadd a.y b.y).2 = 0 then (⟨(fadd a.x b.x).1, (fadd a.y b.y).1⟩, 0) else (⟨.zero, .zero⟩, (fadd a.y b.y).2) else (⟨.zero, .zero⟩, (fadd a.x b.x).2)
set_option maxHeartbeats 8000000 in
theorem each_pure (a b : Vx) : Pure Try.prog 71 #[a.v, b.v, .func (.func 29) #[] #[]] (.tuple #[(vadd a b).1.v, .int .i64 (vadd a b).2]) := by
  have h1 := fadd_pure a.x b.x
  have h2 := fadd_pure a.y b.y
  have hv : vadd a b = if (fadd a.x b.x).2 = 0 then if (fadd a.y b.y).2 = 0 then (⟨(fadd a.x b.x).1, (fadd a.y b.y).1⟩, 0) else (⟨.zero, .zero⟩, (fadd a.y b.y).2) else (⟨.zero, .zero⟩, (fadd a.x b.x).2) := rfl
  generalize vadd a b = r at *
  generalize fadd a.x b.x = p at *
  generalize fadd a.y b.y = q at *
  obtain ⟨p, e⟩ := p
  obtain ⟨q, f⟩ := q
  dsimp only at h1 h2 hv
  obtain ⟨c, hc⟩ : ∃ c, (!(decide (e = 0))) = c := ⟨_, rfl⟩
  obtain ⟨d, hd⟩ : ∃ c, (!(decide (f = 0))) = c := ⟨_, rfl⟩
  have e1 : arith .neq .i64 e 0 = some (.bool c) := by simp only [arith, ← hc]; rfl
  have e2 : arith .neq .i64 f 0 = some (.bool d) := by simp only [arith, ← hd]; rfl
  refine pure_q Try.func71 rfl Try.ntmps71 rfl rfl (fun w0 Q hQ => ?_)
  repeat' (
    first
      | refine k_callv (hcap := by first | eq_refl | fail) (hp := h1) (h := ?_)
      | refine k_callv (hcap := by first | eq_refl | fail) (hp := h2) (h := ?_)
      | refine j_seq_k (fun N hN => ?_)
      | refine j_text ?_
      | refine j_block ?_
      | refine j_skip ?_
      | refine j_ret ?_
      | refine j_exit ?_
      | refine s_nil (show X _ _ _ _ _ from ?_)
      | (refine x_next hN ?_; clear hN N)
      | (refine x_then_ret ?_; clear hN N)
      | (refine x_then_exit ?_; clear hN N)
      | refine x_block ?_
      | refine x_block_ret ?_
      | refine x_block_hit ?_
      | refine x_block_miss (by eq_refl) ?_
      | refine k_skip (h := ?_)
      | refine k_skip0 (h := ?_)
      | refine k_fieldAddr (h := ?_)
      | refine k_load_one (h := ?_)
      | refine k_load_agg (h := ?_)
      | refine k_bin (h := ?_)
      | refine k_move (h := ?_)
      | refine k_assign (h := ?_)
      | refine k_extract (h := ?_)
      | (refine k_box (h := ?_); intro g)
      | (refine k_alloc (h := ?_); intro g)
      | refine k_store (h := ?_)
      | refine k_field_agg (h := ?_)
      | refine k_field_one (h := ?_)
      | refine k_build (h := ?_)
      | refine k_conv (h := ?_)
      | refine k_not (h := ?_)
      | refine k_eqb (h := ?_)
      | refine k_neb (h := ?_)
      | refine k_eqs (h := ?_)
      | refine k_nes (h := ?_)
      | refine k_pick_t (h := ?_)
      | refine k_pick_f (h := ?_)
      | refine k_nilCheck (h := ?_)
      | refine k_makeFunc (h := ?_)
      | refine k_shl (h := ?_)
      | refine k_shr (h := ?_)
      | refine k_neg (h := ?_)
      | refine k_index_arr (h := ?_)
      | refine k_len_slice (h := ?_)
      | refine k_quo (h := ?_)
      | refine k_rem (h := ?_)
      | (refine k_buildSlice (h := ?_); intro g)
      | refine k_indexAddr_arr (h := ?_)
      | refine c_true (h := ?_)
      | refine c_false (h := ?_)
      | (refine s_ask (by eq_refl) (by eq_refl) (evO_eq (by eq_refl)) (fun hask => ?_) (fun hask => ?_))
      | (refine c_split (by eq_refl) (fun hif => ?_) (fun hif => ?_))
    )
  all_goals refine hQ _ _ (ret2 rfl (by (first | exact v_tmp | exact v_one | exact v_agg)) (by (first | exact v_tmp | exact v_one | exact v_agg)) ?_)
  all_goals clear hQ h1 h2 e1 e2
  · have he : ¬ e = 0 := by rw [hif] at hc; simpa using hc
    rw [if_neg he] at hv; rw [hv]; rfl
  · have hc0 : c = false := by assumption
    have he : e = 0 := by rw [hc0] at hc; simpa using hc
    have hf : ¬ f = 0 := by rw [hif] at hd; simpa using hd
    rw [if_pos he, if_neg hf] at hv; rw [hv]; rfl
  · have hc0 : c = false := by assumption
    have he : e = 0 := by rw [hc0] at hc; simpa using hc
    have hf : f = 0 := by rw [hif] at hd; simpa using hd
    rw [if_pos he, if_pos hf] at hv; rw [hv]
set_option maxHeartbeats 8000000 in
/-- the sum of two ways -/
theorem vadd_pure (a b : Vx) : Pure Try.prog 30 #[a.v, b.v] (.tuple #[(vadd a b).1.v, .int .i64 (vadd a b).2]) := by
  have h1 := each_pure a b
  generalize vadd a b = r at *
  refine pure_q Try.func30 rfl Try.ntmps30 rfl rfl (fun w0 Q hQ => ?_)
  repeat' (
    first
      | refine j_seq_k (fun N hN => ?_)
      | refine j_text ?_
      | refine j_block ?_
      | refine j_skip ?_
      | refine j_ret ?_
      | refine j_exit ?_
      | refine s_nil (show X _ _ _ _ _ from ?_)
      | (refine x_next hN ?_; clear hN N)
      | (refine x_then_ret ?_; clear hN N)
      | (refine x_then_exit ?_; clear hN N)
      | refine x_block ?_
      | refine x_block_ret ?_
      | refine x_block_hit ?_
      | refine x_block_miss (by eq_refl) ?_
      | refine k_skip (h := ?_)
      | refine k_skip0 (h := ?_)
      | refine k_fieldAddr (h := ?_)
      | refine k_load_one (h := ?_)
      | refine k_load_agg (h := ?_)
      | refine k_bin (h := ?_)
      | refine k_move (h := ?_)
      | refine k_assign (h := ?_)
      | refine k_extract (h := ?_)
      | refine k_call (hp := h1) (h := ?_)
      | (refine k_box (h := ?_); intro g)
      | (refine k_alloc (h := ?_); intro g)
      | refine k_store (h := ?_)
      | refine k_field_agg (h := ?_)
      | refine k_field_one (h := ?_)
      | refine k_build (h := ?_)
      | refine k_conv (h := ?_)
      | refine k_not (h := ?_)
      | refine k_eqb (h := ?_)
      | refine k_neb (h := ?_)
      | refine k_eqs (h := ?_)
      | refine k_nes (h := ?_)
      | refine k_pick_t (h := ?_)
      | refine k_pick_f (h := ?_)
      | refine k_nilCheck (h := ?_)
      | refine k_makeFunc (h := ?_)
      | refine k_shl (h := ?_)
      | refine k_shr (h := ?_)
      | refine k_neg (h := ?_)
      | refine k_index_arr (h := ?_)
      | refine k_len_slice (h := ?_)
      | refine k_quo (h := ?_)
      | refine k_rem (h := ?_)
      | (refine k_buildSlice (h := ?_); intro g)
      | refine k_indexAddr_arr (h := ?_)
      | refine c_true (h := ?_)
      | refine c_false (h := ?_)
      | (refine s_ask (by eq_refl) (by eq_refl) (evO_eq (by eq_refl)) (fun hask => ?_) (fun hask => ?_))
      | (refine c_split (by eq_refl) (fun hif => ?_) (fun hif => ?_))
    )
  all_goals refine hQ _ _ (ret2 rfl (by (first | exact v_tmp | exact v_one | exact v_agg)) (by (first | exact v_tmp | exact v_one | exact v_agg)) ?_)
  rfl
end Go.Proofs.Ytedfbamihjnhhaa.Own
