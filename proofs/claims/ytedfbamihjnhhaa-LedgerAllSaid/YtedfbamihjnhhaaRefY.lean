/- The document's sums: what the code computes. -/
import Derived.Test.YtedfbamihjnhhaaRefX
import Derived.Test.YtedfbamihjnhhaaVecX
namespace Go.Proofs.Ytedfbamihjnhhaa.Own
open Go Go.RowKit Go.Proofs Go.Proofs.Ytedfbamihjnhhaa.Plain
set_option linter.unusedVariables false
set_option linter.unusedSimpArgs false
set_option maxRecDepth 100000
set_option maxHeartbeats 8000000 in
theorem radd_pure (a b : Fx) : Pure Try.prog 19 #[a.v, b.v] (.agg #[.int .i64 (radd a b).1.hi, .int .u64 (radd a b).1.lo, .int .i64 (radd a b).2]) := by
  have h1 := mag_pure a
  have h2 := mag_pure b
  have h3 := addtwo_pure a.mag b.mag
  have h4 := less_pure a.mag b.mag
  have h5 := subtwo_pure a.mag b.mag
  have h6 := subtwo_pure b.mag a.mag
  have s1 := signed_pure a.below ⟨⟨0, 0, by decide⟩, Two.of (a.mag.n + b.mag.n)⟩
  have s2 := signed_pure b.below ⟨⟨0, 0, by decide⟩, Two.of (b.mag.n + 340282366920938463463374607431768211456 - a.mag.n)⟩
  have s3 := signed_pure a.below ⟨⟨0, 0, by decide⟩, Two.of (a.mag.n + 340282366920938463463374607431768211456 - b.mag.n)⟩
  have hr : radd a b = if a.below = b.below then told ⟨⟨0, 0, by decide⟩, Two.of (a.mag.n + b.mag.n)⟩ a.below else if a.mag.n < b.mag.n then told ⟨⟨0, 0, by decide⟩, Two.of (b.mag.n + 340282366920938463463374607431768211456 - a.mag.n)⟩ b.below else told ⟨⟨0, 0, by decide⟩, Two.of (a.mag.n + 340282366920938463463374607431768211456 - b.mag.n)⟩ a.below := rfl
  generalize radd a b = r at *
  generalize told ⟨⟨0, 0, by decide⟩, Two.of (a.mag.n + b.mag.n)⟩ a.below = t1 at *
  generalize told ⟨⟨0, 0, by decide⟩, Two.of (b.mag.n + 340282366920938463463374607431768211456 - a.mag.n)⟩ b.below = t2 at *
  generalize told ⟨⟨0, 0, by decide⟩, Two.of (a.mag.n + 340282366920938463463374607431768211456 - b.mag.n)⟩ a.below = t3 at *
  generalize Two.of (a.mag.n + b.mag.n) = S at *
  generalize Two.of (b.mag.n + 340282366920938463463374607431768211456 - a.mag.n) = D1 at *
  generalize Two.of (a.mag.n + 340282366920938463463374607431768211456 - b.mag.n) = D2 at *
  obtain ⟨sa, hsa⟩ : ∃ x, a.below = x := ⟨_, rfl⟩
  obtain ⟨sb, hsb⟩ : ∃ x, b.below = x := ⟨_, rfl⟩
  obtain ⟨ls, hls⟩ : ∃ x, decide (a.mag.n < b.mag.n) = x := ⟨_, rfl⟩
  have e1 : arith .lss .i64 a.hi 0 = some (.bool sa) := by rw [← hsa]; rfl
  have e2 : arith .lss .i64 b.hi 0 = some (.bool sb) := by rw [← hsb]; rfl
  rw [hsa] at s1 s3
  rw [hsb] at s2
  rw [hls] at h4
  rw [hsa, hsb] at hr
  refine pure_q Try.func19 rfl Try.ntmps19 rfl rfl (fun w0 Q hQ => ?_)
  repeat' (
    first
      | refine j_seq_k (fun N hN => ?_)
      | refine j_text ?_
      | refine j_draw (id := 1) [] (by kernel_rfl) (by kernel_rfl) ?_
      | refine j_draw (id := 3) [(998, .eff)] (by kernel_rfl) (by kernel_rfl) ?_
      | refine j_draw (id := 5) [(998, .eff)] (by kernel_rfl) (by kernel_rfl) ?_
      | refine j_draw (id := 6) [(998, .eff)] (by kernel_rfl) (by kernel_rfl) ?_
      | refine j_block ?_
      | refine j_skip ?_
      | refine j_ret ?_
      | refine j_exit ?_
      | refine s_nil (show X _ _ _ _ _ from ?_)
      | (refine x_next hN ?_; clear hN N)
      | (refine x_then_ret ?_; clear hN N)
      | (refine x_then_exit ?_; clear hN N)
      | refine x_block ?_
      | refine x_block_ret ?_
      | refine x_block_hit ?_
      | refine x_block_miss (by eq_refl) ?_
      | refine k_skip (h := ?_)
      | refine k_skip0 (h := ?_)
      | refine k_fieldAddr (h := ?_)
      | refine k_load_one (h := ?_)
      | refine k_load_agg (h := ?_)
      | refine k_bin (h := ?_)
      | refine k_move (h := ?_)
      | refine k_assign (h := ?_)
      | refine k_extract (h := ?_)
      | refine k_call (hp := h1) (h := ?_)
      | refine k_call (hp := h2) (h := ?_)
      | refine k_call (hp := h3) (h := ?_)
      | refine k_call (hp := h4) (h := ?_)
      | refine k_call (hp := h5) (h := ?_)
      | refine k_call (hp := h6) (h := ?_)
      | refine k_call (hp := s1) (h := ?_)
      | refine k_call (hp := s2) (h := ?_)
      | refine k_call (hp := s3) (h := ?_)
      | (refine k_box (h := ?_); intro g)
      | (refine k_alloc (h := ?_); intro g)
      | refine k_store (h := ?_)
      | refine k_field_agg (h := ?_)
      | refine k_field_one (h := ?_)
      | refine k_build (h := ?_)
      | refine k_conv (h := ?_)
      | refine k_not (h := ?_)
      | refine k_eqb (h := ?_)
      | refine k_neb (h := ?_)
      | refine k_eqs (h := ?_)
      | refine k_nes (h := ?_)
      | refine k_pick_t (h := ?_)
      | refine k_pick_f (h := ?_)
      | refine k_nilCheck (h := ?_)
      | refine k_makeFunc (h := ?_)
      | refine k_shl (h := ?_)
      | refine k_shr (h := ?_)
      | refine k_neg (h := ?_)
      | refine k_index_arr (h := ?_)
      | refine k_len_slice (h := ?_)
      | refine k_quo (h := ?_)
      | refine k_rem (h := ?_)
      | (refine k_buildSlice (h := ?_); intro g)
      | refine k_indexAddr_arr (h := ?_)
      | refine c_true (h := ?_)
      | refine c_false (h := ?_)
      | (refine s_ask (by eq_refl) (by eq_refl) (evO_eq (by eq_refl)) (fun hask => ?_) (fun hask => ?_))
      | (refine c_split (by eq_refl) (fun hif => ?_) (fun hif => ?_))
    )
  all_goals clear h1 h2 h3 h4 h5 h6 s1 s2 s3
  all_goals refine hQ _ _ (ret1 rfl (by (first | exact v_tmp | exact v_one | exact v_agg)) ?_)
  all_goals clear hQ
  · rw [if_pos (beq_iff_eq.1 hif)] at hr; rw [hr]
  · have q : ¬ sa = sb := by have q : (sa == sb) = false := (by assumption); intro h; rw [h] at q; simp at q
    rw [if_neg q, if_pos (of_decide_eq_true (hls.trans hif))] at hr; rw [hr]
  · have q : ¬ sa = sb := by have q : (sa == sb) = false := (by assumption); intro h; rw [h] at q; simp at q
    rw [if_neg q, if_neg (of_decide_eq_false (hls.trans hif))] at hr; rw [hr]
/-- the two sums are one where both numbers may be -/
theorem radd_eq (a b : Fx) (ha : a.n ≠ -170141183460469231731687303715884105728) (hb : b.n ≠ -170141183460469231731687303715884105728) : radd a b = fadd a b := by
  unfold radd fadd
  by_cases h : a.below = b.below
  · rw [if_pos h, if_pos h]
  · rw [if_neg h, if_neg h]
    have hs := sub_signs a b h
    have z0 : (⟨0, 0, by decide⟩ : Two).n = 0 := by kernel_rfl
    have la := a.lt
    have lb := b.lt
    have ma := a.mag_n
    have mb := b.mag_n
    by_cases q : a.mag.n < b.mag.n
    · rw [if_pos q, ← hs.1 q]
      unfold told
      rw [if_neg (by rw [Four.n_low z0, Two.of_n]; omega)]
    · rw [if_neg q, ← hs.2 q]
      unfold told
      rw [if_neg (by rw [Four.n_low z0, Two.of_n]; omega)]
end Go.Proofs.Ytedfbamihjnhhaa.Own
