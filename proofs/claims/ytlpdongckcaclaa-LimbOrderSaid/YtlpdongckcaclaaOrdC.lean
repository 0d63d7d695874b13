/- The law LimbOrder: what the code computes. -/
import Derived.Test.YtlpdongckcaclaaOrdB
namespace Go.Proofs.Ytlpdongckcaclaa.Own
open Go Go.RowKit Go.Proofs Go.Proofs.Ytlpdongckcaclaa.Plain
open Go.Proofs.Ytlpdongckcaclaa.Limb (n2 n4)
set_option linter.unusedVariables false
set_option linter.unusedSimpArgs false
/-- times a sum: the parts added word by word -/
theorem order_num (a b c : Two) (one : Two) (hov : ¬ 340282366920938463463374607431768211456 ≤ b.n + c.n)
    (h1 : one.n = if 340282366920938463463374607431768211456 ≤ (Four.of (a.n * b.n)).lo.n + (Four.of (a.n * c.n)).lo.n then 1 else 0) :
    Four.of (a.n * (Two.of (b.n + c.n)).n) = ⟨Two.of ((Two.of ((Four.of (a.n * b.n)).hi.n + (Four.of (a.n * c.n)).hi.n)).n + one.n), Two.of ((Four.of (a.n * b.n)).lo.n + (Four.of (a.n * c.n)).lo.n)⟩ := by
  have la := a.lt
  have lb := b.lt
  have lc := c.lt
  have hab : a.n * b.n < 115792089237316195423570985008687907853269984665640564039457584007913129639936 := Nat.lt_of_le_of_lt (Nat.mul_le_mul (Nat.le_of_lt_succ la) (Nat.le_of_lt_succ lb)) (by decide)
  have hac : a.n * c.n < 115792089237316195423570985008687907853269984665640564039457584007913129639936 := Nat.lt_of_le_of_lt (Nat.mul_le_mul (Nat.le_of_lt_succ la) (Nat.le_of_lt_succ lc)) (by decide)
  have hs : b.n + c.n < 340282366920938463463374607431768211456 := by omega
  have hsum : a.n * (b.n + c.n) < 115792089237316195423570985008687907853269984665640564039457584007913129639936 := Nat.lt_of_le_of_lt (Nat.mul_le_mul (Nat.le_of_lt_succ la) (Nat.le_of_lt_succ hs)) (by decide)
  have e1 := Four.n_eq (Four.of (a.n * b.n))
  have e2 := Four.n_eq (Four.of (a.n * c.n))
  rw [Four.of_n, Nat.mod_eq_of_lt hab] at e1
  rw [Four.of_n, Nat.mod_eq_of_lt hac] at e2
  apply Four.ext_n
  rw [Four.of_n, Two.of_n, Nat.mod_eq_of_lt hs, Nat.mod_eq_of_lt hsum, Four.n_eq, Two.of_n, Two.of_n, Two.of_n, h1, Nat.mul_add]
  rw [Nat.mul_add] at hsum
  have l1 := (Four.of (a.n * b.n)).lo.lt
  have l2 := (Four.of (a.n * c.n)).lo.lt
  generalize (Four.of (a.n * b.n)).lo.n = p0 at *
  generalize (Four.of (a.n * b.n)).hi.n = p1 at *
  generalize (Four.of (a.n * c.n)).lo.n = q0 at *
  generalize (Four.of (a.n * c.n)).hi.n = q1 at *
  generalize a.n * b.n = P at *
  generalize a.n * c.n = Q at *
  clear h1
  by_cases hc : 340282366920938463463374607431768211456 ≤ p0 + q0
  · rw [if_pos hc]; omega
  · rw [if_neg hc]; omega
set_option maxRecDepth 100000 in
set_option maxHeartbeats 8000000 in
theorem law_pure (a b c : Two) : Pure Try.prog 9 #[a.v, b.v, c.v] (.bool true) := by
  have z0 : (⟨0, 0, by decide⟩ : Two).n = 0 := rfl
  have z1 : (⟨0, 1, by decide⟩ : Two).n = 1 := rfl
  have g0 := order_num a b c ⟨0, 0, by decide⟩
  have g1 := order_num a b c ⟨0, 1, by decide⟩
  have k1 := add_pure b c
  have k2 := mul_pure a b
  have k3 := mul_pure b a
  have k4 := mul_pure a c
  rw [Nat.mul_comm b.n] at k3
  have k5 := mul_pure a (Two.of (b.n + c.n))
  have k6 := add_pure (Four.of (a.n * b.n)).lo (Four.of (a.n * c.n)).lo
  have k7 := add_pure (Four.of (a.n * b.n)).hi (Four.of (a.n * c.n)).hi
  have k8 := add_pure (Two.of ((Four.of (a.n * b.n)).hi.n + (Four.of (a.n * c.n)).hi.n)) ⟨0, 0, by decide⟩
  have k9 := add_pure (Two.of ((Four.of (a.n * b.n)).hi.n + (Four.of (a.n * c.n)).hi.n)) ⟨0, 1, by decide⟩
  generalize hov : decide (340282366920938463463374607431768211456 ≤ b.n + c.n) = ov at *
  generalize hcy : decide (340282366920938463463374607431768211456 ≤ (Four.of (a.n * b.n)).lo.n + (Four.of (a.n * c.n)).lo.n) = cy at *
  have g0' : ov = false → cy = false → _ := fun h h' => g0 (by rw [h] at hov; simpa using hov) (by rw [if_neg (by rw [h'] at hcy; simpa using hcy)]; exact z0)
  have g1' : ov = false → cy = true → _ := fun h h' => g1 (by rw [h] at hov; simpa using hov) (by rw [if_pos (by rw [h'] at hcy; simpa using hcy)]; exact z1)
  clear g0 g1 z0 z1 hov hcy
  generalize Two.of ((Two.of ((Four.of (a.n * b.n)).hi.n + (Four.of (a.n * c.n)).hi.n)).n + (⟨0, 0, by decide⟩ : Two).n) = H0 at *
  generalize Two.of ((Two.of ((Four.of (a.n * b.n)).hi.n + (Four.of (a.n * c.n)).hi.n)).n + (⟨0, 1, by decide⟩ : Two).n) = H1 at *
  generalize Two.of ((Four.of (a.n * b.n)).hi.n + (Four.of (a.n * c.n)).hi.n) = UP at *
  generalize Two.of ((Four.of (a.n * b.n)).lo.n + (Four.of (a.n * c.n)).lo.n) = LO at *
  generalize Four.of (a.n * (Two.of (b.n + c.n)).n) = R at *
  generalize Two.of (b.n + c.n) = S at *
  generalize Four.of (a.n * b.n) = M at *
  generalize Four.of (a.n * c.n) = N' at *
  refine pure_q Try.func9 rfl Try.ntmps9 rfl rfl (fun w0 Q hQ => ?_)
  repeat' (
    first
      | refine j_seq_k (fun N hN => ?_)
      | refine j_text ?_
      | refine j_draw (id := 2) [] (by kernel_rfl) (by kernel_rfl) ?_
      | refine j_draw (id := 6) [] (by kernel_rfl) (by kernel_rfl) ?_
      | refine j_block ?_
      | refine j_skip ?_
      | refine j_ret ?_
      | refine j_exit ?_
      | refine s_nil (show X _ _ _ _ _ from ?_)
      | (refine x_next hN ?_; clear hN N)
      | (refine x_then_ret ?_; clear hN N)
      | (refine x_then_exit ?_; clear hN N)
      | refine x_block ?_
      | refine x_block_ret ?_
      | refine x_block_hit ?_
      | refine x_block_miss (by eq_refl) ?_
      | refine k_skip (h := ?_)
      | refine k_skip0 (h := ?_)
      | refine k_fieldAddr (h := ?_)
      | refine k_load_one (h := ?_)
      | refine k_load_agg (h := ?_)
      | refine k_bin (h := ?_)
      | refine k_move (h := ?_)
      | refine k_assign (h := ?_)
      | refine k_extract (h := ?_)
      | refine k_call (hp := k1) (h := ?_)
      | refine k_call (hp := k2) (h := ?_)
      | refine k_call (hp := k3) (h := ?_)
      | refine k_call (hp := k4) (h := ?_)
      | refine k_call (hp := k5) (h := ?_)
      | refine k_call (hp := k6) (h := ?_)
      | refine k_call (hp := k7) (h := ?_)
      | refine k_call (hp := k8) (h := ?_)
      | refine k_call (hp := k9) (h := ?_)
      | refine k_call (hp := awake_pure) (h := ?_)
      | (refine k_box (h := ?_); intro g)
      | (refine k_alloc (h := ?_); intro g)
      | refine k_store (h := ?_)
      | refine k_field_agg (h := ?_)
      | refine k_field_one (h := ?_)
      | refine k_build (h := ?_)
      | refine k_conv (h := ?_)
      | refine k_not (h := ?_)
      | refine k_eqb (h := ?_)
      | refine k_neb (h := ?_)
      | refine k_eqs (h := ?_)
      | refine k_nes (h := ?_)
      | refine k_pick_t (h := ?_)
      | refine k_pick_f (h := ?_)
      | refine k_nilCheck (h := ?_)
      | refine k_makeFunc (h := ?_)
      | refine k_shl (h := ?_)
      | refine k_shr (h := ?_)
      | refine k_neg (h := ?_)
      | refine k_index_arr (h := ?_)
      | refine k_len_slice (h := ?_)
      | refine k_quo (h := ?_)
      | refine k_rem (h := ?_)
      | (refine k_buildSlice (h := ?_); intro g)
      | refine k_indexAddr_arr (h := ?_)
      | refine c_true (h := ?_)
      | refine c_false (h := ?_)
      | (refine s_ask (by eq_refl) (by eq_refl) (evO_eq (by eq_refl)) (fun hask => ?_) (fun hask => ?_))
      | (refine c_split (by eq_refl) (fun hif => ?_) (fun hif => ?_))
    )
  all_goals clear k1 k2 k3 k4 k5 k6 k7 k8 k9
  all_goals refine hQ _ _ (ret1 rfl (by (first | exact v_tmp | exact v_one | exact v_agg)) ?_)
  all_goals clear hQ
  all_goals first | rfl | (exfalso; simp_all; done)
end Go.Proofs.Ytlpdongckcaclaa.Own
