/- The awake part of the laws of wide numbers: what it computes. -/
import Derived.Test.YtlpdongckcaclaaDivX
import Derived.Test.YtlpdongckcaclaaOrdA
namespace Go.Proofs.Ytlpdongckcaclaa.Own
open Go Go.RowKit Go.Proofs Go.Proofs.Ytlpdongckcaclaa.Plain
open Go.Proofs.Ytlpdongckcaclaa.Limb (limb_Mul.f limb_Mul.calls n2 n4 e2 e4 Wd)
set_option linter.unusedVariables false
set_option linter.unusedSimpArgs false
theorem mul_pure (a b : Two) : Pure Try.prog 14 #[a.v, b.v] (Four.of (a.n * b.n)).v := fun w =>
  limb_Mul.calls _ _ _ _ _ _ _ _ w (by unfold limb_Mul.f; rw [if_pos ⟨a.wd.1, a.wd.2, b.wd⟩]; rfl)
theorem mul_c {a b : Two} {v : Value} (h : (Four.of (a.n * b.n)).v = v) : Pure Try.prog 14 #[a.v, b.v] v := h ▸ mul_pure a b
theorem len_c {a : Four} {v : Value} (h : Value.int .i64 (blen a.n : Nat) = v) : Pure Try.prog 28 #[a.v] v := h ▸ len_pure a
theorem div_c {a : Four} {b : Two} {v : Value} (hb : b.n ≠ 0) (h : Value.tuple #[(Four.of (a.n / b.n)).v, (Two.of (a.n % b.n)).v, .bool true] = v) : Pure Try.prog 12 #[a.v, b.v] v := h ▸ div_pure a b hb
theorem mul_8 : Pure Try.prog 14 #[.agg #[.int .u64 0, .int .u64 8], .agg #[.int .u64 0, .int .u64 8]] (.agg #[.int .u64 0, .int .u64 0, .int .u64 0, .int .u64 64]) := mul_c (a := ⟨0, 8, by decide⟩) (b := ⟨0, 8, by decide⟩) (by kernel_rfl)
theorem mul_12 : Pure Try.prog 14 #[.agg #[.int .u64 0, .int .u64 12], .agg #[.int .u64 0, .int .u64 12]] (.agg #[.int .u64 0, .int .u64 0, .int .u64 0, .int .u64 144]) := mul_c (a := ⟨0, 12, by decide⟩) (b := ⟨0, 12, by decide⟩) (by kernel_rfl)
theorem mul_10 : Pure Try.prog 14 #[.agg #[.int .u64 0, .int .u64 10], .agg #[.int .u64 0, .int .u64 10]] (.agg #[.int .u64 0, .int .u64 0, .int .u64 0, .int .u64 100]) := mul_c (a := ⟨0, 10, by decide⟩) (b := ⟨0, 10, by decide⟩) (by kernel_rfl)
theorem mul_9 : Pure Try.prog 14 #[.agg #[.int .u64 0, .int .u64 9], .agg #[.int .u64 0, .int .u64 9]] (.agg #[.int .u64 0, .int .u64 0, .int .u64 0, .int .u64 81]) := mul_c (a := ⟨0, 9, by decide⟩) (b := ⟨0, 9, by decide⟩) (by kernel_rfl)
theorem cmp_99 (x : Int) (hx : 0 ≤ x ∧ x < 18446744073709551616) : Pure Try.prog 22 #[.agg #[.int .u64 0, .int .u64 0, .int .u64 0, .int .u64 x], .agg #[.int .u64 0, .int .u64 0, .int .u64 0, .int .u64 99]] (.int .i64 (cmpI x 99)) := by
  have h := cmp4_pure ⟨⟨0, 0, by decide⟩, ⟨0, x, by omega⟩⟩ ⟨⟨0, 0, by decide⟩, ⟨0, 99, by decide⟩⟩
  have e : orI (cmpI 0 0) (cmpI 0 0) (cmpI 0 0) (cmpI x 99) = cmpI x 99 := by simp [orI, cmpI]
  exact e ▸ h
theorem len_99 : Pure Try.prog 28 #[.agg #[.int .u64 0, .int .u64 0, .int .u64 0, .int .u64 99]] (.int .i64 7) := by
  exact len_c (a := ⟨⟨0, 0, by decide⟩, ⟨0, 99, by decide⟩⟩) (by kernel_rfl)
theorem div_17 : Pure Try.prog 12 #[.agg #[.int .u64 0, .int .u64 0, .int .u64 0, .int .u64 17], .agg #[.int .u64 0, .int .u64 5]] (.tuple #[.agg #[.int .u64 0, .int .u64 0, .int .u64 0, .int .u64 3], .agg #[.int .u64 0, .int .u64 2], .bool true]) :=
  div_c (a := ⟨⟨0, 0, by decide⟩, ⟨0, 17, by decide⟩⟩) (b := ⟨0, 5, by decide⟩) (by decide) (by kernel_rfl)
set_option maxRecDepth 100000 in
set_option maxHeartbeats 4000000 in
theorem sqrt_99 : Pure Try.prog 21 #[.agg #[.int .u64 0, .int .u64 0, .int .u64 0, .int .u64 99]] (.agg #[.int .u64 0, .int .u64 9]) := by
  have c8 : Pure Try.prog 22 #[.agg #[.int .u64 0, .int .u64 0, .int .u64 0, .int .u64 64], .agg #[.int .u64 0, .int .u64 0, .int .u64 0, .int .u64 99]] (.int .i64 (-1)) := cmp_99 64 (by decide)
  have c12 : Pure Try.prog 22 #[.agg #[.int .u64 0, .int .u64 0, .int .u64 0, .int .u64 144], .agg #[.int .u64 0, .int .u64 0, .int .u64 0, .int .u64 99]] (.int .i64 1) := cmp_99 144 (by decide)
  have c10 : Pure Try.prog 22 #[.agg #[.int .u64 0, .int .u64 0, .int .u64 0, .int .u64 100], .agg #[.int .u64 0, .int .u64 0, .int .u64 0, .int .u64 99]] (.int .i64 1) := cmp_99 100 (by decide)
  have c9 : Pure Try.prog 22 #[.agg #[.int .u64 0, .int .u64 0, .int .u64 0, .int .u64 81], .agg #[.int .u64 0, .int .u64 0, .int .u64 0, .int .u64 99]] (.int .i64 (-1)) := cmp_99 81 (by decide)
  refine pure_q Try.func21 rfl Try.ntmps21 rfl rfl (fun w0 Q hQ => ?_)
  repeat (
    first
      | refine j_seq_k (fun N hN => ?_)
      | refine j_text ?_
      | refine j_draw (id := 8) [(998, .eff)] (by kernel_rfl) (by kernel_rfl) ?_
      | refine j_draw (id := 9) [(998, .eff)] (by kernel_rfl) (by kernel_rfl) ?_
      | refine j_draw (id := 10) [] (by kernel_rfl) (by kernel_rfl) ?_
      | refine j_block ?_
      | refine j_skip ?_
      | refine j_ret ?_
      | refine j_exit ?_
      | refine s_nil (show X _ _ _ _ _ from ?_)
      | (refine x_next hN ?_; clear hN N)
      | (refine x_then_ret ?_; clear hN N)
      | (refine x_then_exit ?_; clear hN N)
      | refine x_block ?_
      | refine x_block_ret ?_
      | refine x_block_hit ?_
      | refine x_block_miss (by eq_refl) ?_
      | (refine x_again hN (j_round_k ?_); clear hN N; intro N hN)
      | refine j_head (j_round_k (fun N hN => ?_))
      | refine k_skip (h := ?_)
      | refine k_skip0 (h := ?_)
      | refine k_fieldAddr (h := ?_)
      | refine k_load_one (h := ?_)
      | refine k_load_agg (h := ?_)
      | refine k_bin (hv := (by simp [arith, bits, IntKind.wrap_u64, IntKind.wrap_i64, IntKind.bits]; rfl)) (h := ?_)
      | refine k_move (h := ?_)
      | refine k_assign (h := ?_)
      | refine k_extract (h := ?_)
      | refine k_call (hp := len_99) (h := ?_)
      | refine k_call (hp := mul_8) (h := ?_)
      | refine k_call (hp := mul_12) (h := ?_)
      | refine k_call (hp := mul_10) (h := ?_)
      | refine k_call (hp := mul_9) (h := ?_)
      | refine k_call (hp := c8) (h := ?_)
      | refine k_call (hp := c12) (h := ?_)
      | refine k_call (hp := c10) (h := ?_)
      | refine k_call (hp := c9) (h := ?_)
      | (refine k_box (h := ?_); intro g)
      | (refine k_alloc (h := ?_); intro g)
      | refine k_store (h := ?_)
      | refine k_field_agg (h := ?_)
      | refine k_field_one (h := ?_)
      | refine k_build (h := ?_)
      | refine k_conv (h := ?_)
      | refine k_not (h := ?_)
      | refine k_eqb (h := ?_)
      | refine k_neb (h := ?_)
      | refine k_eqs (h := ?_)
      | refine k_nes (h := ?_)
      | refine k_pick_t (hb := by first | with_reducible assumption | with_reducible eq_refl | decide | fail) (h := ?_)
      | refine k_pick_f (hb := by first | with_reducible assumption | with_reducible eq_refl | decide | fail) (h := ?_)
      | refine k_nilCheck (h := ?_)
      | refine k_makeFunc (h := ?_)
      | refine k_shl (hc := (by simp [IntKind.wrap_u64, IntKind.wrap_i64, IntKind.bits]; rfl)) (h := ?_)
      | refine k_shr (hc := (by simp [IntKind.wrap_u64, IntKind.wrap_i64, IntKind.bits]; rfl)) (h := ?_)
      | refine k_neg (h := ?_)
      | refine k_index_arr (h := ?_)
      | refine k_len_slice (h := ?_)
      | refine k_quo (hc := (by simp [IntKind.wrap_u64, IntKind.wrap_i64, IntKind.bits]; rfl)) (h := ?_)
      | refine k_rem (hc := (by simp [IntKind.wrap_u64, IntKind.wrap_i64, IntKind.bits]; rfl)) (h := ?_)
      | (refine k_buildSlice (h := ?_); intro g)
      | refine k_indexAddr_arr (h := ?_)
      | refine c_true (he := by first | with_reducible assumption | with_reducible eq_refl | decide | fail) (h := ?_)
      | refine c_false (he := by first | with_reducible assumption | with_reducible eq_refl | decide | fail) (h := ?_)
      | (refine s_ask (by eq_refl) (by eq_refl) (evO_eq (by eq_refl)) (fun hask => ?_) (fun hask => ?_))
      | (refine c_split (by eq_refl) (fun hif => ?_) (fun hif => ?_))
    )
  refine hQ _ _ (ret1 rfl (by (first | exact v_tmp | exact v_one | exact v_agg)) ?_)
  rfl
set_option maxRecDepth 100000 in
set_option maxHeartbeats 4000000 in
theorem awake_pure : Pure Try.prog 16 #[] (.bool true) := by
  have q1 : ((0 : Int) == 0 && ((9 : Int) == 9 && true)) = true := by decide
  have q2 : true = true := rfl
  refine pure_q Try.func16 rfl Try.ntmps16 rfl rfl (fun w0 Q hQ => ?_)
  repeat (
    first
      | refine j_seq_k (fun N hN => ?_)
      | refine j_text ?_
      | refine j_block ?_
      | refine j_skip ?_
      | refine j_ret ?_
      | refine j_exit ?_
      | refine s_nil (show X _ _ _ _ _ from ?_)
      | (refine x_next hN ?_; clear hN N)
      | (refine x_then_ret ?_; clear hN N)
      | (refine x_then_exit ?_; clear hN N)
      | refine x_block ?_
      | refine x_block_ret ?_
      | refine x_block_hit ?_
      | refine x_block_miss (by eq_refl) ?_
      | (refine x_again hN (j_round_k ?_); clear hN N; intro N hN)
      | refine j_head (j_round_k (fun N hN => ?_))
      | refine k_skip (h := ?_)
      | refine k_skip0 (h := ?_)
      | refine k_fieldAddr (h := ?_)
      | refine k_load_one (h := ?_)
      | refine k_load_agg (h := ?_)
      | refine k_bin (hv := (by simp [arith, bits, IntKind.wrap_u64, IntKind.wrap_i64, IntKind.bits]; rfl)) (h := ?_)
      | refine k_move (h := ?_)
      | refine k_assign (h := ?_)
      | refine k_extract (h := ?_)
      | refine k_call (hp := div_17) (h := ?_)
      | refine k_call (hp := sqrt_99) (h := ?_)
      | (refine k_box (h := ?_); intro g)
      | (refine k_alloc (h := ?_); intro g)
      | refine k_store (h := ?_)
      | refine k_field_agg (h := ?_)
      | refine k_field_one (h := ?_)
      | refine k_build (h := ?_)
      | refine k_conv (h := ?_)
      | refine k_not (h := ?_)
      | refine k_eqb (h := ?_)
      | refine k_neb (h := ?_)
      | refine k_eqs (h := ?_)
      | refine k_nes (h := ?_)
      | refine k_pick_t (hb := by first | with_reducible assumption | with_reducible eq_refl | decide | fail) (h := ?_)
      | refine k_pick_f (hb := by first | with_reducible assumption | with_reducible eq_refl | decide | fail) (h := ?_)
      | refine k_nilCheck (h := ?_)
      | refine k_makeFunc (h := ?_)
      | refine k_shl (hc := (by simp [IntKind.wrap_u64, IntKind.wrap_i64, IntKind.bits]; rfl)) (h := ?_)
      | refine k_shr (hc := (by simp [IntKind.wrap_u64, IntKind.wrap_i64, IntKind.bits]; rfl)) (h := ?_)
      | refine k_neg (h := ?_)
      | refine k_index_arr (h := ?_)
      | refine k_len_slice (h := ?_)
      | refine k_quo (hc := (by simp [IntKind.wrap_u64, IntKind.wrap_i64, IntKind.bits]; rfl)) (h := ?_)
      | refine k_rem (hc := (by simp [IntKind.wrap_u64, IntKind.wrap_i64, IntKind.bits]; rfl)) (h := ?_)
      | (refine k_buildSlice (h := ?_); intro g)
      | refine k_indexAddr_arr (h := ?_)
      | refine c_true (he := by first | with_reducible assumption | with_reducible eq_refl | decide | fail) (h := ?_)
      | refine c_false (he := by first | with_reducible assumption | with_reducible eq_refl | decide | fail) (h := ?_)
      | (refine s_ask (by eq_refl) (by eq_refl) (evO_eq (by eq_refl)) (fun hask => ?_) (fun hask => ?_))
      | (refine c_split (by eq_refl) (fun hif => ?_) (fun hif => ?_))
    )
  refine hQ _ _ (ret1 rfl (by (first | exact v_tmp | exact v_one | exact v_agg)) ?_)
  rfl
end Go.Proofs.Ytlpdongckcaclaa.Own
