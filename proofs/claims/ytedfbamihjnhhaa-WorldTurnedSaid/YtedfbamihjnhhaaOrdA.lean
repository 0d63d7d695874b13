/- Which of two is the larger: what the code computes. -/
import Derived.Test.YtedfbamihjnhhaaFvX
namespace Go.Proofs.Ytedfbamihjnhhaa.Own
open Go Go.RowKit Go.Proofs Go.Proofs.Ytedfbamihjnhhaa.Plain
set_option linter.unusedVariables false
set_option linter.unusedSimpArgs false
def cmpI (x y : Int) : Int := if x < y then -1 else if x > y then 1 else 0
def orI (a b c d : Int) : Int := if a ≠ 0 then a else if b ≠ 0 then b else if c ≠ 0 then c else d
set_option maxRecDepth 100000 in
set_option maxHeartbeats 4000000 in
theorem isnan_pure (x : Int) : Pure Try.prog 127 #[.int .u64 x] (.bool false) := by
  have e1 : arith .neq .u64 x x = some (.bool false) := by simp [arith]
  refine pure_q Try.func127 rfl Try.ntmps127 rfl rfl (fun w0 Q hQ => ?_)
  repeat (
    first
      | refine j_seq_k (fun N hN => ?_)
      | refine j_text ?_
      | refine j_block ?_
      | refine j_skip ?_
      | refine j_ret ?_
      | refine j_exit ?_
      | refine s_nil (show X _ _ _ _ _ from ?_)
      | (refine x_next hN ?_; clear hN N)
      | (refine x_then_ret ?_; clear hN N)
      | (refine x_then_exit ?_; clear hN N)
      | refine x_block ?_
      | refine x_block_ret ?_
      | refine x_block_hit ?_
      | refine x_block_miss (by eq_refl) ?_
      | refine k_skip (h := ?_)
      | refine k_skip0 (h := ?_)
      | refine k_fieldAddr (h := ?_)
      | refine k_load_one (h := ?_)
      | refine k_load_agg (h := ?_)
      | refine k_bin (h := ?_)
      | refine k_move (h := ?_)
      | refine k_assign (h := ?_)
      | refine k_extract (h := ?_)
      | (refine k_box (h := ?_); intro g)
      | (refine k_alloc (h := ?_); intro g)
      | refine k_store (h := ?_)
      | refine k_field_agg (h := ?_)
      | refine k_field_one (h := ?_)
      | refine k_build (h := ?_)
      | refine k_conv (h := ?_)
      | refine k_not (h := ?_)
      | refine k_eqb (h := ?_)
      | refine k_neb (h := ?_)
      | refine k_eqs (h := ?_)
      | refine k_nes (h := ?_)
      | refine k_pick_t (h := ?_)
      | refine k_pick_f (h := ?_)
      | refine k_nilCheck (h := ?_)
      | refine k_makeFunc (h := ?_)
      | refine k_shl (h := ?_)
      | refine k_shr (h := ?_)
      | refine k_neg (h := ?_)
      | refine k_index_arr (h := ?_)
      | refine k_len_slice (h := ?_)
      | refine k_quo (h := ?_)
      | refine k_rem (h := ?_)
      | (refine k_buildSlice (h := ?_); intro g)
      | refine k_indexAddr_arr (h := ?_)
      | refine c_true (h := ?_)
      | refine c_false (h := ?_)
      | (refine s_ask (by eq_refl) (by eq_refl) (evO_eq (by eq_refl)) (fun hask => ?_) (fun hask => ?_))
      | (refine c_split (by eq_refl) (fun hif => ?_) (fun hif => ?_))
    )
  refine hQ _ _ (ret1 rfl (by (first | exact v_tmp | exact v_one | exact v_agg)) ?_)
  rfl
set_option maxRecDepth 100000 in
set_option maxHeartbeats 4000000 in
theorem compare_pure (x y : Int) : Pure Try.prog 103 #[.int .u64 x, .int .u64 y] (.int .i64 (cmpI x y)) := by
  have n1 := isnan_pure x
  have n2 := isnan_pure y
  obtain ⟨b1, h1⟩ : ∃ b, decide (x < y) = b := ⟨_, rfl⟩
  obtain ⟨b2, h2⟩ : ∃ b, decide (x > y) = b := ⟨_, rfl⟩
  have e1 : arith .lss .u64 x y = some (.bool b1) := by simp only [arith, h1]
  have e2 : arith .gtr .u64 x y = some (.bool b2) := by simp only [arith, h2]
  refine pure_q Try.func103 rfl Try.ntmps103 rfl rfl (fun w0 Q hQ => ?_)
  repeat' (
    first
      | refine j_seq_k (fun N hN => ?_)
      | refine j_text ?_
      | refine j_block ?_
      | refine j_skip ?_
      | refine j_ret ?_
      | refine j_exit ?_
      | refine s_nil (show X _ _ _ _ _ from ?_)
      | (refine x_next hN ?_; clear hN N)
      | (refine x_then_ret ?_; clear hN N)
      | (refine x_then_exit ?_; clear hN N)
      | refine x_block ?_
      | refine x_block_ret ?_
      | refine x_block_hit ?_
      | refine x_block_miss (by eq_refl) ?_
      | refine k_skip (h := ?_)
      | refine k_skip0 (h := ?_)
      | refine k_fieldAddr (h := ?_)
      | refine k_load_one (h := ?_)
      | refine k_load_agg (h := ?_)
      | refine k_bin (h := ?_)
      | refine k_move (h := ?_)
      | refine k_assign (h := ?_)
      | refine k_extract (h := ?_)
      | refine k_call (hp := n1) (h := ?_)
      | refine k_call (hp := n2) (h := ?_)
      | (refine k_box (h := ?_); intro g)
      | (refine k_alloc (h := ?_); intro g)
      | refine k_store (h := ?_)
      | refine k_field_agg (h := ?_)
      | refine k_field_one (h := ?_)
      | refine k_build (h := ?_)
      | refine k_conv (h := ?_)
      | refine k_not (h := ?_)
      | refine k_eqb (h := ?_)
      | refine k_neb (h := ?_)
      | refine k_eqs (h := ?_)
      | refine k_nes (h := ?_)
      | refine k_pick_t (h := ?_)
      | refine k_pick_f (h := ?_)
      | refine k_nilCheck (h := ?_)
      | refine k_makeFunc (h := ?_)
      | refine k_shl (h := ?_)
      | refine k_shr (h := ?_)
      | refine k_neg (h := ?_)
      | refine k_index_arr (h := ?_)
      | refine k_len_slice (h := ?_)
      | refine k_quo (h := ?_)
      | refine k_rem (h := ?_)
      | (refine k_buildSlice (h := ?_); intro g)
      | refine k_indexAddr_arr (h := ?_)
      | refine c_true (h := ?_)
      | refine c_false (h := ?_)
      | (refine s_ask (by eq_refl) (by eq_refl) (evO_eq (by eq_refl)) (fun hask => ?_) (fun hask => ?_))
      | (refine c_split (by eq_refl) (fun hif => ?_) (fun hif => ?_))
    )
  all_goals refine hQ _ _ (ret1 rfl (by (first | exact v_tmp | exact v_one | exact v_agg)) ?_)
  all_goals (clear hQ; simp only [cmpI, Value.int.injEq, true_and]; (repeat' split) <;> simp_all <;> omega)
set_option maxRecDepth 100000 in
set_option maxHeartbeats 4000000 in
theorem or_calls (w0 : World) (g : Nat) (a b c d : Int) (hr : OldRow w0 g 0 [.int .i64 a, .int .i64 b, .int .i64 c, .int .i64 d]) :
    Calls Try.prog 101 #[.slice (some ⟨g, 0, none⟩) 4 4] w0 fun e w' => e = .returned (.int .i64 (orI a b c d)) ∧ Below w0.heap.size w0 w' := by
  
  refine calls_q Try.func101 rfl Try.ntmps101 rfl rfl (fun Q hQ => ?_)
  repeat' (
    first
      | refine k_load_row1 (hr := hr) (ho2 := by simp) (hv := by simp; rfl) (hin := Or.inr (by (repeat (first | apply Incl.refl | apply Incl.cons)); first | done | fail)) (h := ?_)
      | refine k_indexAddr (hb := by decide) (h := ?_)
      | refine j_seq_k (fun N hN => ?_)
      | refine j_text ?_
      | refine j_block ?_
      | refine j_skip ?_
      | refine j_ret ?_
      | refine j_exit ?_
      | refine s_nil (show X _ _ _ _ _ from ?_)
      | (refine x_next hN ?_; clear hN N)
      | (refine x_then_ret ?_; clear hN N)
      | (refine x_then_exit ?_; clear hN N)
      | refine x_block ?_
      | refine x_block_ret ?_
      | refine x_block_hit ?_
      | refine x_block_miss (by eq_refl) ?_
      | (refine x_again hN (j_round_k ?_); clear hN N; intro N hN)
      | refine j_head (j_round_k (fun N hN => ?_))
      | refine k_skip (h := ?_)
      | refine k_skip0 (h := ?_)
      | refine k_fieldAddr (h := ?_)
      | refine k_load_one (h := ?_)
      | refine k_load_agg (h := ?_)
      | refine k_bin (hv := (by simp [arith, bits, IntKind.wrap_u64, IntKind.wrap_i64, IntKind.bits]; rfl)) (h := ?_)
      | refine k_move (h := ?_)
      | refine k_assign (h := ?_)
      | refine k_extract (h := ?_)
      | (refine k_box (h := ?_); intro g)
      | (refine k_alloc (h := ?_); intro g)
      | refine k_store (h := ?_)
      | refine k_field_agg (h := ?_)
      | refine k_field_one (h := ?_)
      | refine k_build (h := ?_)
      | refine k_conv (h := ?_)
      | refine k_not (h := ?_)
      | refine k_eqb (h := ?_)
      | refine k_neb (h := ?_)
      | refine k_eqs (h := ?_)
      | refine k_nes (h := ?_)
      | refine k_pick_t (hb := by first | with_reducible assumption | with_reducible eq_refl | decide | fail) (h := ?_)
      | refine k_pick_f (hb := by first | with_reducible assumption | with_reducible eq_refl | decide | fail) (h := ?_)
      | refine k_nilCheck (h := ?_)
      | refine k_makeFunc (h := ?_)
      | refine k_shl (hc := (by simp [IntKind.wrap_u64, IntKind.wrap_i64, IntKind.bits]; rfl)) (h := ?_)
      | refine k_shr (hc := (by simp [IntKind.wrap_u64, IntKind.wrap_i64, IntKind.bits]; rfl)) (h := ?_)
      | refine k_neg (h := ?_)
      | refine k_index_arr (h := ?_)
      | refine k_len_slice (h := ?_)
      | refine k_quo (hc := (by simp [IntKind.wrap_u64, IntKind.wrap_i64, IntKind.bits]; rfl)) (h := ?_)
      | refine k_rem (hc := (by simp [IntKind.wrap_u64, IntKind.wrap_i64, IntKind.bits]; rfl)) (h := ?_)
      | (refine k_buildSlice (h := ?_); intro g)
      | refine k_indexAddr_arr (h := ?_)
      | refine c_true (he := by first | with_reducible assumption | with_reducible eq_refl | decide | fail) (h := ?_)
      | refine c_false (he := by first | with_reducible assumption | with_reducible eq_refl | decide | fail) (h := ?_)
      | (refine s_ask (by eq_refl) (by eq_refl) (evO_eq (by eq_refl)) (fun hask => ?_) (fun hask => ?_))
      | (refine c_split (by eq_refl) (fun hif => ?_) (fun hif => ?_))
    )
  all_goals refine hQ _ _ (ret1 rfl (by (first | exact v_tmp | exact v_one | exact v_agg)) ?_)
  all_goals (clear hQ; simp only [orI, Value.int.injEq, true_and]; simp_all)
theorem own_row {w0 w : World} {L : List Blk} {g : Nat} {cs : List Value} {T : TypeId} (hw : Own w0 L w) (hm : HasB L g cs T) : OldRow w g 0 cs := by
  have hb := hw.block hm
  refine ⟨(Array.getElem?_eq_some_iff.1 hb).1, fun j v hj => ?_⟩
  simp [World.cell?, hb, hj]
set_option maxRecDepth 100000 in
set_option maxHeartbeats 4000000 in
theorem cmp4_pure (a b : Four) : Pure Try.prog 144 #[a.v, b.v] (.int .i64 (orI (cmpI a.hi.hi b.hi.hi) (cmpI a.hi.lo b.hi.lo) (cmpI a.lo.hi b.lo.hi) (cmpI a.lo.lo b.lo.lo))) := by
  have c1 := compare_pure a.hi.hi b.hi.hi
  have c2 := compare_pure a.hi.lo b.hi.lo
  have c3 := compare_pure a.lo.hi b.lo.hi
  have c4 := compare_pure a.lo.lo b.lo.lo
  refine pure_q Try.func144 rfl Try.ntmps144 rfl rfl (fun w0 Q hQ => ?_)
  repeat (
    first
      | refine j_draw (id := 1) [(1101, .quiet)] (by kernel_rfl) (by kernel_rfl) ?_
      | refine k_callw (hp := fun w hw => or_calls w _ _ _ _ _ (own_row hw (by (repeat (first | apply HasB.here | apply HasB.next)); first | done | fail))) (h := ?_)
      | refine j_seq_k (fun N hN => ?_)
      | refine j_text ?_
      | refine j_block ?_
      | refine j_skip ?_
      | refine j_ret ?_
      | refine j_exit ?_
      | refine s_nil (show X _ _ _ _ _ from ?_)
      | (refine x_next hN ?_; clear hN N)
      | (refine x_then_ret ?_; clear hN N)
      | (refine x_then_exit ?_; clear hN N)
      | refine x_block ?_
      | refine x_block_ret ?_
      | refine x_block_hit ?_
      | refine x_block_miss (by eq_refl) ?_
      | refine k_skip (h := ?_)
      | refine k_skip0 (h := ?_)
      | refine k_fieldAddr (h := ?_)
      | refine k_load_one (h := ?_)
      | refine k_load_agg (h := ?_)
      | refine k_bin (h := ?_)
      | refine k_move (h := ?_)
      | refine k_assign (h := ?_)
      | refine k_extract (h := ?_)
      | refine k_call (hp := c1) (h := ?_)
      | refine k_call (hp := c2) (h := ?_)
      | refine k_call (hp := c3) (h := ?_)
      | refine k_call (hp := c4) (h := ?_)
      | (refine k_box (h := ?_); intro g)
      | (refine k_alloc (h := ?_); intro g)
      | refine k_store (h := ?_)
      | refine k_field_agg (h := ?_)
      | refine k_field_one (h := ?_)
      | refine k_build (h := ?_)
      | refine k_conv (h := ?_)
      | refine k_not (h := ?_)
      | refine k_eqb (h := ?_)
      | refine k_neb (h := ?_)
      | refine k_eqs (h := ?_)
      | refine k_nes (h := ?_)
      | refine k_pick_t (h := ?_)
      | refine k_pick_f (h := ?_)
      | refine k_nilCheck (h := ?_)
      | refine k_makeFunc (h := ?_)
      | refine k_shl (h := ?_)
      | refine k_shr (h := ?_)
      | refine k_neg (h := ?_)
      | refine k_index_arr (h := ?_)
      | refine k_len_slice (h := ?_)
      | refine k_quo (h := ?_)
      | refine k_rem (h := ?_)
      | (refine k_buildSlice (h := ?_); intro g)
      | refine k_indexAddr_arr (h := ?_)
      | refine c_true (h := ?_)
      | refine c_false (h := ?_)
      | (refine s_ask (by eq_refl) (by eq_refl) (evO_eq (by eq_refl)) (fun hask => ?_) (fun hask => ?_))
      | (refine c_split (by eq_refl) (fun hif => ?_) (fun hif => ?_))
    )
  refine hQ _ _ (ret1 rfl (by (first | exact v_tmp | exact v_one | exact v_agg)) ?_)
  rfl
end Go.Proofs.Ytedfbamihjnhhaa.Own
