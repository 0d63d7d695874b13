/- Numbers as text: the law HexaAll, as the code goes. -/
import Derived.Test.YtmgfabfmnachoaaDoorHxI
namespace Go.Proofs.YtmgfabfmnachoaaDoor.Own
open Go Go.RowKit Go.Proofs Go.Proofs.YtmgfabfmnachoaaDoor.Plain Go.Proofs.YtmgfabfmnachoaaDoor.Hx
set_option linter.unusedVariables false
set_option linter.unusedSimpArgs false
set_option maxRecDepth 100000
set_option maxHeartbeats 4000000
def mone : Fx := ⟨-1, 0, by decide⟩
def tone : List UInt8 := [45, 49, 46, 48, 48, 48, 48, 48, 48, 48, 48, 48, 48, 48, 48, 48, 48, 48, 48]
theorem mone_n : mone.n = -18446744073709551616 := by decide
theorem mone_may : mayF mone = true := by rw [mayF_iff, mone_n]; decide
theorem tone_eq : textF mone = tone := by
  rw [textF_may _ mone_may, mone_n]
  show txt true 1 0 = tone
  unfold txt
  rw [hexS_eq 1]
  decide
theorem awake_pure : Pure Tryd.prog 7 #[] (.bool true) := by
  have hp := fparse_pure tone (by decide)
  have ht := text_pure mone
  have hq := parse_text mone mone_may
  rw [tone_eq] at ht hq
  rw [hq.1, hq.2] at hp
  have e1 : decide (tone = tone) = true := decide_eq_true rfl
  clear hq
  have tt : true = true := rfl; have ff : false = false := rfl; have nt : (!true) = false := rfl; have nf : (!false) = true := rfl
  refine pure_q Tryd.func7 rfl Tryd.ntmps7 rfl rfl (fun w0 Q hQ => ?_)
  repeat' (
    first
      | refine k_str_eq (a := tone) (b := tone) (he := e1) (h := ?_)
      | refine j_seq_k (fun N hN => ?_)
      | refine j_text ?_
      | refine j_block ?_
      | refine j_skip ?_
      | refine j_ret ?_
      | refine j_exit ?_
      | refine s_nil (show X _ _ _ _ _ from ?_)
      | (refine x_next hN ?_; clear hN N)
      | (refine x_then_ret ?_; clear hN N)
      | (refine x_then_exit ?_; clear hN N)
      | refine x_block ?_
      | refine x_block_ret ?_
      | refine x_block_hit ?_
      | refine x_block_miss (by eq_refl) ?_
      | refine k_skip (h := ?_)
      | refine k_skip0 (h := ?_)
      | refine k_fieldAddr (h := ?_)
      | refine k_load_one (h := ?_)
      | refine k_load_agg (h := ?_)
      | refine k_bin (h := ?_)
      | refine k_move (h := ?_)
      | refine k_assign (h := ?_)
      | refine k_extract (h := ?_)
      | refine k_call (hp := hp) (h := ?_)
      | refine k_call (hp := ht) (h := ?_)
      | (refine k_box (h := ?_); intro g)
      | (refine k_alloc (h := ?_); intro g)
      | refine k_store (h := ?_)
      | refine k_field_agg (h := ?_)
      | refine k_field_one (h := ?_)
      | refine k_build (h := ?_)
      | refine k_conv (h := ?_)
      | refine k_not (h := ?_)
      | refine k_eqb (h := ?_)
      | refine k_neb (h := ?_)
      | refine k_eqs (h := ?_)
      | refine k_nes (h := ?_)
      | refine k_pick_t (h := ?_)
      | refine k_pick_f (h := ?_)
      | refine k_nilCheck (h := ?_)
      | refine k_makeFunc (h := ?_)
      | refine k_shl (h := ?_)
      | refine k_shr (h := ?_)
      | refine k_neg (h := ?_)
      | refine k_index_arr (h := ?_)
      | refine k_len_slice (h := ?_)
      | refine k_quo (h := ?_)
      | refine k_rem (h := ?_)
      | (refine k_buildSlice (h := ?_); intro g)
      | refine k_indexAddr_arr (h := ?_)
      | refine c_true (h := ?_)
      | refine c_false (h := ?_)
      | refine k_len_str (h := ?_)
      | refine k_str_add (h := ?_)
      | refine k_str_eq (h := ?_)
      | refine k_str_ne (h := ?_)
      | refine k_index_str (h := ?_)
      | refine k_slice_hi (h := ?_)
      | refine k_slice_lo (h := ?_)
      | refine k_slice_lh (h := ?_)
      | refine k_slice_all (h := ?_)
      | refine k_max (h := ?_)
      | (refine s_ask (by eq_refl) (by eq_refl) (evO_eq (by eq_refl)) (fun hask => ?_) (fun hask => ?_))
      | (refine c_split (by eq_refl) (fun hif => ?_) (fun hif => ?_))
    )
  all_goals refine hQ _ _ (ret1 rfl (by (first | exact v_tmp | exact v_one | exact v_agg)) ?_)
  all_goals rfl
theorem hexaAll_pure (a : Fx) (s : List UInt8) : Pure Tryd.prog 3 #[a.v, .string (B s)] (.bool true) := by
  have hw := awake_pure
  by_cases h : s.length ≤ 200
  · have e1 : arith .gtr .i64 (s.length : Int) 200 = some (.bool false) := by simp only [arith, Option.some.injEq, Value.bool.injEq, decide_eq_false_iff_not]; omega
    have hp := fparse_pure s (by omega)
    have hr := rparse_pure s
    obtain ⟨o1, o2⟩ := ok_says s
    rw [o2, o1] at hr
    have t1 := text_pure a
    have t2 := rtext_pure a
    generalize parseF s = c at *
    generalize saysF s (candF s) = b at *
    clear o1 o2
    have e2 : decide (textF a = textF a) = true := decide_eq_true rfl
    generalize textF a = T at *
    have e3 : ((c.hi == c.hi) && ((c.lo == c.lo) && true)) = true := by simp
    have e4 : (b == b) = true := by simp
    have tt : true = true := rfl; have ff : false = false := rfl; have nt : (!true) = false := rfl; have nf : (!false) = true := rfl
    refine pure_q Tryd.func3 rfl Tryd.ntmps3 rfl rfl (fun w0 Q hQ => ?_)
    repeat' (
      first
        | refine j_seq_k (fun N hN => ?_)
        | refine j_text ?_
        | refine j_draw (id := 5) [] (by kernel_rfl) (by kernel_rfl) ?_
        | refine j_block ?_
        | refine j_skip ?_
        | refine j_ret ?_
        | refine j_exit ?_
        | refine s_nil (show X _ _ _ _ _ from ?_)
        | (refine x_next hN ?_; clear hN N)
        | (refine x_then_ret ?_; clear hN N)
        | (refine x_then_exit ?_; clear hN N)
        | refine x_block ?_
        | refine x_block_ret ?_
        | refine x_block_hit ?_
        | refine x_block_miss (by eq_refl) ?_
        | refine k_skip (h := ?_)
        | refine k_skip0 (h := ?_)
        | refine k_fieldAddr (h := ?_)
        | refine k_load_one (h := ?_)
        | refine k_load_agg (h := ?_)
        | refine k_bin (h := ?_)
        | refine k_move (h := ?_)
        | refine k_assign (h := ?_)
        | refine k_extract (h := ?_)
        | refine k_call (hp := hw) (h := ?_)
        | refine k_call (hp := hp) (h := ?_)
        | refine k_call (hp := hr) (h := ?_)
        | refine k_call (hp := t1) (h := ?_)
        | refine k_call (hp := t2) (h := ?_)
        | (refine k_box (h := ?_); intro g)
        | (refine k_alloc (h := ?_); intro g)
        | refine k_store (h := ?_)
        | refine k_field_agg (h := ?_)
        | refine k_field_one (h := ?_)
        | refine k_build (h := ?_)
        | refine k_conv (h := ?_)
        | refine k_not (h := ?_)
        | refine k_eqb (h := ?_)
        | refine k_neb (h := ?_)
        | refine k_eqs (h := ?_)
        | refine k_nes (h := ?_)
        | refine k_pick_t (h := ?_)
        | refine k_pick_f (h := ?_)
        | refine k_nilCheck (h := ?_)
        | refine k_makeFunc (h := ?_)
        | refine k_shl (h := ?_)
        | refine k_shr (h := ?_)
        | refine k_neg (h := ?_)
        | refine k_index_arr (h := ?_)
        | refine k_len_slice (h := ?_)
        | refine k_quo (h := ?_)
        | refine k_rem (h := ?_)
        | (refine k_buildSlice (h := ?_); intro g)
        | refine k_indexAddr_arr (h := ?_)
        | refine c_true (h := ?_)
        | refine c_false (h := ?_)
        | refine k_len_str (h := ?_)
        | refine k_str_add (h := ?_)
        | refine k_str_eq (h := ?_)
        | refine k_str_ne (h := ?_)
        | refine k_index_str (h := ?_)
        | refine k_slice_hi (h := ?_)
        | refine k_slice_lo (h := ?_)
        | refine k_slice_lh (h := ?_)
        | refine k_slice_all (h := ?_)
        | refine k_max (h := ?_)
        | (refine s_ask (by eq_refl) (by eq_refl) (evO_eq (by eq_refl)) (fun hask => ?_) (fun hask => ?_))
        | (refine c_split (by eq_refl) (fun hif => ?_) (fun hif => ?_))
      )
    all_goals refine hQ _ _ (ret1 rfl (by (first | exact v_tmp | exact v_one | exact v_agg)) ?_)
    all_goals rfl
  · have e1 : arith .gtr .i64 (s.length : Int) 200 = some (.bool true) := by simp only [arith, Option.some.injEq, Value.bool.injEq, decide_eq_true_eq]; omega
    have tt : true = true := rfl; have ff : false = false := rfl; have nt : (!true) = false := rfl; have nf : (!false) = true := rfl
    refine pure_q Tryd.func3 rfl Tryd.ntmps3 rfl rfl (fun w0 Q hQ => ?_)
    repeat' (
      first
        | refine j_seq_k (fun N hN => ?_)
        | refine j_text ?_
        | refine j_draw (id := 5) [] (by kernel_rfl) (by kernel_rfl) ?_
        | refine j_block ?_
        | refine j_skip ?_
        | refine j_ret ?_
        | refine j_exit ?_
        | refine s_nil (show X _ _ _ _ _ from ?_)
        | (refine x_next hN ?_; clear hN N)
        | (refine x_then_ret ?_; clear hN N)
        | (refine x_then_exit ?_; clear hN N)
        | refine x_block ?_
        | refine x_block_ret ?_
        | refine x_block_hit ?_
        | refine x_block_miss (by eq_refl) ?_
        | refine k_skip (h := ?_)
        | refine k_skip0 (h := ?_)
        | refine k_fieldAddr (h := ?_)
        | refine k_load_one (h := ?_)
        | refine k_load_agg (h := ?_)
        | refine k_bin (h := ?_)
        | refine k_move (h := ?_)
        | refine k_assign (h := ?_)
        | refine k_extract (h := ?_)
        | refine k_call (hp := hw) (h := ?_)
        | (refine k_box (h := ?_); intro g)
        | (refine k_alloc (h := ?_); intro g)
        | refine k_store (h := ?_)
        | refine k_field_agg (h := ?_)
        | refine k_field_one (h := ?_)
        | refine k_build (h := ?_)
        | refine k_conv (h := ?_)
        | refine k_not (h := ?_)
        | refine k_eqb (h := ?_)
        | refine k_neb (h := ?_)
        | refine k_eqs (h := ?_)
        | refine k_nes (h := ?_)
        | refine k_pick_t (h := ?_)
        | refine k_pick_f (h := ?_)
        | refine k_nilCheck (h := ?_)
        | refine k_makeFunc (h := ?_)
        | refine k_shl (h := ?_)
        | refine k_shr (h := ?_)
        | refine k_neg (h := ?_)
        | refine k_index_arr (h := ?_)
        | refine k_len_slice (h := ?_)
        | refine k_quo (h := ?_)
        | refine k_rem (h := ?_)
        | (refine k_buildSlice (h := ?_); intro g)
        | refine k_indexAddr_arr (h := ?_)
        | refine c_true (h := ?_)
        | refine c_false (h := ?_)
        | refine k_len_str (h := ?_)
        | refine k_str_add (h := ?_)
        | refine k_str_eq (h := ?_)
        | refine k_str_ne (h := ?_)
        | refine k_index_str (h := ?_)
        | refine k_slice_hi (h := ?_)
        | refine k_slice_lo (h := ?_)
        | refine k_slice_lh (h := ?_)
        | refine k_slice_all (h := ?_)
        | refine k_max (h := ?_)
        | (refine s_ask (by eq_refl) (by eq_refl) (evO_eq (by eq_refl)) (fun hask => ?_) (fun hask => ?_))
        | (refine c_split (by eq_refl) (fun hif => ?_) (fun hif => ?_))
      )
    all_goals refine hQ _ _ (ret1 rfl (by (first | exact v_tmp | exact v_one | exact v_agg)) ?_)
    all_goals rfl
end Go.Proofs.YtmgfabfmnachoaaDoor.Own
