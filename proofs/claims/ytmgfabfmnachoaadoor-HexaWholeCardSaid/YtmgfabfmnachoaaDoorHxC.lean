/- Numbers as text: what the code computes. -/
import Derived.Test.YtmgfabfmnachoaaDoorHxB
namespace Go.Proofs.YtmgfabfmnachoaaDoor.Own
open Go Go.RowKit Go.Proofs Go.Proofs.YtmgfabfmnachoaaDoor.Plain Go.Proofs.YtmgfabfmnachoaaDoor.Hx
set_option linter.unusedVariables false
set_option linter.unusedSimpArgs false
set_option maxRecDepth 100000
set_option maxHeartbeats 4000000
/-- may it be? -/
def mayF (a : Fx) : Bool := !decide (a.n = -170141183460469231731687303715884105728)
theorem may_hi (a : Fx) : mayF a = !((a.hi == -9223372036854775808) && ((a.lo == 0) && true)) := by
  unfold mayF Fx.n
  have := a.b
  congr 1
  by_cases h : a.hi = -9223372036854775808 <;> by_cases h2 : a.lo = 0
  all_goals simp only [h, h2, beq_self_eq_true, Bool.and_true, Bool.true_and, decide_eq_true_eq]
  · decide
  · rw [show (a.lo == 0) = false by simpa using h2]; apply decide_eq_false; omega
  · rw [show (a.hi == -9223372036854775808) = false by simpa using h]; apply decide_eq_false; omega
  · rw [show (a.hi == -9223372036854775808) = false by simpa using h, Bool.false_and]; apply decide_eq_false; omega
theorem fmay_pure (a : Fx) : Pure Tryd.prog 19 #[a.v] (.bool (mayF a)) := by
  rw [may_hi]
  have tt : true = true := rfl; have ff : false = false := rfl; have nt : (!true) = false := rfl; have nf : (!false) = true := rfl
  refine pure_q Tryd.func19 rfl Tryd.ntmps19 rfl rfl (fun w0 Q hQ => ?_)
  repeat' (
    first
      | refine j_seq_k (fun N hN => ?_)
      | refine j_text ?_
      | refine j_block ?_
      | refine j_skip ?_
      | refine j_ret ?_
      | refine j_exit ?_
      | refine s_nil (show X _ _ _ _ _ from ?_)
      | (refine x_next hN ?_; clear hN N)
      | (refine x_then_ret ?_; clear hN N)
      | (refine x_then_exit ?_; clear hN N)
      | refine x_block ?_
      | refine x_block_ret ?_
      | refine x_block_hit ?_
      | refine x_block_miss (by eq_refl) ?_
      | refine k_skip (h := ?_)
      | refine k_skip0 (h := ?_)
      | refine k_fieldAddr (h := ?_)
      | refine k_load_one (h := ?_)
      | refine k_load_agg (h := ?_)
      | refine k_bin (h := ?_)
      | refine k_move (h := ?_)
      | refine k_assign (h := ?_)
      | refine k_extract (h := ?_)
      | (refine k_box (h := ?_); intro g)
      | (refine k_alloc (h := ?_); intro g)
      | refine k_store (h := ?_)
      | refine k_field_agg (h := ?_)
      | refine k_field_one (h := ?_)
      | refine k_build (h := ?_)
      | refine k_conv (h := ?_)
      | refine k_not (h := ?_)
      | refine k_eqb (h := ?_)
      | refine k_neb (h := ?_)
      | refine k_eqs (h := ?_)
      | refine k_nes (h := ?_)
      | refine k_pick_t (h := ?_)
      | refine k_pick_f (h := ?_)
      | refine k_nilCheck (h := ?_)
      | refine k_makeFunc (h := ?_)
      | refine k_shl (h := ?_)
      | refine k_shr (h := ?_)
      | refine k_neg (h := ?_)
      | refine k_index_arr (h := ?_)
      | refine k_len_slice (h := ?_)
      | refine k_quo (h := ?_)
      | refine k_rem (h := ?_)
      | (refine k_buildSlice (h := ?_); intro g)
      | refine k_indexAddr_arr (h := ?_)
      | refine c_true (h := ?_)
      | refine c_false (h := ?_)
      | refine k_len_str (h := ?_)
      | refine k_str_add (h := ?_)
      | refine k_str_eq (h := ?_)
      | refine k_str_ne (h := ?_)
      | refine k_index_str (h := ?_)
      | refine k_slice_hi (h := ?_)
      | refine k_slice_lo (h := ?_)
      | refine k_slice_lh (h := ?_)
      | refine k_slice_all (h := ?_)
      | refine k_max (h := ?_)
      | (refine s_ask (by eq_refl) (by eq_refl) (evO_eq (by eq_refl)) (fun hask => ?_) (fun hask => ?_))
      | (refine c_split (by eq_refl) (fun hif => ?_) (fun hif => ?_))
    )
  all_goals refine hQ _ _ (ret1 rfl (by (first | exact v_tmp | exact v_one | exact v_agg)) ?_)
  all_goals rfl
theorem rmay_pure (a : Fx) : Pure Tryd.prog 12 #[a.v] (.bool (mayF a)) := by
  obtain ⟨p, hp⟩ : ∃ p, (a.hi != -9223372036854775808) = p := ⟨_, rfl⟩
  obtain ⟨q, hq⟩ : ∃ q, (a.lo != 0) = q := ⟨_, rfl⟩
  have e1 : arith .neq .i64 a.hi (-9223372036854775808) = some (.bool p) := by simp only [arith, hp]
  have e2 : arith .neq .u64 a.lo 0 = some (.bool q) := by simp only [arith, hq]
  have k : mayF a = (p || q) := by
    rw [may_hi, ← hp, ← hq, bne, bne, Bool.and_true, Bool.not_and]
  rw [k]
  clear k hp hq
  have tt : true = true := rfl; have ff : false = false := rfl; have nt : (!true) = false := rfl; have nf : (!false) = true := rfl
  refine pure_q Tryd.func12 rfl Tryd.ntmps12 rfl rfl (fun w0 Q hQ => ?_)
  repeat' (
    first
      | refine j_seq_k (fun N hN => ?_)
      | refine j_text ?_
      | refine j_block ?_
      | refine j_skip ?_
      | refine j_ret ?_
      | refine j_exit ?_
      | refine s_nil (show X _ _ _ _ _ from ?_)
      | (refine x_next hN ?_; clear hN N)
      | (refine x_then_ret ?_; clear hN N)
      | (refine x_then_exit ?_; clear hN N)
      | refine x_block ?_
      | refine x_block_ret ?_
      | refine x_block_hit ?_
      | refine x_block_miss (by eq_refl) ?_
      | refine k_skip (h := ?_)
      | refine k_skip0 (h := ?_)
      | refine k_fieldAddr (h := ?_)
      | refine k_load_one (h := ?_)
      | refine k_load_agg (h := ?_)
      | refine k_bin (h := ?_)
      | refine k_move (h := ?_)
      | refine k_assign (h := ?_)
      | refine k_extract (h := ?_)
      | (refine k_box (h := ?_); intro g)
      | (refine k_alloc (h := ?_); intro g)
      | refine k_store (h := ?_)
      | refine k_field_agg (h := ?_)
      | refine k_field_one (h := ?_)
      | refine k_build (h := ?_)
      | refine k_conv (h := ?_)
      | refine k_not (h := ?_)
      | refine k_eqb (h := ?_)
      | refine k_neb (h := ?_)
      | refine k_eqs (h := ?_)
      | refine k_nes (h := ?_)
      | refine k_pick_t (h := ?_)
      | refine k_pick_f (h := ?_)
      | refine k_nilCheck (h := ?_)
      | refine k_makeFunc (h := ?_)
      | refine k_shl (h := ?_)
      | refine k_shr (h := ?_)
      | refine k_neg (h := ?_)
      | refine k_index_arr (h := ?_)
      | refine k_len_slice (h := ?_)
      | refine k_quo (h := ?_)
      | refine k_rem (h := ?_)
      | (refine k_buildSlice (h := ?_); intro g)
      | refine k_indexAddr_arr (h := ?_)
      | refine c_true (h := ?_)
      | refine c_false (h := ?_)
      | refine k_len_str (h := ?_)
      | refine k_str_add (h := ?_)
      | refine k_str_eq (h := ?_)
      | refine k_str_ne (h := ?_)
      | refine k_index_str (h := ?_)
      | refine k_slice_hi (h := ?_)
      | refine k_slice_lo (h := ?_)
      | refine k_slice_lh (h := ?_)
      | refine k_slice_all (h := ?_)
      | refine k_max (h := ?_)
      | (refine s_ask (by eq_refl) (by eq_refl) (evO_eq (by eq_refl)) (fun hask => ?_) (fun hask => ?_))
      | (refine c_split (by eq_refl) (fun hif => ?_) (fun hif => ?_))
    )
  all_goals refine hQ _ _ (ret1 rfl (by (first | exact v_tmp | exact v_one | exact v_agg)) ?_)
  all_goals (clear hQ; simp_all)
theorem fneg_pure (a : Fx) : Pure Tryd.prog 17 #[a.v] (Fx.of (-a.n)).v := by
  have ho := of_pure a
  have hs := size_pure a.mag (!a.below)
  have hm := a.mag_n
  have hn := a.neg_iff
  have k : sgn (!a.below) a.mag.n = -a.n := by
    rw [hm]
    unfold Fx.below sgn
    by_cases h : a.hi < 0
    · have := hn.1 h; simp only [h, decide_true, Bool.not_true, cond_false]; omega
    · have : ¬ a.n < 0 := fun q => h (hn.2 q)
      simp only [h, decide_false, Bool.not_false, cond_true]; omega
  rw [k] at hs
  clear k hm hn
  refine pure_q Tryd.func17 rfl Tryd.ntmps17 rfl rfl (fun w0 Q hQ => ?_)
  repeat' (
    first
      | refine j_seq_k (fun N hN => ?_)
      | refine j_text ?_
      | refine j_block ?_
      | refine j_skip ?_
      | refine j_ret ?_
      | refine j_exit ?_
      | refine s_nil (show X _ _ _ _ _ from ?_)
      | (refine x_next hN ?_; clear hN N)
      | (refine x_then_ret ?_; clear hN N)
      | (refine x_then_exit ?_; clear hN N)
      | refine x_block ?_
      | refine x_block_ret ?_
      | refine x_block_hit ?_
      | refine x_block_miss (by eq_refl) ?_
      | refine k_skip (h := ?_)
      | refine k_skip0 (h := ?_)
      | refine k_fieldAddr (h := ?_)
      | refine k_load_one (h := ?_)
      | refine k_load_agg (h := ?_)
      | refine k_bin (h := ?_)
      | refine k_move (h := ?_)
      | refine k_assign (h := ?_)
      | refine k_extract (h := ?_)
      | refine k_call (hp := ho) (h := ?_)
      | refine k_call (hp := hs) (h := ?_)
      | (refine k_box (h := ?_); intro g)
      | (refine k_alloc (h := ?_); intro g)
      | refine k_store (h := ?_)
      | refine k_field_agg (h := ?_)
      | refine k_field_one (h := ?_)
      | refine k_build (h := ?_)
      | refine k_conv (h := ?_)
      | refine k_not (h := ?_)
      | refine k_eqb (h := ?_)
      | refine k_neb (h := ?_)
      | refine k_eqs (h := ?_)
      | refine k_nes (h := ?_)
      | refine k_pick_t (h := ?_)
      | refine k_pick_f (h := ?_)
      | refine k_nilCheck (h := ?_)
      | refine k_makeFunc (h := ?_)
      | refine k_shl (h := ?_)
      | refine k_shr (h := ?_)
      | refine k_neg (h := ?_)
      | refine k_index_arr (h := ?_)
      | refine k_len_slice (h := ?_)
      | refine k_quo (h := ?_)
      | refine k_rem (h := ?_)
      | (refine k_buildSlice (h := ?_); intro g)
      | refine k_indexAddr_arr (h := ?_)
      | refine c_true (h := ?_)
      | refine c_false (h := ?_)
      | refine k_len_str (h := ?_)
      | refine k_str_add (h := ?_)
      | refine k_str_eq (h := ?_)
      | refine k_str_ne (h := ?_)
      | refine k_index_str (h := ?_)
      | refine k_slice_hi (h := ?_)
      | refine k_slice_lo (h := ?_)
      | refine k_slice_lh (h := ?_)
      | refine k_slice_all (h := ?_)
      | refine k_max (h := ?_)
      | (refine s_ask (by eq_refl) (by eq_refl) (evO_eq (by eq_refl)) (fun hask => ?_) (fun hask => ?_))
      | (refine c_split (by eq_refl) (fun hif => ?_) (fun hif => ?_))
    )
  all_goals refine hQ _ _ (ret1 rfl (by (first | exact v_tmp | exact v_one | exact v_agg)) ?_)
  all_goals rfl
/-- the text of a number -/
def textF (a : Fx) : List UInt8 := if mayF a = true then txt (decide (a.n < 0)) (a.n.natAbs / 18446744073709551616) (a.n.natAbs % 18446744073709551616) else []
theorem addS_ok (a b : List UInt8) (h : a.length + b.length ≤ 1000) : addS a b = some (a ++ b) := by unfold addS; rw [if_pos (by omega)]
theorem text_pure (a : Fx) : Pure Tryd.prog 10 #[a.v] (.string (B (textF a))) := by
  have hm := fmay_pure a
  obtain ⟨e, he⟩ : ∃ e, mayF a = e := ⟨_, rfl⟩
  unfold textF
  rw [he]
  rw [he] at hm
  have tt : true = true := rfl; have ff : false = false := rfl; have nt : (!true) = false := rfl; have nf : (!false) = true := rfl
  cases e with
  | false =>
    refine pure_q Tryd.func10 rfl Tryd.ntmps10 rfl rfl (fun w0 Q hQ => ?_)
    repeat' (
      first
        | refine j_seq_k (fun N hN => ?_)
        | refine j_text ?_
        | refine j_block ?_
        | refine j_skip ?_
        | refine j_ret ?_
        | refine j_exit ?_
        | refine s_nil (show X _ _ _ _ _ from ?_)
        | (refine x_next hN ?_; clear hN N)
        | (refine x_then_ret ?_; clear hN N)
        | (refine x_then_exit ?_; clear hN N)
        | refine x_block ?_
        | refine x_block_ret ?_
        | refine x_block_hit ?_
        | refine x_block_miss (by eq_refl) ?_
        | refine k_skip (h := ?_)
        | refine k_skip0 (h := ?_)
        | refine k_fieldAddr (h := ?_)
        | refine k_load_one (h := ?_)
        | refine k_load_agg (h := ?_)
        | refine k_bin (h := ?_)
        | refine k_move (h := ?_)
        | refine k_assign (h := ?_)
        | refine k_extract (h := ?_)
        | refine k_call (hp := hm) (h := ?_)
        | (refine k_box (h := ?_); intro g)
        | (refine k_alloc (h := ?_); intro g)
        | refine k_store (h := ?_)
        | refine k_field_agg (h := ?_)
        | refine k_field_one (h := ?_)
        | refine k_build (h := ?_)
        | refine k_conv (h := ?_)
        | refine k_not (h := ?_)
        | refine k_eqb (h := ?_)
        | refine k_neb (h := ?_)
        | refine k_eqs (h := ?_)
        | refine k_nes (h := ?_)
        | refine k_pick_t (h := ?_)
        | refine k_pick_f (h := ?_)
        | refine k_nilCheck (h := ?_)
        | refine k_makeFunc (h := ?_)
        | refine k_shl (h := ?_)
        | refine k_shr (h := ?_)
        | refine k_neg (h := ?_)
        | refine k_index_arr (h := ?_)
        | refine k_len_slice (h := ?_)
        | refine k_quo (h := ?_)
        | refine k_rem (h := ?_)
        | (refine k_buildSlice (h := ?_); intro g)
        | refine k_indexAddr_arr (h := ?_)
        | refine c_true (h := ?_)
        | refine c_false (h := ?_)
        | refine k_len_str (h := ?_)
        | refine k_str_add (h := ?_)
        | refine k_str_eq (h := ?_)
        | refine k_str_ne (h := ?_)
        | refine k_index_str (h := ?_)
        | refine k_slice_hi (h := ?_)
        | refine k_slice_lo (h := ?_)
        | refine k_slice_lh (h := ?_)
        | refine k_slice_all (h := ?_)
        | refine k_max (h := ?_)
        | (refine s_ask (by eq_refl) (by eq_refl) (evO_eq (by eq_refl)) (fun hask => ?_) (fun hask => ?_))
        | (refine c_split (by eq_refl) (fun hif => ?_) (fun hif => ?_))
      )
    all_goals refine hQ _ _ (ret1 rfl (by (first | exact v_tmp | exact v_one | exact v_agg)) ?_)
    all_goals rfl
  | true =>
    rw [if_pos rfl]
    have hn := fneg_pure a
    have hlt := a.lt
    have hb0 : ¬ a.n = -170141183460469231731687303715884105728 := by simpa [mayF] using he
    obtain ⟨s, hs⟩ : ∃ s, decide (a.hi < 0) = s := ⟨_, rfl⟩
    have e1 : arith .lss .i64 a.hi 0 = some (.bool s) := by simp only [arith, hs]
    have es : decide (a.n < 0) = s := by rw [← hs]; exact decide_eq_decide.2 a.neg_iff.symm
    rw [es]
    -- what is left when the sign is taken
    obtain ⟨W, F, hW, hF, hv⟩ : ∃ W F : Nat, W < 9223372036854775808 ∧ F < 18446744073709551616 ∧ (a.n.natAbs / 18446744073709551616 = W ∧ a.n.natAbs % 18446744073709551616 = F) := by
      refine ⟨_, _, ?_, ?_, rfl, rfl⟩ <;> omega
    obtain ⟨hv1, hv2⟩ := hv
    have h0 : s = false → a.hi = (W : Int) ∧ a.lo = (F : Int) := by
      rintro rfl
      have := of_decide_eq_false hs
      have := a.b
      unfold Fx.n at hv1 hv2
      constructor <;> omega
    have h1 : s = true → (Fx.of (-a.n)).hi = (W : Int) ∧ (Fx.of (-a.n)).lo = (F : Int) := by
      rintro rfl
      have := of_decide_eq_true es
      have e1 : (Fx.of (-a.n)).hi = IntKind.i64.wrap (-a.n / 18446744073709551616) := rfl
      have e2 : (Fx.of (-a.n)).lo = -a.n % 18446744073709551616 := rfl
      rw [e1, e2, IntKind.wrap_i64]
      constructor <;> omega
    rw [hv1, hv2]
    have hx := hex_pure W (by omega)
    have hx2 := hex_pure F hF
    have ht := trim_pure (hexL 16 W)
    have hdr := hexL_drop 16 W (by rw [show (16 : Nat) ^ 16 = 18446744073709551616 by decide]; omega)
    have hl1 := hexL_len 16 F
    have hl2 := hexL_le 16 W (by rw [show (16 : Nat) ^ 16 = 18446744073709551616 by decide]; omega)
    have ew : IntKind.u64.wrap (W : Int) = (W : Int) := by rw [IntKind.wrap_u64]; omega
    rw [← ew] at hx
    have hw0 : W = 0 → hexS W = [48] := by rintro rfl; rw [hexS_eq 0]; decide
    have hsn := hexS_ne W
    unfold txt
    generalize hexL 16 F = Y at *
    generalize hexS W = S at *
    obtain ⟨q, hq⟩ : ∃ q, (hexL 16 W).dropWhile (· == 48) = q := ⟨_, rfl⟩
    rw [hq] at ht hdr
    obtain ⟨z, hz⟩ : ∃ z, decide (q = []) = z := ⟨_, rfl⟩
    have kz : z = true → S = [48] := by
      rintro rfl
      apply hw0
      apply Classical.byContradiction
      intro h
      rw [if_neg h] at hdr
      exact hsn (hdr.symm.trans (of_decide_eq_true hz))
    have kz2 : z = false → S = q := by
      rintro rfl
      have : ¬ q = [] := of_decide_eq_false hz
      by_cases h : W = 0
      · rw [if_pos h] at hdr; exact absurd hdr this
      · rw [if_neg h] at hdr; exact hdr.symm
    generalize hexL 16 W = X16 at *
    have hlS : S.length ≤ 16 := by simpa using hl2
    clear hdr hl2 hw0 hsn hq es hv1 hv2 hlt hb0 hW hF he
    cases s with
    | false =>
      obtain ⟨i1, i2⟩ := h0 rfl
      clear h0 h1 hs
      have a1 := addS_ok [] S (by simp; omega)
      have a2 := addS_ok ([] ++ S) [46] (by simp; omega)
      have a3 := addS_ok (([] ++ S) ++ [46]) Y (by simp; omega)
      have hm' : Pure Tryd.prog 19 #[.agg #[.int .i64 (W : Int), .int .u64 (F : Int)]] (.bool true) := by rw [← i1, ← i2]; exact hm
      show Pure Tryd.prog _ #[.agg #[.int .i64 a.hi, .int .u64 a.lo]] _
      rw [i1, i2]
      rw [i1] at e1
      clear hm i1 i2 hn
      cases z with
      | true =>
        obtain rfl := kz rfl
        clear kz kz2
        refine pure_q Tryd.func10 rfl Tryd.ntmps10 rfl rfl (fun w0 Q hQ => ?_)
        repeat' (
          first
            | refine j_seq_k (fun N hN => ?_)
            | refine j_text ?_
            | refine j_block ?_
            | refine j_skip ?_
            | refine j_ret ?_
            | refine j_exit ?_
            | refine s_nil (show X _ _ _ _ _ from ?_)
            | (refine x_next hN ?_; clear hN N)
            | (refine x_then_ret ?_; clear hN N)
            | (refine x_then_exit ?_; clear hN N)
            | refine x_block ?_
            | refine x_block_ret ?_
            | refine x_block_hit ?_
            | refine x_block_miss (by eq_refl) ?_
            | refine k_skip (h := ?_)
            | refine k_skip0 (h := ?_)
            | refine k_fieldAddr (h := ?_)
            | refine k_load_one (h := ?_)
            | refine k_load_agg (h := ?_)
            | refine k_bin (h := ?_)
            | refine k_move (h := ?_)
            | refine k_assign (h := ?_)
            | refine k_extract (h := ?_)
            | refine k_call (hp := hm') (h := ?_)
            | refine k_call (hp := hx) (h := ?_)
            | refine k_call (hp := hx2) (h := ?_)
            | refine k_call (hp := ht) (h := ?_)
            | (refine k_box (h := ?_); intro g)
            | (refine k_alloc (h := ?_); intro g)
            | refine k_store (h := ?_)
            | refine k_field_agg (h := ?_)
            | refine k_field_one (h := ?_)
            | refine k_build (h := ?_)
            | refine k_conv (h := ?_)
            | refine k_not (h := ?_)
            | refine k_eqb (h := ?_)
            | refine k_neb (h := ?_)
            | refine k_eqs (h := ?_)
            | refine k_nes (h := ?_)
            | refine k_pick_t (h := ?_)
            | refine k_pick_f (h := ?_)
            | refine k_nilCheck (h := ?_)
            | refine k_makeFunc (h := ?_)
            | refine k_shl (h := ?_)
            | refine k_shr (h := ?_)
            | refine k_neg (h := ?_)
            | refine k_index_arr (h := ?_)
            | refine k_len_slice (h := ?_)
            | refine k_quo (h := ?_)
            | refine k_rem (h := ?_)
            | (refine k_buildSlice (h := ?_); intro g)
            | refine k_indexAddr_arr (h := ?_)
            | refine c_true (h := ?_)
            | refine c_false (h := ?_)
            | refine k_len_str (h := ?_)
            | refine k_str_add (h := ?_)
            | refine k_str_eq (h := ?_)
            | refine k_str_ne (h := ?_)
            | refine k_index_str (h := ?_)
            | refine k_slice_hi (h := ?_)
            | refine k_slice_lo (h := ?_)
            | refine k_slice_lh (h := ?_)
            | refine k_slice_all (h := ?_)
            | refine k_max (h := ?_)
            | (refine s_ask (by eq_refl) (by eq_refl) (evO_eq (by eq_refl)) (fun hask => ?_) (fun hask => ?_))
            | (refine c_split (by eq_refl) (fun hif => ?_) (fun hif => ?_))
          )
        all_goals refine hQ _ _ (ret1 rfl (by (first | exact v_tmp | exact v_one | exact v_agg)) ?_)
        all_goals simp
      | false =>
        obtain rfl := kz2 rfl
        clear kz kz2
        refine pure_q Tryd.func10 rfl Tryd.ntmps10 rfl rfl (fun w0 Q hQ => ?_)
        repeat' (
          first
            | refine j_seq_k (fun N hN => ?_)
            | refine j_text ?_
            | refine j_block ?_
            | refine j_skip ?_
            | refine j_ret ?_
            | refine j_exit ?_
            | refine s_nil (show X _ _ _ _ _ from ?_)
            | (refine x_next hN ?_; clear hN N)
            | (refine x_then_ret ?_; clear hN N)
            | (refine x_then_exit ?_; clear hN N)
            | refine x_block ?_
            | refine x_block_ret ?_
            | refine x_block_hit ?_
            | refine x_block_miss (by eq_refl) ?_
            | refine k_skip (h := ?_)
            | refine k_skip0 (h := ?_)
            | refine k_fieldAddr (h := ?_)
            | refine k_load_one (h := ?_)
            | refine k_load_agg (h := ?_)
            | refine k_bin (h := ?_)
            | refine k_move (h := ?_)
            | refine k_assign (h := ?_)
            | refine k_extract (h := ?_)
            | refine k_call (hp := hm') (h := ?_)
            | refine k_call (hp := hx) (h := ?_)
            | refine k_call (hp := hx2) (h := ?_)
            | refine k_call (hp := ht) (h := ?_)
            | (refine k_box (h := ?_); intro g)
            | (refine k_alloc (h := ?_); intro g)
            | refine k_store (h := ?_)
            | refine k_field_agg (h := ?_)
            | refine k_field_one (h := ?_)
            | refine k_build (h := ?_)
            | refine k_conv (h := ?_)
            | refine k_not (h := ?_)
            | refine k_eqb (h := ?_)
            | refine k_neb (h := ?_)
            | refine k_eqs (h := ?_)
            | refine k_nes (h := ?_)
            | refine k_pick_t (h := ?_)
            | refine k_pick_f (h := ?_)
            | refine k_nilCheck (h := ?_)
            | refine k_makeFunc (h := ?_)
            | refine k_shl (h := ?_)
            | refine k_shr (h := ?_)
            | refine k_neg (h := ?_)
            | refine k_index_arr (h := ?_)
            | refine k_len_slice (h := ?_)
            | refine k_quo (h := ?_)
            | refine k_rem (h := ?_)
            | (refine k_buildSlice (h := ?_); intro g)
            | refine k_indexAddr_arr (h := ?_)
            | refine c_true (h := ?_)
            | refine c_false (h := ?_)
            | refine k_len_str (h := ?_)
            | refine k_str_add (h := ?_)
            | refine k_str_eq (h := ?_)
            | refine k_str_ne (h := ?_)
            | refine k_index_str (h := ?_)
            | refine k_slice_hi (h := ?_)
            | refine k_slice_lo (h := ?_)
            | refine k_slice_lh (h := ?_)
            | refine k_slice_all (h := ?_)
            | refine k_max (h := ?_)
            | (refine s_ask (by eq_refl) (by eq_refl) (evO_eq (by eq_refl)) (fun hask => ?_) (fun hask => ?_))
            | (refine c_split (by eq_refl) (fun hif => ?_) (fun hif => ?_))
          )
        all_goals refine hQ _ _ (ret1 rfl (by (first | exact v_tmp | exact v_one | exact v_agg)) ?_)
        all_goals simp
    | true =>
      obtain ⟨i1, i2⟩ := h1 rfl
      clear h0 h1 hs
      have a1 := addS_ok [45] S (by simp; omega)
      have a2 := addS_ok ([45] ++ S) [46] (by simp; omega)
      have a3 := addS_ok (([45] ++ S) ++ [46]) Y (by simp; omega)
      have hn' : Pure Tryd.prog 17 #[a.v] (.agg #[.int .i64 (W : Int), .int .u64 (F : Int)]) := by rw [← i1, ← i2]; exact hn
      clear hn i1 i2
      cases z with
      | true =>
        obtain rfl := kz rfl
        clear kz kz2
        refine pure_q Tryd.func10 rfl Tryd.ntmps10 rfl rfl (fun w0 Q hQ => ?_)
        repeat' (
          first
            | refine j_seq_k (fun N hN => ?_)
            | refine j_text ?_
            | refine j_block ?_
            | refine j_skip ?_
            | refine j_ret ?_
            | refine j_exit ?_
            | refine s_nil (show X _ _ _ _ _ from ?_)
            | (refine x_next hN ?_; clear hN N)
            | (refine x_then_ret ?_; clear hN N)
            | (refine x_then_exit ?_; clear hN N)
            | refine x_block ?_
            | refine x_block_ret ?_
            | refine x_block_hit ?_
            | refine x_block_miss (by eq_refl) ?_
            | refine k_skip (h := ?_)
            | refine k_skip0 (h := ?_)
            | refine k_fieldAddr (h := ?_)
            | refine k_load_one (h := ?_)
            | refine k_load_agg (h := ?_)
            | refine k_bin (h := ?_)
            | refine k_move (h := ?_)
            | refine k_assign (h := ?_)
            | refine k_extract (h := ?_)
            | refine k_call (hp := hm) (h := ?_)
            | refine k_call (hp := hn') (h := ?_)
            | refine k_call (hp := hx) (h := ?_)
            | refine k_call (hp := hx2) (h := ?_)
            | refine k_call (hp := ht) (h := ?_)
            | (refine k_box (h := ?_); intro g)
            | (refine k_alloc (h := ?_); intro g)
            | refine k_store (h := ?_)
            | refine k_field_agg (h := ?_)
            | refine k_field_one (h := ?_)
            | refine k_build (h := ?_)
            | refine k_conv (h := ?_)
            | refine k_not (h := ?_)
            | refine k_eqb (h := ?_)
            | refine k_neb (h := ?_)
            | refine k_eqs (h := ?_)
            | refine k_nes (h := ?_)
            | refine k_pick_t (h := ?_)
            | refine k_pick_f (h := ?_)
            | refine k_nilCheck (h := ?_)
            | refine k_makeFunc (h := ?_)
            | refine k_shl (h := ?_)
            | refine k_shr (h := ?_)
            | refine k_neg (h := ?_)
            | refine k_index_arr (h := ?_)
            | refine k_len_slice (h := ?_)
            | refine k_quo (h := ?_)
            | refine k_rem (h := ?_)
            | (refine k_buildSlice (h := ?_); intro g)
            | refine k_indexAddr_arr (h := ?_)
            | refine c_true (h := ?_)
            | refine c_false (h := ?_)
            | refine k_len_str (h := ?_)
            | refine k_str_add (h := ?_)
            | refine k_str_eq (h := ?_)
            | refine k_str_ne (h := ?_)
            | refine k_index_str (h := ?_)
            | refine k_slice_hi (h := ?_)
            | refine k_slice_lo (h := ?_)
            | refine k_slice_lh (h := ?_)
            | refine k_slice_all (h := ?_)
            | refine k_max (h := ?_)
            | (refine s_ask (by eq_refl) (by eq_refl) (evO_eq (by eq_refl)) (fun hask => ?_) (fun hask => ?_))
            | (refine c_split (by eq_refl) (fun hif => ?_) (fun hif => ?_))
          )
        all_goals refine hQ _ _ (ret1 rfl (by (first | exact v_tmp | exact v_one | exact v_agg)) ?_)
        all_goals simp
      | false =>
        obtain rfl := kz2 rfl
        clear kz kz2
        refine pure_q Tryd.func10 rfl Tryd.ntmps10 rfl rfl (fun w0 Q hQ => ?_)
        repeat' (
          first
            | refine j_seq_k (fun N hN => ?_)
            | refine j_text ?_
            | refine j_block ?_
            | refine j_skip ?_
            | refine j_ret ?_
            | refine j_exit ?_
            | refine s_nil (show X _ _ _ _ _ from ?_)
            | (refine x_next hN ?_; clear hN N)
            | (refine x_then_ret ?_; clear hN N)
            | (refine x_then_exit ?_; clear hN N)
            | refine x_block ?_
            | refine x_block_ret ?_
            | refine x_block_hit ?_
            | refine x_block_miss (by eq_refl) ?_
            | refine k_skip (h := ?_)
            | refine k_skip0 (h := ?_)
            | refine k_fieldAddr (h := ?_)
            | refine k_load_one (h := ?_)
            | refine k_load_agg (h := ?_)
            | refine k_bin (h := ?_)
            | refine k_move (h := ?_)
            | refine k_assign (h := ?_)
            | refine k_extract (h := ?_)
            | refine k_call (hp := hm) (h := ?_)
            | refine k_call (hp := hn') (h := ?_)
            | refine k_call (hp := hx) (h := ?_)
            | refine k_call (hp := hx2) (h := ?_)
            | refine k_call (hp := ht) (h := ?_)
            | (refine k_box (h := ?_); intro g)
            | (refine k_alloc (h := ?_); intro g)
            | refine k_store (h := ?_)
            | refine k_field_agg (h := ?_)
            | refine k_field_one (h := ?_)
            | refine k_build (h := ?_)
            | refine k_conv (h := ?_)
            | refine k_not (h := ?_)
            | refine k_eqb (h := ?_)
            | refine k_neb (h := ?_)
            | refine k_eqs (h := ?_)
            | refine k_nes (h := ?_)
            | refine k_pick_t (h := ?_)
            | refine k_pick_f (h := ?_)
            | refine k_nilCheck (h := ?_)
            | refine k_makeFunc (h := ?_)
            | refine k_shl (h := ?_)
            | refine k_shr (h := ?_)
            | refine k_neg (h := ?_)
            | refine k_index_arr (h := ?_)
            | refine k_len_slice (h := ?_)
            | refine k_quo (h := ?_)
            | refine k_rem (h := ?_)
            | (refine k_buildSlice (h := ?_); intro g)
            | refine k_indexAddr_arr (h := ?_)
            | refine c_true (h := ?_)
            | refine c_false (h := ?_)
            | refine k_len_str (h := ?_)
            | refine k_str_add (h := ?_)
            | refine k_str_eq (h := ?_)
            | refine k_str_ne (h := ?_)
            | refine k_index_str (h := ?_)
            | refine k_slice_hi (h := ?_)
            | refine k_slice_lo (h := ?_)
            | refine k_slice_lh (h := ?_)
            | refine k_slice_all (h := ?_)
            | refine k_max (h := ?_)
            | (refine s_ask (by eq_refl) (by eq_refl) (evO_eq (by eq_refl)) (fun hask => ?_) (fun hask => ?_))
            | (refine c_split (by eq_refl) (fun hif => ?_) (fun hif => ?_))
          )
        all_goals refine hQ _ _ (ret1 rfl (by (first | exact v_tmp | exact v_one | exact v_agg)) ?_)
        all_goals simp
end Go.Proofs.YtmgfabfmnachoaaDoor.Own
