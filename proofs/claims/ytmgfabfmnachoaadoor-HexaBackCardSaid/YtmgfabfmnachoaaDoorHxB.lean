/- Strings: what the code of the library computes, where it is met. -/
import Derived.Test.YtmgfabfmnachoaaDoorHxA
import Derived.Test.YtmgfabfmnachoaaDoorHxE
import Derived.Test.YtmgfabfmnachoaaDoorHxP
import Derived.Lib.Bytealg
namespace Go.Proofs.YtmgfabfmnachoaaDoor.Own
open Go Go.RowKit Go.Proofs Go.Proofs.YtmgfabfmnachoaaDoor.Plain Go.Proofs.YtmgfabfmnachoaaDoor.Hx
set_option linter.unusedVariables false
set_option linter.unusedSimpArgs false
set_option maxRecDepth 100000
set_option maxHeartbeats 4000000
theorem ixb_pure (s : List UInt8) (c : UInt8) : Pure Tryd.prog 37 #[.string (B s), .int .u8 (c.toNat : Int)] (.int .i64 (Go.Lib.indexByte s c)) := by
  have hp : ∀ w, (callFunc 45 #[.string (B s), .int .u8 (c.toNat : Int)]).run Tryd.prog w = .ok (.value (.int .i64 (Go.Lib.indexByte s c))) w := by
    intro w
    rw [run_callFunc_extern Tryd.func45 (by kernel_rfl) (by kernel_rfl) (by kernel_rfl) (e := Extern.BytealgIndexByte.indexByte) (by kernel_rfl), Go.Lib.run_indexByteString]
    simp [B, Int.toNat_natCast, Result.andThen]
  have tt : true = true := rfl; have ff : false = false := rfl; have nt : (!true) = false := rfl; have nf : (!false) = true := rfl
  refine pure_q Tryd.func37 rfl Tryd.ntmps37 rfl rfl (fun w0 Q hQ => ?_)
  repeat' (
    first
      | refine k_extern (hp := hp) (h := ?_)
      | refine j_seq_k (fun N hN => ?_)
      | refine j_text ?_
      | refine j_block ?_
      | refine j_skip ?_
      | refine j_ret ?_
      | refine j_exit ?_
      | refine s_nil (show X _ _ _ _ _ from ?_)
      | (refine x_next hN ?_; clear hN N)
      | (refine x_then_ret ?_; clear hN N)
      | (refine x_then_exit ?_; clear hN N)
      | refine x_block ?_
      | refine x_block_ret ?_
      | refine x_block_hit ?_
      | refine x_block_miss (by eq_refl) ?_
      | refine k_skip (h := ?_)
      | refine k_skip0 (h := ?_)
      | refine k_fieldAddr (h := ?_)
      | refine k_load_one (h := ?_)
      | refine k_load_agg (h := ?_)
      | refine k_bin (h := ?_)
      | refine k_move (h := ?_)
      | refine k_assign (h := ?_)
      | refine k_extract (h := ?_)
      | (refine k_box (h := ?_); intro g)
      | (refine k_alloc (h := ?_); intro g)
      | refine k_store (h := ?_)
      | refine k_field_agg (h := ?_)
      | refine k_field_one (h := ?_)
      | refine k_build (h := ?_)
      | refine k_conv (h := ?_)
      | refine k_not (h := ?_)
      | refine k_eqb (h := ?_)
      | refine k_neb (h := ?_)
      | refine k_eqs (h := ?_)
      | refine k_nes (h := ?_)
      | refine k_pick_t (h := ?_)
      | refine k_pick_f (h := ?_)
      | refine k_nilCheck (h := ?_)
      | refine k_makeFunc (h := ?_)
      | refine k_shl (h := ?_)
      | refine k_shr (h := ?_)
      | refine k_neg (h := ?_)
      | refine k_index_arr (h := ?_)
      | refine k_len_slice (h := ?_)
      | refine k_quo (h := ?_)
      | refine k_rem (h := ?_)
      | (refine k_buildSlice (h := ?_); intro g)
      | refine k_indexAddr_arr (h := ?_)
      | refine c_true (h := ?_)
      | refine c_false (h := ?_)
      | refine k_len_str (h := ?_)
      | refine k_str_add (h := ?_)
      | refine k_str_eq (h := ?_)
      | refine k_str_ne (h := ?_)
      | refine k_index_str (h := ?_)
      | refine k_slice_hi (h := ?_)
      | refine k_slice_lo (h := ?_)
      | refine k_slice_lh (h := ?_)
      | refine k_slice_all (h := ?_)
      | refine k_max (h := ?_)
      | (refine s_ask (by eq_refl) (by eq_refl) (evO_eq (by eq_refl)) (fun hask => ?_) (fun hask => ?_))
      | (refine c_split (by eq_refl) (fun hif => ?_) (fun hif => ?_))
    )
  all_goals refine hQ _ _ (ret1 rfl (by (first | exact v_tmp | exact v_one | exact v_agg)) ?_)
  rfl
theorem ixb2_pure (s : List UInt8) (c : UInt8) : Pure Tryd.prog 27 #[.string (B s), .int .u8 (c.toNat : Int)] (.int .i64 (Go.Lib.indexByte s c)) := by
  have hp := ixb_pure s c
  have tt : true = true := rfl; have ff : false = false := rfl; have nt : (!true) = false := rfl; have nf : (!false) = true := rfl
  refine pure_q Tryd.func27 rfl Tryd.ntmps27 rfl rfl (fun w0 Q hQ => ?_)
  repeat' (
    first
      | refine j_seq_k (fun N hN => ?_)
      | refine j_text ?_
      | refine j_block ?_
      | refine j_skip ?_
      | refine j_ret ?_
      | refine j_exit ?_
      | refine s_nil (show X _ _ _ _ _ from ?_)
      | (refine x_next hN ?_; clear hN N)
      | (refine x_then_ret ?_; clear hN N)
      | (refine x_then_exit ?_; clear hN N)
      | refine x_block ?_
      | refine x_block_ret ?_
      | refine x_block_hit ?_
      | refine x_block_miss (by eq_refl) ?_
      | refine k_skip (h := ?_)
      | refine k_skip0 (h := ?_)
      | refine k_fieldAddr (h := ?_)
      | refine k_load_one (h := ?_)
      | refine k_load_agg (h := ?_)
      | refine k_bin (h := ?_)
      | refine k_move (h := ?_)
      | refine k_assign (h := ?_)
      | refine k_extract (h := ?_)
      | refine k_call (hp := hp) (h := ?_)
      | (refine k_box (h := ?_); intro g)
      | (refine k_alloc (h := ?_); intro g)
      | refine k_store (h := ?_)
      | refine k_field_agg (h := ?_)
      | refine k_field_one (h := ?_)
      | refine k_build (h := ?_)
      | refine k_conv (h := ?_)
      | refine k_not (h := ?_)
      | refine k_eqb (h := ?_)
      | refine k_neb (h := ?_)
      | refine k_eqs (h := ?_)
      | refine k_nes (h := ?_)
      | refine k_pick_t (h := ?_)
      | refine k_pick_f (h := ?_)
      | refine k_nilCheck (h := ?_)
      | refine k_makeFunc (h := ?_)
      | refine k_shl (h := ?_)
      | refine k_shr (h := ?_)
      | refine k_neg (h := ?_)
      | refine k_index_arr (h := ?_)
      | refine k_len_slice (h := ?_)
      | refine k_quo (h := ?_)
      | refine k_rem (h := ?_)
      | (refine k_buildSlice (h := ?_); intro g)
      | refine k_indexAddr_arr (h := ?_)
      | refine c_true (h := ?_)
      | refine c_false (h := ?_)
      | refine k_len_str (h := ?_)
      | refine k_str_add (h := ?_)
      | refine k_str_eq (h := ?_)
      | refine k_str_ne (h := ?_)
      | refine k_index_str (h := ?_)
      | refine k_slice_hi (h := ?_)
      | refine k_slice_lo (h := ?_)
      | refine k_slice_lh (h := ?_)
      | refine k_slice_all (h := ?_)
      | refine k_max (h := ?_)
      | (refine s_ask (by eq_refl) (by eq_refl) (evO_eq (by eq_refl)) (fun hask => ?_) (fun hask => ?_))
      | (refine c_split (by eq_refl) (fun hif => ?_) (fun hif => ?_))
    )
  all_goals refine hQ _ _ (ret1 rfl (by (first | exact v_tmp | exact v_one | exact v_agg)) ?_)
  rfl
def pre1 (s : List UInt8) (p : UInt8) : Bool := match s with | [] => false | c :: _ => decide ([c] = [p])
theorem hasp_pure (s : List UInt8) (p : UInt8) : Pure Tryd.prog 35 #[.string (B s), .string (B [p])] (.bool (pre1 s p)) := by
  cases s with
  | nil =>
    have e1 : arith .geq .i64 ((([] : List UInt8).length : Nat) : Int) ((([p] : List UInt8).length : Nat) : Int) = some (.bool false) := rfl
    have tt : true = true := rfl; have ff : false = false := rfl; have nt : (!true) = false := rfl; have nf : (!false) = true := rfl
    refine pure_q Tryd.func35 rfl Tryd.ntmps35 rfl rfl (fun w0 Q hQ => ?_)
    repeat' (
      first
        | refine j_seq_k (fun N hN => ?_)
        | refine j_text ?_
        | refine j_block ?_
        | refine j_skip ?_
        | refine j_ret ?_
        | refine j_exit ?_
        | refine s_nil (show X _ _ _ _ _ from ?_)
        | (refine x_next hN ?_; clear hN N)
        | (refine x_then_ret ?_; clear hN N)
        | (refine x_then_exit ?_; clear hN N)
        | refine x_block ?_
        | refine x_block_ret ?_
        | refine x_block_hit ?_
        | refine x_block_miss (by eq_refl) ?_
        | refine k_skip (h := ?_)
        | refine k_skip0 (h := ?_)
        | refine k_fieldAddr (h := ?_)
        | refine k_load_one (h := ?_)
        | refine k_load_agg (h := ?_)
        | refine k_bin (h := ?_)
        | refine k_move (h := ?_)
        | refine k_assign (h := ?_)
        | refine k_extract (h := ?_)
        | (refine k_box (h := ?_); intro g)
        | (refine k_alloc (h := ?_); intro g)
        | refine k_store (h := ?_)
        | refine k_field_agg (h := ?_)
        | refine k_field_one (h := ?_)
        | refine k_build (h := ?_)
        | refine k_conv (h := ?_)
        | refine k_not (h := ?_)
        | refine k_eqb (h := ?_)
        | refine k_neb (h := ?_)
        | refine k_eqs (h := ?_)
        | refine k_nes (h := ?_)
        | refine k_pick_t (h := ?_)
        | refine k_pick_f (h := ?_)
        | refine k_nilCheck (h := ?_)
        | refine k_makeFunc (h := ?_)
        | refine k_shl (h := ?_)
        | refine k_shr (h := ?_)
        | refine k_neg (h := ?_)
        | refine k_index_arr (h := ?_)
        | refine k_len_slice (h := ?_)
        | refine k_quo (h := ?_)
        | refine k_rem (h := ?_)
        | (refine k_buildSlice (h := ?_); intro g)
        | refine k_indexAddr_arr (h := ?_)
        | refine c_true (h := ?_)
        | refine c_false (h := ?_)
        | refine k_len_str (h := ?_)
        | refine k_str_add (h := ?_)
        | refine k_str_eq (h := ?_)
        | refine k_str_ne (h := ?_)
        | refine k_index_str (h := ?_)
        | refine k_slice_hi (h := ?_)
        | refine k_slice_lo (h := ?_)
        | refine k_slice_lh (h := ?_)
        | refine k_slice_all (h := ?_)
        | refine k_max (h := ?_)
        | (refine s_ask (by eq_refl) (by eq_refl) (evO_eq (by eq_refl)) (fun hask => ?_) (fun hask => ?_))
        | (refine c_split (by eq_refl) (fun hif => ?_) (fun hif => ?_))
      )
    all_goals refine hQ _ _ (ret1 rfl (by (first | exact v_tmp | exact v_one | exact v_agg)) ?_)
    rfl
  | cons c r =>
    have e1 : arith .geq .i64 (((c :: r : List UInt8).length : Nat) : Int) ((([p] : List UInt8).length : Nat) : Int) = some (.bool true) := by simp [arith]; omega
    have e2 : subS (c :: r) 0 ((([p] : List UInt8).length : Nat) : Int) = some [c] := by unfold subS; simp; omega
    have tt : true = true := rfl; have ff : false = false := rfl; have nt : (!true) = false := rfl; have nf : (!false) = true := rfl
    refine pure_q Tryd.func35 rfl Tryd.ntmps35 rfl rfl (fun w0 Q hQ => ?_)
    repeat' (
      first
        | refine j_seq_k (fun N hN => ?_)
        | refine j_text ?_
        | refine j_block ?_
        | refine j_skip ?_
        | refine j_ret ?_
        | refine j_exit ?_
        | refine s_nil (show X _ _ _ _ _ from ?_)
        | (refine x_next hN ?_; clear hN N)
        | (refine x_then_ret ?_; clear hN N)
        | (refine x_then_exit ?_; clear hN N)
        | refine x_block ?_
        | refine x_block_ret ?_
        | refine x_block_hit ?_
        | refine x_block_miss (by eq_refl) ?_
        | refine k_skip (h := ?_)
        | refine k_skip0 (h := ?_)
        | refine k_fieldAddr (h := ?_)
        | refine k_load_one (h := ?_)
        | refine k_load_agg (h := ?_)
        | refine k_bin (h := ?_)
        | refine k_move (h := ?_)
        | refine k_assign (h := ?_)
        | refine k_extract (h := ?_)
        | (refine k_box (h := ?_); intro g)
        | (refine k_alloc (h := ?_); intro g)
        | refine k_store (h := ?_)
        | refine k_field_agg (h := ?_)
        | refine k_field_one (h := ?_)
        | refine k_build (h := ?_)
        | refine k_conv (h := ?_)
        | refine k_not (h := ?_)
        | refine k_eqb (h := ?_)
        | refine k_neb (h := ?_)
        | refine k_eqs (h := ?_)
        | refine k_nes (h := ?_)
        | refine k_pick_t (h := ?_)
        | refine k_pick_f (h := ?_)
        | refine k_nilCheck (h := ?_)
        | refine k_makeFunc (h := ?_)
        | refine k_shl (h := ?_)
        | refine k_shr (h := ?_)
        | refine k_neg (h := ?_)
        | refine k_index_arr (h := ?_)
        | refine k_len_slice (h := ?_)
        | refine k_quo (h := ?_)
        | refine k_rem (h := ?_)
        | (refine k_buildSlice (h := ?_); intro g)
        | refine k_indexAddr_arr (h := ?_)
        | refine c_true (h := ?_)
        | refine c_false (h := ?_)
        | refine k_len_str (h := ?_)
        | refine k_str_add (h := ?_)
        | refine k_str_eq (h := ?_)
        | refine k_str_ne (h := ?_)
        | refine k_index_str (h := ?_)
        | refine k_slice_hi (h := ?_)
        | refine k_slice_lo (h := ?_)
        | refine k_slice_lh (h := ?_)
        | refine k_slice_all (h := ?_)
        | refine k_max (h := ?_)
        | (refine s_ask (by eq_refl) (by eq_refl) (evO_eq (by eq_refl)) (fun hask => ?_) (fun hask => ?_))
        | (refine c_split (by eq_refl) (fun hif => ?_) (fun hif => ?_))
      )
    all_goals refine hQ _ _ (ret1 rfl (by (first | exact v_tmp | exact v_one | exact v_agg)) ?_)
    rfl
theorem cutp0_pure (s : List UInt8) : Pure Tryd.prog 25 #[.string (B s), .string (B [45])] (.tuple #[.string (B (cutSign s).2), .bool (cutSign s).1]) := by
  have hp := hasp_pure s 45
  obtain ⟨b, hb⟩ : ∃ b, pre1 s 45 = b := ⟨_, rfl⟩
  rw [hb] at hp
  have hs : b = true → subS s ((([45] : List UInt8).length : Nat) : Int) s.length = some (cutSign s).2 := by
    rintro rfl
    cases s with
    | nil => cases hb
    | cons c r =>
      have hb := of_decide_eq_true hb
      injection hb with hb
      subst hb
      unfold subS; simp [cutSign]; omega
  have hc : (cutSign s).1 = b := by
    rw [← hb]
    cases s with
    | nil => rfl
    | cons c r =>
      by_cases h : c = 45
      · subst h; rfl
      · have : (c == 45) = false := by simpa using h
        simp [cutSign, pre1, this, h]
  have hn : b = false → (cutSign s).2 = s := by
    rintro rfl
    cases s with
    | nil => rfl
    | cons c r =>
      have h : ¬ c = 45 := by rintro rfl; cases hb
      have : (c == 45) = false := by simpa using h
      simp [cutSign, this]
  rw [hc]
  generalize (cutSign s).2 = r at *
  clear hb hc
  cases b with
  | true =>
    have hs' := hs rfl
    clear hn hs
    have tt : true = true := rfl; have ff : false = false := rfl; have nt : (!true) = false := rfl; have nf : (!false) = true := rfl
    refine pure_q Tryd.func25 rfl Tryd.ntmps25 rfl rfl (fun w0 Q hQ => ?_)
    repeat' (
      first
        | refine j_seq_k (fun N hN => ?_)
        | refine j_text ?_
        | refine j_block ?_
        | refine j_skip ?_
        | refine j_ret ?_
        | refine j_exit ?_
        | refine s_nil (show X _ _ _ _ _ from ?_)
        | (refine x_next hN ?_; clear hN N)
        | (refine x_then_ret ?_; clear hN N)
        | (refine x_then_exit ?_; clear hN N)
        | refine x_block ?_
        | refine x_block_ret ?_
        | refine x_block_hit ?_
        | refine x_block_miss (by eq_refl) ?_
        | refine k_skip (h := ?_)
        | refine k_skip0 (h := ?_)
        | refine k_fieldAddr (h := ?_)
        | refine k_load_one (h := ?_)
        | refine k_load_agg (h := ?_)
        | refine k_bin (h := ?_)
        | refine k_move (h := ?_)
        | refine k_assign (h := ?_)
        | refine k_extract (h := ?_)
        | refine k_call (hp := hp) (h := ?_)
        | (refine k_box (h := ?_); intro g)
        | (refine k_alloc (h := ?_); intro g)
        | refine k_store (h := ?_)
        | refine k_field_agg (h := ?_)
        | refine k_field_one (h := ?_)
        | refine k_build (h := ?_)
        | refine k_conv (h := ?_)
        | refine k_not (h := ?_)
        | refine k_eqb (h := ?_)
        | refine k_neb (h := ?_)
        | refine k_eqs (h := ?_)
        | refine k_nes (h := ?_)
        | refine k_pick_t (h := ?_)
        | refine k_pick_f (h := ?_)
        | refine k_nilCheck (h := ?_)
        | refine k_makeFunc (h := ?_)
        | refine k_shl (h := ?_)
        | refine k_shr (h := ?_)
        | refine k_neg (h := ?_)
        | refine k_index_arr (h := ?_)
        | refine k_len_slice (h := ?_)
        | refine k_quo (h := ?_)
        | refine k_rem (h := ?_)
        | (refine k_buildSlice (h := ?_); intro g)
        | refine k_indexAddr_arr (h := ?_)
        | refine c_true (h := ?_)
        | refine c_false (h := ?_)
        | refine k_len_str (h := ?_)
        | refine k_str_add (h := ?_)
        | refine k_str_eq (h := ?_)
        | refine k_str_ne (h := ?_)
        | refine k_index_str (h := ?_)
        | refine k_slice_hi (h := ?_)
        | refine k_slice_lo (h := ?_)
        | refine k_slice_lh (h := ?_)
        | refine k_slice_all (h := ?_)
        | refine k_max (h := ?_)
        | (refine s_ask (by eq_refl) (by eq_refl) (evO_eq (by eq_refl)) (fun hask => ?_) (fun hask => ?_))
        | (refine c_split (by eq_refl) (fun hif => ?_) (fun hif => ?_))
      )
    all_goals refine hQ _ _ (ret2 rfl (by (first | exact v_tmp | exact v_one | exact v_agg)) (by (first | exact v_tmp | exact v_one | exact v_agg)) ?_)
    rfl
  | false =>
    obtain rfl := hn rfl
    clear hs hn
    have tt : true = true := rfl; have ff : false = false := rfl; have nt : (!true) = false := rfl; have nf : (!false) = true := rfl
    refine pure_q Tryd.func25 rfl Tryd.ntmps25 rfl rfl (fun w0 Q hQ => ?_)
    repeat' (
      first
        | refine j_seq_k (fun N hN => ?_)
        | refine j_text ?_
        | refine j_block ?_
        | refine j_skip ?_
        | refine j_ret ?_
        | refine j_exit ?_
        | refine s_nil (show X _ _ _ _ _ from ?_)
        | (refine x_next hN ?_; clear hN N)
        | (refine x_then_ret ?_; clear hN N)
        | (refine x_then_exit ?_; clear hN N)
        | refine x_block ?_
        | refine x_block_ret ?_
        | refine x_block_hit ?_
        | refine x_block_miss (by eq_refl) ?_
        | refine k_skip (h := ?_)
        | refine k_skip0 (h := ?_)
        | refine k_fieldAddr (h := ?_)
        | refine k_load_one (h := ?_)
        | refine k_load_agg (h := ?_)
        | refine k_bin (h := ?_)
        | refine k_move (h := ?_)
        | refine k_assign (h := ?_)
        | refine k_extract (h := ?_)
        | refine k_call (hp := hp) (h := ?_)
        | (refine k_box (h := ?_); intro g)
        | (refine k_alloc (h := ?_); intro g)
        | refine k_store (h := ?_)
        | refine k_field_agg (h := ?_)
        | refine k_field_one (h := ?_)
        | refine k_build (h := ?_)
        | refine k_conv (h := ?_)
        | refine k_not (h := ?_)
        | refine k_eqb (h := ?_)
        | refine k_neb (h := ?_)
        | refine k_eqs (h := ?_)
        | refine k_nes (h := ?_)
        | refine k_pick_t (h := ?_)
        | refine k_pick_f (h := ?_)
        | refine k_nilCheck (h := ?_)
        | refine k_makeFunc (h := ?_)
        | refine k_shl (h := ?_)
        | refine k_shr (h := ?_)
        | refine k_neg (h := ?_)
        | refine k_index_arr (h := ?_)
        | refine k_len_slice (h := ?_)
        | refine k_quo (h := ?_)
        | refine k_rem (h := ?_)
        | (refine k_buildSlice (h := ?_); intro g)
        | refine k_indexAddr_arr (h := ?_)
        | refine c_true (h := ?_)
        | refine c_false (h := ?_)
        | refine k_len_str (h := ?_)
        | refine k_str_add (h := ?_)
        | refine k_str_eq (h := ?_)
        | refine k_str_ne (h := ?_)
        | refine k_index_str (h := ?_)
        | refine k_slice_hi (h := ?_)
        | refine k_slice_lo (h := ?_)
        | refine k_slice_lh (h := ?_)
        | refine k_slice_all (h := ?_)
        | refine k_max (h := ?_)
        | (refine s_ask (by eq_refl) (by eq_refl) (evO_eq (by eq_refl)) (fun hask => ?_) (fun hask => ?_))
        | (refine c_split (by eq_refl) (fun hif => ?_) (fun hif => ?_))
      )
    all_goals refine hQ _ _ (ret2 rfl (by (first | exact v_tmp | exact v_one | exact v_agg)) (by (first | exact v_tmp | exact v_one | exact v_agg)) ?_)
    rfl
theorem cutp_pure (s : List UInt8) : Pure Tryd.prog 14 #[.string (B s), .string (B [45])] (.tuple #[.string (B (cutSign s).2), .bool (cutSign s).1]) := by
  have hp := cutp0_pure s
  have tt : true = true := rfl; have ff : false = false := rfl; have nt : (!true) = false := rfl; have nf : (!false) = true := rfl
  refine pure_q Tryd.func14 rfl Tryd.ntmps14 rfl rfl (fun w0 Q hQ => ?_)
  repeat' (
    first
      | refine j_seq_k (fun N hN => ?_)
      | refine j_text ?_
      | refine j_block ?_
      | refine j_skip ?_
      | refine j_ret ?_
      | refine j_exit ?_
      | refine s_nil (show X _ _ _ _ _ from ?_)
      | (refine x_next hN ?_; clear hN N)
      | (refine x_then_ret ?_; clear hN N)
      | (refine x_then_exit ?_; clear hN N)
      | refine x_block ?_
      | refine x_block_ret ?_
      | refine x_block_hit ?_
      | refine x_block_miss (by eq_refl) ?_
      | refine k_skip (h := ?_)
      | refine k_skip0 (h := ?_)
      | refine k_fieldAddr (h := ?_)
      | refine k_load_one (h := ?_)
      | refine k_load_agg (h := ?_)
      | refine k_bin (h := ?_)
      | refine k_move (h := ?_)
      | refine k_assign (h := ?_)
      | refine k_extract (h := ?_)
      | refine k_call (hp := hp) (h := ?_)
      | (refine k_box (h := ?_); intro g)
      | (refine k_alloc (h := ?_); intro g)
      | refine k_store (h := ?_)
      | refine k_field_agg (h := ?_)
      | refine k_field_one (h := ?_)
      | refine k_build (h := ?_)
      | refine k_conv (h := ?_)
      | refine k_not (h := ?_)
      | refine k_eqb (h := ?_)
      | refine k_neb (h := ?_)
      | refine k_eqs (h := ?_)
      | refine k_nes (h := ?_)
      | refine k_pick_t (h := ?_)
      | refine k_pick_f (h := ?_)
      | refine k_nilCheck (h := ?_)
      | refine k_makeFunc (h := ?_)
      | refine k_shl (h := ?_)
      | refine k_shr (h := ?_)
      | refine k_neg (h := ?_)
      | refine k_index_arr (h := ?_)
      | refine k_len_slice (h := ?_)
      | refine k_quo (h := ?_)
      | refine k_rem (h := ?_)
      | (refine k_buildSlice (h := ?_); intro g)
      | refine k_indexAddr_arr (h := ?_)
      | refine c_true (h := ?_)
      | refine c_false (h := ?_)
      | refine k_len_str (h := ?_)
      | refine k_str_add (h := ?_)
      | refine k_str_eq (h := ?_)
      | refine k_str_ne (h := ?_)
      | refine k_index_str (h := ?_)
      | refine k_slice_hi (h := ?_)
      | refine k_slice_lo (h := ?_)
      | refine k_slice_lh (h := ?_)
      | refine k_slice_all (h := ?_)
      | refine k_max (h := ?_)
      | (refine s_ask (by eq_refl) (by eq_refl) (evO_eq (by eq_refl)) (fun hask => ?_) (fun hask => ?_))
      | (refine c_split (by eq_refl) (fun hif => ?_) (fun hif => ?_))
    )
  all_goals refine hQ _ _ (ret2 rfl (by (first | exact v_tmp | exact v_one | exact v_agg)) (by (first | exact v_tmp | exact v_one | exact v_agg)) ?_)
  rfl
theorem ix_pure (s : List UInt8) (p : UInt8) : Pure Tryd.prog 36 #[.string (B s), .string (B [p])] (.int .i64 (Go.Lib.indexByte s p)) := by
  have hp := ixb_pure s p
  have e1 : arith .eql .i64 ((([p] : List UInt8).length : Nat) : Int) 0 = some (.bool false) := rfl
  have e2 : arith .eql .i64 ((([p] : List UInt8).length : Nat) : Int) 1 = some (.bool true) := rfl
  have e3 : idxS [p] 0 = some (p.toNat : Int) := rfl
  obtain ⟨e, he⟩ : ∃ e, decide ([p] = s) = e := ⟨_, rfl⟩
  cases e with
  | true =>
    obtain rfl := of_decide_eq_true he
    have hz : Go.Lib.indexByte [p] p = 0 := by simp [Go.Lib.indexByte]
    rw [hz]
    clear hz
    have tt : true = true := rfl; have ff : false = false := rfl; have nt : (!true) = false := rfl; have nf : (!false) = true := rfl
    refine pure_q Tryd.func36 rfl Tryd.ntmps36 rfl rfl (fun w0 Q hQ => ?_)
    repeat' (
      first
        | refine j_seq_k (fun N hN => ?_)
        | refine j_text ?_
        | refine j_block ?_
        | refine j_skip ?_
        | refine j_ret ?_
        | refine j_exit ?_
        | refine s_nil (show X _ _ _ _ _ from ?_)
        | (refine x_next hN ?_; clear hN N)
        | (refine x_then_ret ?_; clear hN N)
        | (refine x_then_exit ?_; clear hN N)
        | refine x_block ?_
        | refine x_block_ret ?_
        | refine x_block_hit ?_
        | refine x_block_miss (by eq_refl) ?_
        | refine k_skip (h := ?_)
        | refine k_skip0 (h := ?_)
        | refine k_fieldAddr (h := ?_)
        | refine k_load_one (h := ?_)
        | refine k_load_agg (h := ?_)
        | refine k_bin (h := ?_)
        | refine k_move (h := ?_)
        | refine k_assign (h := ?_)
        | refine k_extract (h := ?_)
        | refine k_call (hp := hp) (h := ?_)
        | (refine k_box (h := ?_); intro g)
        | (refine k_alloc (h := ?_); intro g)
        | refine k_store (h := ?_)
        | refine k_field_agg (h := ?_)
        | refine k_field_one (h := ?_)
        | refine k_build (h := ?_)
        | refine k_conv (h := ?_)
        | refine k_not (h := ?_)
        | refine k_eqb (h := ?_)
        | refine k_neb (h := ?_)
        | refine k_eqs (h := ?_)
        | refine k_nes (h := ?_)
        | refine k_pick_t (h := ?_)
        | refine k_pick_f (h := ?_)
        | refine k_nilCheck (h := ?_)
        | refine k_makeFunc (h := ?_)
        | refine k_shl (h := ?_)
        | refine k_shr (h := ?_)
        | refine k_neg (h := ?_)
        | refine k_index_arr (h := ?_)
        | refine k_len_slice (h := ?_)
        | refine k_quo (h := ?_)
        | refine k_rem (h := ?_)
        | (refine k_buildSlice (h := ?_); intro g)
        | refine k_indexAddr_arr (h := ?_)
        | refine c_true (h := ?_)
        | refine c_false (h := ?_)
        | refine k_len_str (h := ?_)
        | refine k_str_add (h := ?_)
        | refine k_str_eq (h := ?_)
        | refine k_str_ne (h := ?_)
        | refine k_index_str (h := ?_)
        | refine k_slice_hi (h := ?_)
        | refine k_slice_lo (h := ?_)
        | refine k_slice_lh (h := ?_)
        | refine k_slice_all (h := ?_)
        | refine k_max (h := ?_)
        | (refine s_ask (by eq_refl) (by eq_refl) (evO_eq (by eq_refl)) (fun hask => ?_) (fun hask => ?_))
        | (refine c_split (by eq_refl) (fun hif => ?_) (fun hif => ?_))
      )
    all_goals refine hQ _ _ (ret1 rfl (by (first | exact v_tmp | exact v_one | exact v_agg)) ?_)
    rfl
  | false =>
    have tt : true = true := rfl; have ff : false = false := rfl; have nt : (!true) = false := rfl; have nf : (!false) = true := rfl
    refine pure_q Tryd.func36 rfl Tryd.ntmps36 rfl rfl (fun w0 Q hQ => ?_)
    repeat' (
      first
        | refine j_seq_k (fun N hN => ?_)
        | refine j_text ?_
        | refine j_block ?_
        | refine j_skip ?_
        | refine j_ret ?_
        | refine j_exit ?_
        | refine s_nil (show X _ _ _ _ _ from ?_)
        | (refine x_next hN ?_; clear hN N)
        | (refine x_then_ret ?_; clear hN N)
        | (refine x_then_exit ?_; clear hN N)
        | refine x_block ?_
        | refine x_block_ret ?_
        | refine x_block_hit ?_
        | refine x_block_miss (by eq_refl) ?_
        | refine k_skip (h := ?_)
        | refine k_skip0 (h := ?_)
        | refine k_fieldAddr (h := ?_)
        | refine k_load_one (h := ?_)
        | refine k_load_agg (h := ?_)
        | refine k_bin (h := ?_)
        | refine k_move (h := ?_)
        | refine k_assign (h := ?_)
        | refine k_extract (h := ?_)
        | refine k_call (hp := hp) (h := ?_)
        | (refine k_box (h := ?_); intro g)
        | (refine k_alloc (h := ?_); intro g)
        | refine k_store (h := ?_)
        | refine k_field_agg (h := ?_)
        | refine k_field_one (h := ?_)
        | refine k_build (h := ?_)
        | refine k_conv (h := ?_)
        | refine k_not (h := ?_)
        | refine k_eqb (h := ?_)
        | refine k_neb (h := ?_)
        | refine k_eqs (h := ?_)
        | refine k_nes (h := ?_)
        | refine k_pick_t (h := ?_)
        | refine k_pick_f (h := ?_)
        | refine k_nilCheck (h := ?_)
        | refine k_makeFunc (h := ?_)
        | refine k_shl (h := ?_)
        | refine k_shr (h := ?_)
        | refine k_neg (h := ?_)
        | refine k_index_arr (h := ?_)
        | refine k_len_slice (h := ?_)
        | refine k_quo (h := ?_)
        | refine k_rem (h := ?_)
        | (refine k_buildSlice (h := ?_); intro g)
        | refine k_indexAddr_arr (h := ?_)
        | refine c_true (h := ?_)
        | refine c_false (h := ?_)
        | refine k_len_str (h := ?_)
        | refine k_str_add (h := ?_)
        | refine k_str_eq (h := ?_)
        | refine k_str_ne (h := ?_)
        | refine k_index_str (h := ?_)
        | refine k_slice_hi (h := ?_)
        | refine k_slice_lo (h := ?_)
        | refine k_slice_lh (h := ?_)
        | refine k_slice_all (h := ?_)
        | refine k_max (h := ?_)
        | (refine s_ask (by eq_refl) (by eq_refl) (evO_eq (by eq_refl)) (fun hask => ?_) (fun hask => ?_))
        | (refine c_split (by eq_refl) (fun hif => ?_) (fun hif => ?_))
      )
    all_goals refine hQ _ _ (ret1 rfl (by (first | exact v_tmp | exact v_one | exact v_agg)) ?_)
    rfl
theorem ix_cut (s : List UInt8) : (Go.Lib.indexByte s 46 = -1 ∧ cutDot s = (s, [])) ∨ ∃ i : Nat, Go.Lib.indexByte s 46 = (i : Int) ∧ i < s.length ∧ cutDot s = (s.take i, s.drop (i + 1)) := by
  induction s with
  | nil => exact .inl ⟨rfl, rfl⟩
  | cons c s ih =>
    by_cases h : (c == 46) = true
    · exact .inr ⟨0, by simp [Go.Lib.indexByte, h], by simp, by simp [cutDot, h]⟩
    · rcases ih with ⟨h1, h2⟩ | ⟨i, h1, h2, h3⟩
      · exact .inl ⟨by simp [Go.Lib.indexByte, h, h1], by simp [cutDot, h, h2]⟩
      · refine .inr ⟨i + 1, ?_, by simpa using h2, by simp [cutDot, h, h3]⟩
        have : ((i : Int) == -1) = false := by rw [beq_eq_false_iff_ne]; omega
        simp [Go.Lib.indexByte, h, h1, this]
theorem cut0_pure (s : List UInt8) (hs : s.length ≤ 9223372036854775806) : ∃ b, Pure Tryd.prog 26 #[.string (B s), .string (B [46])] (.tuple #[.string (B (cutDot s).1), .string (B (cutDot s).2), .bool b]) := by
  have hp := ix_pure s 46
  rcases ix_cut s with ⟨h1, h2⟩ | ⟨i, h1, h2, h3⟩
  · refine ⟨false, ?_⟩
    rw [h2]
    rw [h1] at hp
    have e0 : arith .geq .i64 (-1) 0 = some (.bool false) := rfl
    have tt : true = true := rfl; have ff : false = false := rfl; have nt : (!true) = false := rfl; have nf : (!false) = true := rfl
    refine pure_q Tryd.func26 rfl Tryd.ntmps26 rfl rfl (fun w0 Q hQ => ?_)
    repeat' (
      first
        | refine j_seq_k (fun N hN => ?_)
        | refine j_text ?_
        | refine j_draw (id := 3) [] (by kernel_rfl) (by kernel_rfl) ?_
        | refine j_block ?_
        | refine j_skip ?_
        | refine j_ret ?_
        | refine j_exit ?_
        | refine s_nil (show X _ _ _ _ _ from ?_)
        | (refine x_next hN ?_; clear hN N)
        | (refine x_then_ret ?_; clear hN N)
        | (refine x_then_exit ?_; clear hN N)
        | refine x_block ?_
        | refine x_block_ret ?_
        | refine x_block_hit ?_
        | refine x_block_miss (by eq_refl) ?_
        | refine k_skip (h := ?_)
        | refine k_skip0 (h := ?_)
        | refine k_fieldAddr (h := ?_)
        | refine k_load_one (h := ?_)
        | refine k_load_agg (h := ?_)
        | refine k_bin (h := ?_)
        | refine k_move (h := ?_)
        | refine k_assign (h := ?_)
        | refine k_extract (h := ?_)
        | refine k_call (hp := hp) (h := ?_)
        | (refine k_box (h := ?_); intro g)
        | (refine k_alloc (h := ?_); intro g)
        | refine k_store (h := ?_)
        | refine k_field_agg (h := ?_)
        | refine k_field_one (h := ?_)
        | refine k_build (h := ?_)
        | refine k_conv (h := ?_)
        | refine k_not (h := ?_)
        | refine k_eqb (h := ?_)
        | refine k_neb (h := ?_)
        | refine k_eqs (h := ?_)
        | refine k_nes (h := ?_)
        | refine k_pick_t (h := ?_)
        | refine k_pick_f (h := ?_)
        | refine k_nilCheck (h := ?_)
        | refine k_makeFunc (h := ?_)
        | refine k_shl (h := ?_)
        | refine k_shr (h := ?_)
        | refine k_neg (h := ?_)
        | refine k_index_arr (h := ?_)
        | refine k_len_slice (h := ?_)
        | refine k_quo (h := ?_)
        | refine k_rem (h := ?_)
        | (refine k_buildSlice (h := ?_); intro g)
        | refine k_indexAddr_arr (h := ?_)
        | refine c_true (h := ?_)
        | refine c_false (h := ?_)
        | refine k_len_str (h := ?_)
        | refine k_str_add (h := ?_)
        | refine k_str_eq (h := ?_)
        | refine k_str_ne (h := ?_)
        | refine k_index_str (h := ?_)
        | refine k_slice_hi (h := ?_)
        | refine k_slice_lo (h := ?_)
        | refine k_slice_lh (h := ?_)
        | refine k_slice_all (h := ?_)
        | refine k_max (h := ?_)
        | (refine s_ask (by eq_refl) (by eq_refl) (evO_eq (by eq_refl)) (fun hask => ?_) (fun hask => ?_))
        | (refine c_split (by eq_refl) (fun hif => ?_) (fun hif => ?_))
      )
    all_goals refine hQ _ _ (ret3 rfl (by (first | exact v_tmp | exact v_one | exact v_agg)) (by (first | exact v_tmp | exact v_one | exact v_agg)) (by (first | exact v_tmp | exact v_one | exact v_agg)) ?_)
    rfl
  · refine ⟨true, ?_⟩
    rw [h3]
    rw [h1] at hp
    have e1 : arith .geq .i64 (i : Int) 0 = some (.bool true) := by simp [arith]
    have e2 : subS s 0 (i : Int) = some (s.take i) := by unfold subS; simp; omega
    have e3 : arith .add .i64 (i : Int) ((([46] : List UInt8).length : Nat) : Int) = some (.int .i64 ((i + 1 : Nat) : Int)) := by
      simp only [arith, IntKind.wrap_i64, Option.some.injEq, Value.int.injEq, true_and, List.length_singleton]; omega
    have e4 : subS s ((i + 1 : Nat) : Int) s.length = some (s.drop (i + 1)) := by
      unfold subS; rw [if_pos ⟨by omega, by omega, by omega⟩]; simp
    clear h1 h3
    have tt : true = true := rfl; have ff : false = false := rfl; have nt : (!true) = false := rfl; have nf : (!false) = true := rfl
    refine pure_q Tryd.func26 rfl Tryd.ntmps26 rfl rfl (fun w0 Q hQ => ?_)
    repeat' (
      first
        | refine j_seq_k (fun N hN => ?_)
        | refine j_text ?_
        | refine j_draw (id := 3) [] (by kernel_rfl) (by kernel_rfl) ?_
        | refine j_block ?_
        | refine j_skip ?_
        | refine j_ret ?_
        | refine j_exit ?_
        | refine s_nil (show X _ _ _ _ _ from ?_)
        | (refine x_next hN ?_; clear hN N)
        | (refine x_then_ret ?_; clear hN N)
        | (refine x_then_exit ?_; clear hN N)
        | refine x_block ?_
        | refine x_block_ret ?_
        | refine x_block_hit ?_
        | refine x_block_miss (by eq_refl) ?_
        | refine k_skip (h := ?_)
        | refine k_skip0 (h := ?_)
        | refine k_fieldAddr (h := ?_)
        | refine k_load_one (h := ?_)
        | refine k_load_agg (h := ?_)
        | refine k_bin (h := ?_)
        | refine k_move (h := ?_)
        | refine k_assign (h := ?_)
        | refine k_extract (h := ?_)
        | refine k_call (hp := hp) (h := ?_)
        | (refine k_box (h := ?_); intro g)
        | (refine k_alloc (h := ?_); intro g)
        | refine k_store (h := ?_)
        | refine k_field_agg (h := ?_)
        | refine k_field_one (h := ?_)
        | refine k_build (h := ?_)
        | refine k_conv (h := ?_)
        | refine k_not (h := ?_)
        | refine k_eqb (h := ?_)
        | refine k_neb (h := ?_)
        | refine k_eqs (h := ?_)
        | refine k_nes (h := ?_)
        | refine k_pick_t (h := ?_)
        | refine k_pick_f (h := ?_)
        | refine k_nilCheck (h := ?_)
        | refine k_makeFunc (h := ?_)
        | refine k_shl (h := ?_)
        | refine k_shr (h := ?_)
        | refine k_neg (h := ?_)
        | refine k_index_arr (h := ?_)
        | refine k_len_slice (h := ?_)
        | refine k_quo (h := ?_)
        | refine k_rem (h := ?_)
        | (refine k_buildSlice (h := ?_); intro g)
        | refine k_indexAddr_arr (h := ?_)
        | refine c_true (h := ?_)
        | refine c_false (h := ?_)
        | refine k_len_str (h := ?_)
        | refine k_str_add (h := ?_)
        | refine k_str_eq (h := ?_)
        | refine k_str_ne (h := ?_)
        | refine k_index_str (h := ?_)
        | refine k_slice_hi (h := ?_)
        | refine k_slice_lo (h := ?_)
        | refine k_slice_lh (h := ?_)
        | refine k_slice_all (h := ?_)
        | refine k_max (h := ?_)
        | (refine s_ask (by eq_refl) (by eq_refl) (evO_eq (by eq_refl)) (fun hask => ?_) (fun hask => ?_))
        | (refine c_split (by eq_refl) (fun hif => ?_) (fun hif => ?_))
      )
    all_goals refine hQ _ _ (ret3 rfl (by (first | exact v_tmp | exact v_one | exact v_agg)) (by (first | exact v_tmp | exact v_one | exact v_agg)) (by (first | exact v_tmp | exact v_one | exact v_agg)) ?_)
    rfl
theorem cut_pure (s : List UInt8) (hs : s.length ≤ 9223372036854775806) : ∃ b, Pure Tryd.prog 15 #[.string (B s), .string (B [46])] (.tuple #[.string (B (cutDot s).1), .string (B (cutDot s).2), .bool b]) := by
  obtain ⟨b, hp⟩ := cut0_pure s hs
  refine ⟨b, ?_⟩
  have tt : true = true := rfl; have ff : false = false := rfl; have nt : (!true) = false := rfl; have nf : (!false) = true := rfl
  refine pure_q Tryd.func15 rfl Tryd.ntmps15 rfl rfl (fun w0 Q hQ => ?_)
  repeat' (
    first
      | refine j_seq_k (fun N hN => ?_)
      | refine j_text ?_
      | refine j_block ?_
      | refine j_skip ?_
      | refine j_ret ?_
      | refine j_exit ?_
      | refine s_nil (show X _ _ _ _ _ from ?_)
      | (refine x_next hN ?_; clear hN N)
      | (refine x_then_ret ?_; clear hN N)
      | (refine x_then_exit ?_; clear hN N)
      | refine x_block ?_
      | refine x_block_ret ?_
      | refine x_block_hit ?_
      | refine x_block_miss (by eq_refl) ?_
      | refine k_skip (h := ?_)
      | refine k_skip0 (h := ?_)
      | refine k_fieldAddr (h := ?_)
      | refine k_load_one (h := ?_)
      | refine k_load_agg (h := ?_)
      | refine k_bin (h := ?_)
      | refine k_move (h := ?_)
      | refine k_assign (h := ?_)
      | refine k_extract (h := ?_)
      | refine k_call (hp := hp) (h := ?_)
      | (refine k_box (h := ?_); intro g)
      | (refine k_alloc (h := ?_); intro g)
      | refine k_store (h := ?_)
      | refine k_field_agg (h := ?_)
      | refine k_field_one (h := ?_)
      | refine k_build (h := ?_)
      | refine k_conv (h := ?_)
      | refine k_not (h := ?_)
      | refine k_eqb (h := ?_)
      | refine k_neb (h := ?_)
      | refine k_eqs (h := ?_)
      | refine k_nes (h := ?_)
      | refine k_pick_t (h := ?_)
      | refine k_pick_f (h := ?_)
      | refine k_nilCheck (h := ?_)
      | refine k_makeFunc (h := ?_)
      | refine k_shl (h := ?_)
      | refine k_shr (h := ?_)
      | refine k_neg (h := ?_)
      | refine k_index_arr (h := ?_)
      | refine k_len_slice (h := ?_)
      | refine k_quo (h := ?_)
      | refine k_rem (h := ?_)
      | (refine k_buildSlice (h := ?_); intro g)
      | refine k_indexAddr_arr (h := ?_)
      | refine c_true (h := ?_)
      | refine c_false (h := ?_)
      | refine k_len_str (h := ?_)
      | refine k_str_add (h := ?_)
      | refine k_str_eq (h := ?_)
      | refine k_str_ne (h := ?_)
      | refine k_index_str (h := ?_)
      | refine k_slice_hi (h := ?_)
      | refine k_slice_lo (h := ?_)
      | refine k_slice_lh (h := ?_)
      | refine k_slice_all (h := ?_)
      | refine k_max (h := ?_)
      | (refine s_ask (by eq_refl) (by eq_refl) (evO_eq (by eq_refl)) (fun hask => ?_) (fun hask => ?_))
      | (refine c_split (by eq_refl) (fun hif => ?_) (fun hif => ?_))
    )
  all_goals refine hQ _ _ (ret3 rfl (by (first | exact v_tmp | exact v_one | exact v_agg)) (by (first | exact v_tmp | exact v_one | exact v_agg)) (by (first | exact v_tmp | exact v_one | exact v_agg)) ?_)
  rfl
theorem trimb_pure (s : List UInt8) : Pure Tryd.prog 30 #[.string (B s), .int .u8 48] (.string (B (s.dropWhile (· == 48)))) := by
  have tt : true = true := rfl; have ff : false = false := rfl; have nt : (!true) = false := rfl; have nf : (!false) = true := rfl
  refine pure_q Tryd.func30 rfl Tryd.ntmps30 rfl rfl (fun w0 Q hQ => ?_)
  repeat (
    first
      | refine j_seq_k (fun N hN => ?_)
      | refine j_text ?_
      | refine j_block ?_
      | refine j_skip ?_
      | refine j_ret ?_
      | refine j_exit ?_
      | refine s_nil (show X _ _ _ _ _ from ?_)
      | (refine x_next hN ?_; clear hN N)
      | (refine x_then_ret ?_; clear hN N)
      | (refine x_then_exit ?_; clear hN N)
      | refine x_block ?_
      | refine x_block_ret ?_
      | refine x_block_hit ?_
      | refine x_block_miss (by eq_refl) ?_
      | refine k_skip (h := ?_)
      | refine k_skip0 (h := ?_)
      | refine k_fieldAddr (h := ?_)
      | refine k_load_one (h := ?_)
      | refine k_load_agg (h := ?_)
      | refine k_bin (h := ?_)
      | refine k_move (h := ?_)
      | refine k_assign (h := ?_)
      | refine k_extract (h := ?_)
      | (refine k_box (h := ?_); intro g)
      | (refine k_alloc (h := ?_); intro g)
      | refine k_store (h := ?_)
      | refine k_field_agg (h := ?_)
      | refine k_field_one (h := ?_)
      | refine k_build (h := ?_)
      | refine k_conv (h := ?_)
      | refine k_not (h := ?_)
      | refine k_eqb (h := ?_)
      | refine k_neb (h := ?_)
      | refine k_eqs (h := ?_)
      | refine k_nes (h := ?_)
      | refine k_pick_t (h := ?_)
      | refine k_pick_f (h := ?_)
      | refine k_nilCheck (h := ?_)
      | refine k_makeFunc (h := ?_)
      | refine k_shl (h := ?_)
      | refine k_shr (h := ?_)
      | refine k_neg (h := ?_)
      | refine k_index_arr (h := ?_)
      | refine k_len_slice (h := ?_)
      | refine k_quo (h := ?_)
      | refine k_rem (h := ?_)
      | (refine k_buildSlice (h := ?_); intro g)
      | refine k_indexAddr_arr (h := ?_)
      | refine c_true (h := ?_)
      | refine c_false (h := ?_)
      | refine k_len_str (h := ?_)
      | refine k_str_add (h := ?_)
      | refine k_str_eq (h := ?_)
      | refine k_str_ne (h := ?_)
      | refine k_index_str (h := ?_)
      | refine k_slice_hi (h := ?_)
      | refine k_slice_lo (h := ?_)
      | refine k_slice_lh (h := ?_)
      | refine k_slice_all (h := ?_)
      | refine k_max (h := ?_)
      | (refine s_ask (by eq_refl) (by eq_refl) (evO_eq (by eq_refl)) (fun hask => ?_) (fun hask => ?_))
      | (refine c_split (by eq_refl) (fun hif => ?_) (fun hif => ?_))
    )
  refine j_rem 1 rfl (j_rem 0 rfl ?_)
  refine j_loop_k (fun m l L => ∃ (r : List UInt8) (rest : List (Nat × Value)), r.length = m ∧ r.dropWhile (· == 48) = s.dropWhile (· == 48) ∧ l = (0, .string (B r)) :: (1, .int .u8 48) :: rest ∧ L = []) s.length ?_ ?_
  · exact ⟨s, _, rfl, rfl, rfl, rfl⟩
  rintro m l L N ⟨r, rest, hm, hr, rfl, rfl⟩ hN
  cases r with
  | nil =>
    have e1 : arith .gtr .i64 ((([] : List UInt8).length : Nat) : Int) 0 = some (.bool false) := rfl
    rw [← hr] at hQ
    repeat (
      first
        | refine j_seq_k (fun N hN => ?_)
        | refine j_text ?_
        | refine j_block ?_
        | refine j_skip ?_
        | refine j_ret ?_
        | refine j_exit ?_
        | refine s_nil (show X _ _ _ _ _ from ?_)
        | (refine x_next hN ?_; clear hN N)
        | (refine x_then_ret ?_; clear hN N)
        | (refine x_then_exit ?_; clear hN N)
        | refine x_block ?_
        | refine x_block_ret ?_
        | refine x_block_hit ?_
        | refine x_block_miss (by eq_refl) ?_
        | refine k_skip (h := ?_)
        | refine k_skip0 (h := ?_)
        | refine k_fieldAddr (h := ?_)
        | refine k_load_one (h := ?_)
        | refine k_load_agg (h := ?_)
        | refine k_bin (h := ?_)
        | refine k_move (h := ?_)
        | refine k_assign (h := ?_)
        | refine k_extract (h := ?_)
        | (refine k_box (h := ?_); intro g)
        | (refine k_alloc (h := ?_); intro g)
        | refine k_store (h := ?_)
        | refine k_field_agg (h := ?_)
        | refine k_field_one (h := ?_)
        | refine k_build (h := ?_)
        | refine k_conv (h := ?_)
        | refine k_not (h := ?_)
        | refine k_eqb (h := ?_)
        | refine k_neb (h := ?_)
        | refine k_eqs (h := ?_)
        | refine k_nes (h := ?_)
        | refine k_pick_t (h := ?_)
        | refine k_pick_f (h := ?_)
        | refine k_nilCheck (h := ?_)
        | refine k_makeFunc (h := ?_)
        | refine k_shl (h := ?_)
        | refine k_shr (h := ?_)
        | refine k_neg (h := ?_)
        | refine k_index_arr (h := ?_)
        | refine k_len_slice (h := ?_)
        | refine k_quo (h := ?_)
        | refine k_rem (h := ?_)
        | (refine k_buildSlice (h := ?_); intro g)
        | refine k_indexAddr_arr (h := ?_)
        | refine c_true (h := ?_)
        | refine c_false (h := ?_)
        | refine k_len_str (h := ?_)
        | refine k_str_add (h := ?_)
        | refine k_str_eq (h := ?_)
        | refine k_str_ne (h := ?_)
        | refine k_index_str (h := ?_)
        | refine k_slice_hi (h := ?_)
        | refine k_slice_lo (h := ?_)
        | refine k_slice_lh (h := ?_)
        | refine k_slice_all (h := ?_)
        | refine k_max (h := ?_)
        | (refine s_ask (by eq_refl) (by eq_refl) (evO_eq (by eq_refl)) (fun hask => ?_) (fun hask => ?_))
        | (refine c_split (by eq_refl) (fun hif => ?_) (fun hif => ?_))
      )
    refine hQ _ _ (ret1 rfl (by (first | exact v_tmp | exact v_one | exact v_agg)) ?_)
    rfl
  | cons c r =>
    have e1 : arith .gtr .i64 (((c :: r : List UInt8).length : Nat) : Int) 0 = some (.bool true) := by
      simp only [arith, Option.some.injEq, Value.bool.injEq, decide_eq_true_eq, List.length_cons]; omega
    have e2 : idxS (c :: r) 0 = some (c.toNat : Int) := rfl
    have e4 : subS (c :: r) 1 (c :: r).length = some r := by unfold subS; simp; omega
    by_cases h : c = 48
    · subst h
      have e3 : arith .eql .u8 (((48 : UInt8).toNat : Nat) : Int) 48 = some (.bool true) := rfl
      repeat (
        first
          | refine j_seq_k (fun N hN => ?_)
          | refine j_text ?_
          | refine j_block ?_
          | refine j_skip ?_
          | refine j_ret ?_
          | refine j_exit ?_
          | refine s_nil (show X _ _ _ _ _ from ?_)
          | (refine x_next hN ?_; clear hN N)
          | (refine x_then_ret ?_; clear hN N)
          | (refine x_then_exit ?_; clear hN N)
          | refine x_block ?_
          | refine x_block_ret ?_
          | refine x_block_hit ?_
          | refine x_block_miss (by eq_refl) ?_
          | refine k_skip (h := ?_)
          | refine k_skip0 (h := ?_)
          | refine k_fieldAddr (h := ?_)
          | refine k_load_one (h := ?_)
          | refine k_load_agg (h := ?_)
          | refine k_bin (h := ?_)
          | refine k_move (h := ?_)
          | refine k_assign (h := ?_)
          | refine k_extract (h := ?_)
          | (refine k_box (h := ?_); intro g)
          | (refine k_alloc (h := ?_); intro g)
          | refine k_store (h := ?_)
          | refine k_field_agg (h := ?_)
          | refine k_field_one (h := ?_)
          | refine k_build (h := ?_)
          | refine k_conv (h := ?_)
          | refine k_not (h := ?_)
          | refine k_eqb (h := ?_)
          | refine k_neb (h := ?_)
          | refine k_eqs (h := ?_)
          | refine k_nes (h := ?_)
          | refine k_pick_t (h := ?_)
          | refine k_pick_f (h := ?_)
          | refine k_nilCheck (h := ?_)
          | refine k_makeFunc (h := ?_)
          | refine k_shl (h := ?_)
          | refine k_shr (h := ?_)
          | refine k_neg (h := ?_)
          | refine k_index_arr (h := ?_)
          | refine k_len_slice (h := ?_)
          | refine k_quo (h := ?_)
          | refine k_rem (h := ?_)
          | (refine k_buildSlice (h := ?_); intro g)
          | refine k_indexAddr_arr (h := ?_)
          | refine c_true (h := ?_)
          | refine c_false (h := ?_)
          | refine k_len_str (h := ?_)
          | refine k_str_add (h := ?_)
          | refine k_str_eq (h := ?_)
          | refine k_str_ne (h := ?_)
          | refine k_index_str (h := ?_)
          | refine k_slice_hi (h := ?_)
          | refine k_slice_lo (h := ?_)
          | refine k_slice_lh (h := ?_)
          | refine k_slice_all (h := ?_)
          | refine k_max (h := ?_)
          | (refine s_ask (by eq_refl) (by eq_refl) (evO_eq (by eq_refl)) (fun hask => ?_) (fun hask => ?_))
          | (refine c_split (by eq_refl) (fun hif => ?_) (fun hif => ?_))
        )
      refine x_rem 1 rfl (x_rem 0 rfl ?_)
      refine hN (m - 1) _ _ (by simp at hm; omega) ⟨r, _, by simp at hm; omega, ?_, rfl, rfl⟩
      rw [← hr]; rfl
    · have h' : (c == 48) = false := by simpa using h
      have e3 : arith .eql .u8 ((c.toNat : Nat) : Int) 48 = some (.bool false) := by
        simp only [arith, Option.some.injEq, Value.bool.injEq, beq_eq_false_iff_ne]
        intro q; exact h (UInt8.toNat_inj.1 (show c.toNat = 48 by omega))
      have hd : (c :: r).dropWhile (· == 48) = c :: r := by rw [List.dropWhile_cons, h']; rfl
      rw [← hr, hd] at hQ
      repeat (
        first
          | refine j_seq_k (fun N hN => ?_)
          | refine j_text ?_
          | refine j_block ?_
          | refine j_skip ?_
          | refine j_ret ?_
          | refine j_exit ?_
          | refine s_nil (show X _ _ _ _ _ from ?_)
          | (refine x_next hN ?_; clear hN N)
          | (refine x_then_ret ?_; clear hN N)
          | (refine x_then_exit ?_; clear hN N)
          | refine x_block ?_
          | refine x_block_ret ?_
          | refine x_block_hit ?_
          | refine x_block_miss (by eq_refl) ?_
          | refine k_skip (h := ?_)
          | refine k_skip0 (h := ?_)
          | refine k_fieldAddr (h := ?_)
          | refine k_load_one (h := ?_)
          | refine k_load_agg (h := ?_)
          | refine k_bin (h := ?_)
          | refine k_move (h := ?_)
          | refine k_assign (h := ?_)
          | refine k_extract (h := ?_)
          | (refine k_box (h := ?_); intro g)
          | (refine k_alloc (h := ?_); intro g)
          | refine k_store (h := ?_)
          | refine k_field_agg (h := ?_)
          | refine k_field_one (h := ?_)
          | refine k_build (h := ?_)
          | refine k_conv (h := ?_)
          | refine k_not (h := ?_)
          | refine k_eqb (h := ?_)
          | refine k_neb (h := ?_)
          | refine k_eqs (h := ?_)
          | refine k_nes (h := ?_)
          | refine k_pick_t (h := ?_)
          | refine k_pick_f (h := ?_)
          | refine k_nilCheck (h := ?_)
          | refine k_makeFunc (h := ?_)
          | refine k_shl (h := ?_)
          | refine k_shr (h := ?_)
          | refine k_neg (h := ?_)
          | refine k_index_arr (h := ?_)
          | refine k_len_slice (h := ?_)
          | refine k_quo (h := ?_)
          | refine k_rem (h := ?_)
          | (refine k_buildSlice (h := ?_); intro g)
          | refine k_indexAddr_arr (h := ?_)
          | refine c_true (h := ?_)
          | refine c_false (h := ?_)
          | refine k_len_str (h := ?_)
          | refine k_str_add (h := ?_)
          | refine k_str_eq (h := ?_)
          | refine k_str_ne (h := ?_)
          | refine k_index_str (h := ?_)
          | refine k_slice_hi (h := ?_)
          | refine k_slice_lo (h := ?_)
          | refine k_slice_lh (h := ?_)
          | refine k_slice_all (h := ?_)
          | refine k_max (h := ?_)
          | (refine s_ask (by eq_refl) (by eq_refl) (evO_eq (by eq_refl)) (fun hask => ?_) (fun hask => ?_))
          | (refine c_split (by eq_refl) (fun hif => ?_) (fun hif => ?_))
        )
      refine hQ _ _ (ret1 rfl (by (first | exact v_tmp | exact v_one | exact v_agg)) ?_)
      rfl
theorem trim_pure (s : List UInt8) : Pure Tryd.prog 20 #[.string (B s), .string (B [48])] (.string (B (s.dropWhile (· == 48)))) := by
  have hp := trimb_pure s
  obtain ⟨e, he⟩ : ∃ e, decide (s = []) = e := ⟨_, rfl⟩
  have h2 : decide (([48] : List UInt8) = []) = false := rfl
  have e1 : arith .eql .i64 ((([48] : List UInt8).length : Nat) : Int) 1 = some (.bool true) := rfl
  have e2 : idxS [48] 0 = some 48 := rfl
  have e3 : arith .lss .u8 48 128 = some (.bool true) := rfl
  have tt : true = true := rfl; have ff : false = false := rfl; have nt : (!true) = false := rfl; have nf : (!false) = true := rfl
  cases e with
  | true =>
    refine pure_q Tryd.func20 rfl Tryd.ntmps20 rfl rfl (fun w0 Q hQ => ?_)
    repeat (
      first
        | refine j_seq_k (fun N hN => ?_)
        | refine j_text ?_
        | refine j_block ?_
        | refine j_skip ?_
        | refine j_ret ?_
        | refine j_exit ?_
        | refine s_nil (show X _ _ _ _ _ from ?_)
        | (refine x_next hN ?_; clear hN N)
        | (refine x_then_ret ?_; clear hN N)
        | (refine x_then_exit ?_; clear hN N)
        | refine x_block ?_
        | refine x_block_ret ?_
        | refine x_block_hit ?_
        | refine x_block_miss (by eq_refl) ?_
        | refine k_skip (h := ?_)
        | refine k_skip0 (h := ?_)
        | refine k_fieldAddr (h := ?_)
        | refine k_load_one (h := ?_)
        | refine k_load_agg (h := ?_)
        | refine k_bin (h := ?_)
        | refine k_move (h := ?_)
        | refine k_assign (h := ?_)
        | refine k_extract (h := ?_)
        | refine k_call (hp := hp) (h := ?_)
        | (refine k_box (h := ?_); intro g)
        | (refine k_alloc (h := ?_); intro g)
        | refine k_store (h := ?_)
        | refine k_field_agg (h := ?_)
        | refine k_field_one (h := ?_)
        | refine k_build (h := ?_)
        | refine k_conv (h := ?_)
        | refine k_not (h := ?_)
        | refine k_eqb (h := ?_)
        | refine k_neb (h := ?_)
        | refine k_eqs (h := ?_)
        | refine k_nes (h := ?_)
        | refine k_pick_t (h := ?_)
        | refine k_pick_f (h := ?_)
        | refine k_nilCheck (h := ?_)
        | refine k_makeFunc (h := ?_)
        | refine k_shl (h := ?_)
        | refine k_shr (h := ?_)
        | refine k_neg (h := ?_)
        | refine k_index_arr (h := ?_)
        | refine k_len_slice (h := ?_)
        | refine k_quo (h := ?_)
        | refine k_rem (h := ?_)
        | (refine k_buildSlice (h := ?_); intro g)
        | refine k_indexAddr_arr (h := ?_)
        | refine c_true (h := ?_)
        | refine c_false (h := ?_)
        | refine k_len_str (h := ?_)
        | refine k_str_add (h := ?_)
        | refine k_str_eq (h := ?_)
        | refine k_str_ne (h := ?_)
        | refine k_index_str (h := ?_)
        | refine k_slice_hi (h := ?_)
        | refine k_slice_lo (h := ?_)
        | refine k_slice_lh (h := ?_)
        | refine k_slice_all (h := ?_)
        | refine k_max (h := ?_)
        | (refine s_ask (by eq_refl) (by eq_refl) (evO_eq (by eq_refl)) (fun hask => ?_) (fun hask => ?_))
        | (refine c_split (by eq_refl) (fun hif => ?_) (fun hif => ?_))
      )
    refine hQ _ _ (ret1 rfl (by (first | exact v_tmp | exact v_one | exact v_agg)) ?_)
    rw [of_decide_eq_true he]; rfl
  | false =>
    refine pure_q Tryd.func20 rfl Tryd.ntmps20 rfl rfl (fun w0 Q hQ => ?_)
    repeat (
      first
        | refine j_seq_k (fun N hN => ?_)
        | refine j_text ?_
        | refine j_block ?_
        | refine j_skip ?_
        | refine j_ret ?_
        | refine j_exit ?_
        | refine s_nil (show X _ _ _ _ _ from ?_)
        | (refine x_next hN ?_; clear hN N)
        | (refine x_then_ret ?_; clear hN N)
        | (refine x_then_exit ?_; clear hN N)
        | refine x_block ?_
        | refine x_block_ret ?_
        | refine x_block_hit ?_
        | refine x_block_miss (by eq_refl) ?_
        | refine k_skip (h := ?_)
        | refine k_skip0 (h := ?_)
        | refine k_fieldAddr (h := ?_)
        | refine k_load_one (h := ?_)
        | refine k_load_agg (h := ?_)
        | refine k_bin (h := ?_)
        | refine k_move (h := ?_)
        | refine k_assign (h := ?_)
        | refine k_extract (h := ?_)
        | refine k_call (hp := hp) (h := ?_)
        | (refine k_box (h := ?_); intro g)
        | (refine k_alloc (h := ?_); intro g)
        | refine k_store (h := ?_)
        | refine k_field_agg (h := ?_)
        | refine k_field_one (h := ?_)
        | refine k_build (h := ?_)
        | refine k_conv (h := ?_)
        | refine k_not (h := ?_)
        | refine k_eqb (h := ?_)
        | refine k_neb (h := ?_)
        | refine k_eqs (h := ?_)
        | refine k_nes (h := ?_)
        | refine k_pick_t (h := ?_)
        | refine k_pick_f (h := ?_)
        | refine k_nilCheck (h := ?_)
        | refine k_makeFunc (h := ?_)
        | refine k_shl (h := ?_)
        | refine k_shr (h := ?_)
        | refine k_neg (h := ?_)
        | refine k_index_arr (h := ?_)
        | refine k_len_slice (h := ?_)
        | refine k_quo (h := ?_)
        | refine k_rem (h := ?_)
        | (refine k_buildSlice (h := ?_); intro g)
        | refine k_indexAddr_arr (h := ?_)
        | refine c_true (h := ?_)
        | refine c_false (h := ?_)
        | refine k_len_str (h := ?_)
        | refine k_str_add (h := ?_)
        | refine k_str_eq (h := ?_)
        | refine k_str_ne (h := ?_)
        | refine k_index_str (h := ?_)
        | refine k_slice_hi (h := ?_)
        | refine k_slice_lo (h := ?_)
        | refine k_slice_lh (h := ?_)
        | refine k_slice_all (h := ?_)
        | refine k_max (h := ?_)
        | (refine s_ask (by eq_refl) (by eq_refl) (evO_eq (by eq_refl)) (fun hask => ?_) (fun hask => ?_))
        | (refine c_split (by eq_refl) (fun hif => ?_) (fun hif => ?_))
      )
    refine hQ _ _ (ret1 rfl (by (first | exact v_tmp | exact v_one | exact v_agg)) ?_)
    rfl
/-- the digits -/
def dgt : List UInt8 := [48, 49, 50, 51, 52, 53, 54, 55, 56, 57, 97, 98, 99, 100, 101, 102]
theorem dgt_at {d : Nat} (h : d < 16) : idxS dgt (d : Int) = some ((dg d).toNat : Int) := by
  have : ∀ d : Fin 16, idxS dgt (d.val : Int) = some ((dg d.val).toNat : Int) := by decide
  exact this ⟨d, h⟩
theorem shr_nat (n s : Nat) (h : s < 64) : ((n : Nat) : Int).fdiv (2 ^ (min (s : Int).toNat IntKind.u64.bits)) = ((n / 2 ^ s : Nat) : Int) := by
  rw [Int.toNat_natCast, show IntKind.u64.bits = 64 from rfl, Nat.min_eq_left (by omega), Int.fdiv_eq_ediv_of_nonneg _ (Int.pow_nonneg (by decide)), show (2 : Int) ^ s = ((2 ^ s : Nat) : Int) by rw [Int.natCast_pow]; rfl, ← Int.natCast_ediv]
theorem and_15 (n : Nat) (h : n < 18446744073709551616) : arith .and .u64 ((n : Nat) : Int) 15 = some (.int .u64 ((n % 16 : Nat) : Int)) := by
  have e := u64_and_nat n 15 h (by decide)
  simp only [arith]
  rw [show ((15 : Nat) : Int) = 15 from rfl] at e
  rw [e, show (15 : Nat) = 2 ^ 4 - 1 from rfl, Nat.and_two_pow_sub_one_eq_mod]
theorem hexL_at (k n i : Nat) (hi : i < k) : (hexL k n)[i]? = some (dg (n / 16 ^ (k - 1 - i) % 16)) := by
  induction k generalizing n with
  | zero => omega
  | succ k ih =>
    rw [hexL]
    by_cases h : i = k
    · subst h
      rw [List.getElem?_append_right (by rw [hexL_len]; omega), hexL_len]
      simp
    · rw [List.getElem?_append_left (by rw [hexL_len]; omega), ih _ (by omega), Nat.div_div_eq_div_mul]
      have : k + 1 - 1 - i = (k - 1 - i) + 1 := by omega
      rw [this, Nat.pow_succ, Nat.mul_comm 16]
theorem hex_pure (n : Nat) (hn : n < 18446744073709551616) : Pure Tryd.prog 21 #[.int .u64 (n : Nat)] (.string (B (hexL 16 n))) := by
  have tt : true = true := rfl; have ff : false = false := rfl; have nt : (!true) = false := rfl; have nf : (!false) = true := rfl
  refine pure_q Tryd.func21 rfl Tryd.ntmps21 rfl rfl (fun w0 Q hQ => ?_)
  repeat (
    first
      | refine j_seq_k (fun N hN => ?_)
      | refine j_text ?_
      | refine j_block ?_
      | refine j_skip ?_
      | refine j_ret ?_
      | refine j_exit ?_
      | refine s_nil (show X _ _ _ _ _ from ?_)
      | (refine x_next hN ?_; clear hN N)
      | (refine x_then_ret ?_; clear hN N)
      | (refine x_then_exit ?_; clear hN N)
      | refine x_block ?_
      | refine x_block_ret ?_
      | refine x_block_hit ?_
      | refine x_block_miss (by eq_refl) ?_
      | refine k_skip (h := ?_)
      | refine k_skip0 (h := ?_)
      | refine k_fieldAddr (h := ?_)
      | refine k_load_one (h := ?_)
      | refine k_load_agg (h := ?_)
      | refine k_bin (h := ?_)
      | refine k_move (h := ?_)
      | refine k_assign (h := ?_)
      | refine k_extract (h := ?_)
      | (refine k_box (h := ?_); intro g)
      | (refine k_alloc (h := ?_); intro g)
      | refine k_store (h := ?_)
      | refine k_field_agg (h := ?_)
      | refine k_field_one (h := ?_)
      | refine k_build (h := ?_)
      | refine k_conv (h := ?_)
      | refine k_not (h := ?_)
      | refine k_eqb (h := ?_)
      | refine k_neb (h := ?_)
      | refine k_eqs (h := ?_)
      | refine k_nes (h := ?_)
      | refine k_pick_t (h := ?_)
      | refine k_pick_f (h := ?_)
      | refine k_nilCheck (h := ?_)
      | refine k_makeFunc (h := ?_)
      | refine k_shl (h := ?_)
      | refine k_shr (h := ?_)
      | refine k_neg (h := ?_)
      | refine k_index_arr (h := ?_)
      | refine k_len_slice (h := ?_)
      | refine k_quo (h := ?_)
      | refine k_rem (h := ?_)
      | (refine k_buildSlice (h := ?_); intro g)
      | refine k_indexAddr_arr (h := ?_)
      | refine c_true (h := ?_)
      | refine c_false (h := ?_)
      | refine k_len_str (h := ?_)
      | refine k_str_add (h := ?_)
      | refine k_str_eq (h := ?_)
      | refine k_str_ne (h := ?_)
      | refine k_index_str (h := ?_)
      | refine k_slice_hi (h := ?_)
      | refine k_slice_lo (h := ?_)
      | refine k_slice_lh (h := ?_)
      | refine k_slice_all (h := ?_)
      | refine k_max (h := ?_)
      | (refine s_ask (by eq_refl) (by eq_refl) (evO_eq (by eq_refl)) (fun hask => ?_) (fun hask => ?_))
      | (refine c_split (by eq_refl) (fun hif => ?_) (fun hif => ?_))
    )
  refine j_rem 0 rfl (j_rem 3 rfl (j_rem 5 rfl ?_))
  refine j_loop_k (fun m l L => ∃ (k : Nat) (cs : List Value) (rest : List (Nat × Value)), k + m = 16 ∧ cs.length = 16 ∧ cs.take k = (bytesV (hexL 16 n)).take k ∧ l = (5, .int .i64 (k : Int)) :: (3, .pointer (some ⟨g, 0, none⟩)) :: (0, .int .u64 (n : Nat)) :: rest ∧ L = [(g, cs, 73)]) 16 ?_ ?_
  · exact ⟨0, _, _, rfl, rfl, by rw [List.take_zero, List.take_zero], rfl, rfl⟩
  rintro m l L N ⟨k, cs, rest, hk, hc, ht, rfl, rfl⟩ hN
  by_cases h : k < 16
  · have e1 : arith .lss .i64 (k : Int) 16 = some (.bool true) := by simp only [arith, Option.some.injEq, Value.bool.injEq, decide_eq_true_eq]; omega
    have e2 : arith .sub .i64 15 (k : Int) = some (.int .i64 ((15 - k : Nat) : Int)) := by simp only [arith, IntKind.wrap_i64, Option.some.injEq, Value.int.injEq, true_and]; omega
    have e3 : arith .mul .i64 ((15 - k : Nat) : Int) 4 = some (.int .i64 (((15 - k) * 4 : Nat) : Int)) := by simp only [arith, IntKind.wrap_i64, Option.some.injEq, Value.int.injEq, true_and]; omega
    have e4 := shr_nat n ((15 - k) * 4) (by omega)
    have e4' : decide ((((15 - k) * 4 : Nat) : Int) < 0) = false := decide_eq_false (by omega)
    have e5 := and_15 (n / 2 ^ ((15 - k) * 4)) (Nat.lt_of_le_of_lt (Nat.div_le_self _ _) hn)
    have e6 : idxS dgt (((n / 2 ^ ((15 - k) * 4) % 16 : Nat)) : Int) = some ((dg (n / 2 ^ ((15 - k) * 4) % 16)).toNat : Int) := dgt_at (Nat.mod_lt _ (by decide))
    have e7 : arith .add .i64 (k : Int) 1 = some (.int .i64 ((k + 1 : Nat) : Int)) := by simp only [arith, IntKind.wrap_i64, Option.some.injEq, Value.int.injEq, true_and]; omega
    have e8 : 0 ≤ (k : Int) ∧ (k : Int) < ((16 : Nat) : Int) := by omega
    have e9 := spl_set cs k (.int .u8 ((dg (n / 2 ^ ((15 - k) * 4) % 16)).toNat : Int)) (by omega)
    have e10 : 0 + ((k : Nat) : Int).toNat * 1 = k := by omega
    have hd : (hexL 16 n)[k]? = some (dg (n / 2 ^ ((15 - k) * 4) % 16)) := by
      rw [hexL_at 16 n k h, show 16 - 1 - k = 15 - k by omega, show (16 : Nat) = 2 ^ 4 from rfl, ← Nat.pow_mul, Nat.mul_comm 4]
    generalize dg (n / 2 ^ ((15 - k) * 4) % 16) = D at *
    repeat (
      first
        | refine k_indexAddr_arr (hb := e8) (hj := e10) (h := ?_)
        | refine k_store (hc := e9) (h := ?_)
        | refine k_index_str (s := dgt) (hc := e6) (h := ?_)
        | refine j_seq_k (fun N hN => ?_)
        | refine j_text ?_
        | refine j_block ?_
        | refine j_skip ?_
        | refine j_ret ?_
        | refine j_exit ?_
        | refine s_nil (show X _ _ _ _ _ from ?_)
        | (refine x_next hN ?_; clear hN N)
        | (refine x_then_ret ?_; clear hN N)
        | (refine x_then_exit ?_; clear hN N)
        | refine x_block ?_
        | refine x_block_ret ?_
        | refine x_block_hit ?_
        | refine x_block_miss (by eq_refl) ?_
        | refine k_skip (h := ?_)
        | refine k_skip0 (h := ?_)
        | refine k_fieldAddr (h := ?_)
        | refine k_load_one (h := ?_)
        | refine k_load_agg (h := ?_)
        | refine k_bin (h := ?_)
        | refine k_move (h := ?_)
        | refine k_assign (h := ?_)
        | refine k_extract (h := ?_)
        | (refine k_box (h := ?_); intro g)
        | (refine k_alloc (h := ?_); intro g)
        | refine k_store (h := ?_)
        | refine k_field_agg (h := ?_)
        | refine k_field_one (h := ?_)
        | refine k_build (h := ?_)
        | refine k_conv (h := ?_)
        | refine k_not (h := ?_)
        | refine k_eqb (h := ?_)
        | refine k_neb (h := ?_)
        | refine k_eqs (h := ?_)
        | refine k_nes (h := ?_)
        | refine k_pick_t (h := ?_)
        | refine k_pick_f (h := ?_)
        | refine k_nilCheck (h := ?_)
        | refine k_makeFunc (h := ?_)
        | refine k_shl (h := ?_)
        | refine k_shr (h := ?_)
        | refine k_neg (h := ?_)
        | refine k_index_arr (h := ?_)
        | refine k_len_slice (h := ?_)
        | refine k_quo (h := ?_)
        | refine k_rem (h := ?_)
        | (refine k_buildSlice (h := ?_); intro g)
        | refine k_indexAddr_arr (h := ?_)
        | refine c_true (h := ?_)
        | refine c_false (h := ?_)
        | refine k_len_str (h := ?_)
        | refine k_str_add (h := ?_)
        | refine k_str_eq (h := ?_)
        | refine k_str_ne (h := ?_)
        | refine k_index_str (h := ?_)
        | refine k_slice_hi (h := ?_)
        | refine k_slice_lo (h := ?_)
        | refine k_slice_lh (h := ?_)
        | refine k_slice_all (h := ?_)
        | refine k_max (h := ?_)
        | (refine s_ask (by eq_refl) (by eq_refl) (evO_eq (by eq_refl)) (fun hask => ?_) (fun hask => ?_))
        | (refine c_split (by eq_refl) (fun hif => ?_) (fun hif => ?_))
      )
    refine x_rem 0 rfl (x_rem 3 rfl (x_rem 5 rfl ?_))
    refine hN (m - 1) _ _ (by omega) ⟨k + 1, _, _, by omega, by rw [List.length_set]; exact hc, ?_, rfl, rfl⟩
    have hb : (bytesV (hexL 16 n))[k]? = some (.int .u8 (D.toNat : Int)) := by rw [bytesV, List.getElem?_map, hd]; rfl
    generalize bytesV (hexL 16 n) = Z at *
    rw [List.take_add_one, List.take_add_one, List.getElem?_set_self (by omega), List.take_set_of_le (Nat.le_refl _), ht, hb]
  · have hk2 : k = 16 := by omega
    obtain rfl := hk2
    have e1 : arith .lss .i64 ((16 : Nat) : Int) 16 = some (.bool false) := rfl
    have hl := hexL_len 16 n
    have hv : (cs.drop 0).take 16 = bytesV (hexL 16 n) := by
      have h2 : (bytesV (hexL 16 n)).length = 16 := by rw [bytesV, List.length_map, hl]
      rw [List.drop_zero, ht]
      generalize bytesV (hexL 16 n) = Z at *
      exact List.take_of_length_le (by omega)
    generalize hexL 16 n = Z at *
    repeat (
      first
        | refine k_bytes_str (hl := hl) (hv := hv) (h := ?_)
        | refine j_seq_k (fun N hN => ?_)
        | refine j_text ?_
        | refine j_block ?_
        | refine j_skip ?_
        | refine j_ret ?_
        | refine j_exit ?_
        | refine s_nil (show X _ _ _ _ _ from ?_)
        | (refine x_next hN ?_; clear hN N)
        | (refine x_then_ret ?_; clear hN N)
        | (refine x_then_exit ?_; clear hN N)
        | refine x_block ?_
        | refine x_block_ret ?_
        | refine x_block_hit ?_
        | refine x_block_miss (by eq_refl) ?_
        | refine k_skip (h := ?_)
        | refine k_skip0 (h := ?_)
        | refine k_fieldAddr (h := ?_)
        | refine k_load_one (h := ?_)
        | refine k_load_agg (h := ?_)
        | refine k_bin (h := ?_)
        | refine k_move (h := ?_)
        | refine k_assign (h := ?_)
        | refine k_extract (h := ?_)
        | (refine k_box (h := ?_); intro g)
        | (refine k_alloc (h := ?_); intro g)
        | refine k_store (h := ?_)
        | refine k_field_agg (h := ?_)
        | refine k_field_one (h := ?_)
        | refine k_build (h := ?_)
        | refine k_conv (h := ?_)
        | refine k_not (h := ?_)
        | refine k_eqb (h := ?_)
        | refine k_neb (h := ?_)
        | refine k_eqs (h := ?_)
        | refine k_nes (h := ?_)
        | refine k_pick_t (h := ?_)
        | refine k_pick_f (h := ?_)
        | refine k_nilCheck (h := ?_)
        | refine k_makeFunc (h := ?_)
        | refine k_shl (h := ?_)
        | refine k_shr (h := ?_)
        | refine k_neg (h := ?_)
        | refine k_index_arr (h := ?_)
        | refine k_len_slice (h := ?_)
        | refine k_quo (h := ?_)
        | refine k_rem (h := ?_)
        | (refine k_buildSlice (h := ?_); intro g)
        | refine k_indexAddr_arr (h := ?_)
        | refine c_true (h := ?_)
        | refine c_false (h := ?_)
        | refine k_len_str (h := ?_)
        | refine k_str_add (h := ?_)
        | refine k_str_eq (h := ?_)
        | refine k_str_ne (h := ?_)
        | refine k_index_str (h := ?_)
        | refine k_slice_hi (h := ?_)
        | refine k_slice_lo (h := ?_)
        | refine k_slice_lh (h := ?_)
        | refine k_slice_all (h := ?_)
        | refine k_max (h := ?_)
        | (refine s_ask (by eq_refl) (by eq_refl) (evO_eq (by eq_refl)) (fun hask => ?_) (fun hask => ?_))
        | (refine c_split (by eq_refl) (fun hif => ?_) (fun hif => ?_))
      )
    refine hQ _ _ (ret1 rfl (by (first | exact v_tmp | exact v_one | exact v_agg)) ?_)
    rfl

theorem ix_dgt (c : UInt8) : (bif decide (Go.Lib.indexByte dgt c > 0) then Go.Lib.indexByte dgt c else 0) = (dv c : Int) := by
  have h : ∀ k : Fin 256, (bif decide (Go.Lib.indexByte dgt (UInt8.ofNat k.val) > 0) then Go.Lib.indexByte dgt (UInt8.ofNat k.val) else 0) = (dv (UInt8.ofNat k.val) : Int) := by decide +kernel
  have := h ⟨c.toNat, UInt8.toNat_lt c⟩
  simpa using this
theorem dv_lt (c : UInt8) : dv c < 16 := by unfold dv; split <;> (try split) <;> omega
theorem shl4_nat (n : Nat) : IntKind.u64.wrap (((n : Nat) : Int) * 2 ^ (min (4 : Int).toNat IntKind.u64.bits)) = ((n * 16 % 18446744073709551616 : Nat) : Int) := by
  rw [IntKind.wrap_u64, show ((2 : Int) ^ (min (4 : Int).toNat IntKind.u64.bits)) = 16 from rfl]; omega
theorem or_dig (n d : Nat) (hd : d < 16) : arith .or .u64 ((n * 16 % 18446744073709551616 : Nat) : Int) (d : Int) = some (.int .u64 ((((n * 16 + d) % 18446744073709551616 : Nat)) : Int)) := by
  have h : n * 16 % 18446744073709551616 ||| d = (n * 16 + d) % 18446744073709551616 := by
    have e : n * 16 % 18446744073709551616 = 2 ^ 4 * (n % 1152921504606846976) := by omega
    rw [e, ← Nat.two_pow_add_eq_or_of_lt (by exact hd)]; omega
  simp only [arith]
  rw [u64_or_nat _ _ (Nat.mod_lt _ (by decide)) (by omega), h]
theorem num_pure (s : List UInt8) (hs : s.length ≤ 9223372036854775806) : Pure Tryd.prog 16 #[.string (B s)] (.int .u64 (numL 18446744073709551616 s 0 : Nat)) := by
  have tt : true = true := rfl; have ff : false = false := rfl; have nt : (!true) = false := rfl; have nf : (!false) = true := rfl
  refine pure_q Tryd.func16 rfl Tryd.ntmps16 rfl rfl (fun w0 Q hQ => ?_)
  repeat (
    first
      | refine j_seq_k (fun N hN => ?_)
      | refine j_text ?_
      | refine j_block ?_
      | refine j_skip ?_
      | refine j_ret ?_
      | refine j_exit ?_
      | refine s_nil (show X _ _ _ _ _ from ?_)
      | (refine x_next hN ?_; clear hN N)
      | (refine x_then_ret ?_; clear hN N)
      | (refine x_then_exit ?_; clear hN N)
      | refine x_block ?_
      | refine x_block_ret ?_
      | refine x_block_hit ?_
      | refine x_block_miss (by eq_refl) ?_
      | refine k_skip (h := ?_)
      | refine k_skip0 (h := ?_)
      | refine k_fieldAddr (h := ?_)
      | refine k_load_one (h := ?_)
      | refine k_load_agg (h := ?_)
      | refine k_bin (h := ?_)
      | refine k_move (h := ?_)
      | refine k_assign (h := ?_)
      | refine k_extract (h := ?_)
      | (refine k_box (h := ?_); intro g)
      | (refine k_alloc (h := ?_); intro g)
      | refine k_store (h := ?_)
      | refine k_field_agg (h := ?_)
      | refine k_field_one (h := ?_)
      | refine k_build (h := ?_)
      | refine k_conv (h := ?_)
      | refine k_not (h := ?_)
      | refine k_eqb (h := ?_)
      | refine k_neb (h := ?_)
      | refine k_eqs (h := ?_)
      | refine k_nes (h := ?_)
      | refine k_pick_t (h := ?_)
      | refine k_pick_f (h := ?_)
      | refine k_nilCheck (h := ?_)
      | refine k_makeFunc (h := ?_)
      | refine k_shl (h := ?_)
      | refine k_shr (h := ?_)
      | refine k_neg (h := ?_)
      | refine k_index_arr (h := ?_)
      | refine k_len_slice (h := ?_)
      | refine k_quo (h := ?_)
      | refine k_rem (h := ?_)
      | (refine k_buildSlice (h := ?_); intro g)
      | refine k_indexAddr_arr (h := ?_)
      | refine c_true (h := ?_)
      | refine c_false (h := ?_)
      | refine k_len_str (h := ?_)
      | refine k_str_add (h := ?_)
      | refine k_str_eq (h := ?_)
      | refine k_str_ne (h := ?_)
      | refine k_index_str (h := ?_)
      | refine k_slice_hi (h := ?_)
      | refine k_slice_lo (h := ?_)
      | refine k_slice_lh (h := ?_)
      | refine k_slice_all (h := ?_)
      | refine k_max (h := ?_)
      | (refine s_ask (by eq_refl) (by eq_refl) (evO_eq (by eq_refl)) (fun hask => ?_) (fun hask => ?_))
      | (refine c_split (by eq_refl) (fun hif => ?_) (fun hif => ?_))
    )
  refine j_rem 0 rfl (j_rem 6 rfl (j_rem 3 rfl (j_rem 7 rfl ?_)))
  refine j_loop_k (fun m l L => ∃ (k : Nat) (rest : List (Nat × Value)), k + m = s.length ∧ l = (7, .int .i64 (k : Int)) :: (3, .int .u64 (numL 18446744073709551616 (s.take k) 0 : Nat)) :: (6, .int .i64 (s.length : Int)) :: (0, .string (B s)) :: rest ∧ L = []) s.length ?_ ?_
  · exact ⟨0, _, Nat.zero_add _, rfl, rfl⟩
  rintro m l L N ⟨k, rest, hk, rfl, rfl⟩ hN
  by_cases h : k < s.length
  · have e1 : arith .lss .i64 (k : Int) (s.length : Int) = some (.bool true) := by simp only [arith, Option.some.injEq, Value.bool.injEq, decide_eq_true_eq]; omega
    have e2 : idxS s (k : Int) = some ((s[k]).toNat : Int) := by
      unfold idxS; rw [if_pos (by omega), Int.toNat_natCast, List.getElem?_eq_getElem h]
    have hp := ixb2_pure dgt s[k]
    have e3 := ix_dgt s[k]
    have e4 := shl4_nat (numL 18446744073709551616 (s.take k) 0)
    have hd := dv_lt s[k]
    have e5 := or_dig (numL 18446744073709551616 (s.take k) 0) (dv s[k]) hd
    have e6 : IntKind.u64.wrap (dv s[k] : Int) = (dv s[k] : Int) := by rw [IntKind.wrap_u64]; omega
    have e7 : arith .add .i64 (k : Int) 1 = some (.int .i64 ((k + 1 : Nat) : Int)) := by simp only [arith, IntKind.wrap_i64, Option.some.injEq, Value.int.injEq, true_and]; omega
    have e8 : numL 18446744073709551616 (s.take (k + 1)) 0 = (numL 18446744073709551616 (s.take k) 0 * 16 + dv s[k]) % 18446744073709551616 := by
      rw [List.take_add_one, List.getElem?_eq_getElem h, numL_app]; rfl
    have e5' : arith .or .u64 ((numL 18446744073709551616 (s.take k) 0 * 16 % 18446744073709551616 : Nat) : Int) (IntKind.u64.wrap (dv s[k] : Int)) = some (.int .u64 (numL 18446744073709551616 (s.take (k + 1)) 0 : Nat)) := by rw [e6, e8]; exact e5
    clear e5 e6 e8 hd
    generalize numL 18446744073709551616 (s.take k) 0 = n at *
    generalize s[k] = c at *
    generalize dv c = D at *
    generalize Go.Lib.indexByte dgt c = Z at *
    repeat (
      first
        | refine j_seq_k (fun N hN => ?_)
        | refine j_text ?_
        | refine j_block ?_
        | refine j_skip ?_
        | refine j_ret ?_
        | refine j_exit ?_
        | refine s_nil (show X _ _ _ _ _ from ?_)
        | (refine x_next hN ?_; clear hN N)
        | (refine x_then_ret ?_; clear hN N)
        | (refine x_then_exit ?_; clear hN N)
        | refine x_block ?_
        | refine x_block_ret ?_
        | refine x_block_hit ?_
        | refine x_block_miss (by eq_refl) ?_
        | refine k_skip (h := ?_)
        | refine k_skip0 (h := ?_)
        | refine k_fieldAddr (h := ?_)
        | refine k_load_one (h := ?_)
        | refine k_load_agg (h := ?_)
        | refine k_bin (h := ?_)
        | refine k_move (h := ?_)
        | refine k_assign (h := ?_)
        | refine k_extract (h := ?_)
        | refine k_call (hp := hp) (h := ?_)
        | (refine k_box (h := ?_); intro g)
        | (refine k_alloc (h := ?_); intro g)
        | refine k_store (h := ?_)
        | refine k_field_agg (h := ?_)
        | refine k_field_one (h := ?_)
        | refine k_build (h := ?_)
        | refine k_conv (h := ?_)
        | refine k_not (h := ?_)
        | refine k_eqb (h := ?_)
        | refine k_neb (h := ?_)
        | refine k_eqs (h := ?_)
        | refine k_nes (h := ?_)
        | refine k_pick_t (h := ?_)
        | refine k_pick_f (h := ?_)
        | refine k_nilCheck (h := ?_)
        | refine k_makeFunc (h := ?_)
        | refine k_shl (h := ?_)
        | refine k_shr (h := ?_)
        | refine k_neg (h := ?_)
        | refine k_index_arr (h := ?_)
        | refine k_len_slice (h := ?_)
        | refine k_quo (h := ?_)
        | refine k_rem (h := ?_)
        | (refine k_buildSlice (h := ?_); intro g)
        | refine k_indexAddr_arr (h := ?_)
        | refine c_true (h := ?_)
        | refine c_false (h := ?_)
        | refine k_len_str (h := ?_)
        | refine k_str_add (h := ?_)
        | refine k_str_eq (h := ?_)
        | refine k_str_ne (h := ?_)
        | refine k_index_str (h := ?_)
        | refine k_slice_hi (h := ?_)
        | refine k_slice_lo (h := ?_)
        | refine k_slice_lh (h := ?_)
        | refine k_slice_all (h := ?_)
        | refine k_max (h := ?_)
        | (refine s_ask (by eq_refl) (by eq_refl) (evO_eq (by eq_refl)) (fun hask => ?_) (fun hask => ?_))
        | (refine c_split (by eq_refl) (fun hif => ?_) (fun hif => ?_))
      )
    refine x_rem 0 rfl (x_rem 6 rfl (x_rem 3 rfl (x_rem 7 rfl ?_)))
    exact hN (m - 1) _ _ (by omega) ⟨k + 1, _, by omega, rfl, rfl⟩
  · have hk2 : k = s.length := by omega
    subst hk2
    have e1 : arith .lss .i64 (s.length : Int) (s.length : Int) = some (.bool false) := by simp [arith]
    rw [List.take_length] at *
    repeat (
      first
        | refine j_seq_k (fun N hN => ?_)
        | refine j_text ?_
        | refine j_block ?_
        | refine j_skip ?_
        | refine j_ret ?_
        | refine j_exit ?_
        | refine s_nil (show X _ _ _ _ _ from ?_)
        | (refine x_next hN ?_; clear hN N)
        | (refine x_then_ret ?_; clear hN N)
        | (refine x_then_exit ?_; clear hN N)
        | refine x_block ?_
        | refine x_block_ret ?_
        | refine x_block_hit ?_
        | refine x_block_miss (by eq_refl) ?_
        | refine k_skip (h := ?_)
        | refine k_skip0 (h := ?_)
        | refine k_fieldAddr (h := ?_)
        | refine k_load_one (h := ?_)
        | refine k_load_agg (h := ?_)
        | refine k_bin (h := ?_)
        | refine k_move (h := ?_)
        | refine k_assign (h := ?_)
        | refine k_extract (h := ?_)
        | (refine k_box (h := ?_); intro g)
        | (refine k_alloc (h := ?_); intro g)
        | refine k_store (h := ?_)
        | refine k_field_agg (h := ?_)
        | refine k_field_one (h := ?_)
        | refine k_build (h := ?_)
        | refine k_conv (h := ?_)
        | refine k_not (h := ?_)
        | refine k_eqb (h := ?_)
        | refine k_neb (h := ?_)
        | refine k_eqs (h := ?_)
        | refine k_nes (h := ?_)
        | refine k_pick_t (h := ?_)
        | refine k_pick_f (h := ?_)
        | refine k_nilCheck (h := ?_)
        | refine k_makeFunc (h := ?_)
        | refine k_shl (h := ?_)
        | refine k_shr (h := ?_)
        | refine k_neg (h := ?_)
        | refine k_index_arr (h := ?_)
        | refine k_len_slice (h := ?_)
        | refine k_quo (h := ?_)
        | refine k_rem (h := ?_)
        | (refine k_buildSlice (h := ?_); intro g)
        | refine k_indexAddr_arr (h := ?_)
        | refine c_true (h := ?_)
        | refine c_false (h := ?_)
        | refine k_len_str (h := ?_)
        | refine k_str_add (h := ?_)
        | refine k_str_eq (h := ?_)
        | refine k_str_ne (h := ?_)
        | refine k_index_str (h := ?_)
        | refine k_slice_hi (h := ?_)
        | refine k_slice_lo (h := ?_)
        | refine k_slice_lh (h := ?_)
        | refine k_slice_all (h := ?_)
        | refine k_max (h := ?_)
        | (refine s_ask (by eq_refl) (by eq_refl) (evO_eq (by eq_refl)) (fun hask => ?_) (fun hask => ?_))
        | (refine c_split (by eq_refl) (fun hif => ?_) (fun hif => ?_))
      )
    refine hQ _ _ (ret1 rfl (by (first | exact v_tmp | exact v_one | exact v_agg)) ?_)
    rfl
end Go.Proofs.YtmgfabfmnachoaaDoor.Own
