/- Numbers as text: what a text says. -/
import Derived.Test.YtmgfabfmnachoaaDoorHxD
namespace Go.Proofs.YtmgfabfmnachoaaDoor.Own
open Go Go.RowKit Go.Proofs Go.Proofs.YtmgfabfmnachoaaDoor.Plain Go.Proofs.YtmgfabfmnachoaaDoor.Hx
set_option linter.unusedVariables false
set_option linter.unusedSimpArgs false
set_option maxRecDepth 100000
set_option maxHeartbeats 4000000
theorem numL_lt (l : List UInt8) (n : Nat) (h : n < 18446744073709551616) : numL 18446744073709551616 l n < 18446744073709551616 := by
  induction l generalizing n with
  | nil => exact h
  | cons c l ih => exact ih _ (Nat.mod_lt _ (by decide))
theorem numD_lt (l : List UInt8) (n M : Nat) (h : n < M) : numD M l n < M := by
  induction l generalizing n with
  | nil => exact h
  | cons c l ih =>
    rw [numD_cons]
    refine ih _ ?_
    split
    · exact Nat.mod_lt _ (by omega)
    · exact h
theorem cutDot_le (l : List UInt8) : (cutDot l).1.length ≤ l.length ∧ (cutDot l).2.length ≤ l.length := by
  induction l with
  | nil => exact ⟨Nat.le_refl _, Nat.le_refl _⟩
  | cons c l ih =>
    unfold cutDot
    split
    · simp
    · simp; omega
theorem cutSign_le (l : List UInt8) : (cutSign l).2.length ≤ l.length := by
  cases l with
  | nil => exact Nat.le_refl _
  | cons c l =>
    show (if (c == 45) = true then (true, l) else (false, c :: l)).2.length ≤ _
    split <;> simp
/-- of a sign, what is whole, what is not -/
def fxOf (W F : Nat) (h : F < 18446744073709551616) : Fx := ⟨IntKind.i64.wrap W, F, by have := i64_range W; omega⟩
def candF (s : List UInt8) : Fx :=
  let a := fxOf (numL 18446744073709551616 (cutDot (cutSign s).2).1 0) (numL 18446744073709551616 (cutDot (cutSign s).2).2 0) (numL_lt _ _ (by decide))
  if (cutSign s).1 = true then Fx.of (-a.n) else a
def zFx : Fx := ⟨0, 0, by decide⟩
/-- does a text say this? -/
def saysF (s : List UInt8) (a : Fx) : Bool := !decide (s = []) && decide (textF a = s)
def parseF (s : List UInt8) : Fx := if saysF s (candF s) = true then candF s else zFx
theorem fparse_pure (s : List UInt8) (hs : s.length ≤ 9223372036854775806) : Pure Tryd.prog 8 #[.string (B s)] (.tuple #[(parseF s).v, .bool (saysF s (candF s))]) := by
  have hp := cutp_pure s
  have hl := cutSign_le s
  obtain ⟨b, hc⟩ := cut_pure (cutSign s).2 (by omega)
  have hl2 := cutDot_le (cutSign s).2
  have hn1 := num_pure (cutDot (cutSign s).2).1 (by omega)
  have hn2 := num_pure (cutDot (cutSign s).2).2 (by omega)
  obtain ⟨a, ha⟩ : ∃ a, fxOf (numL 18446744073709551616 (cutDot (cutSign s).2).1 0) (numL 18446744073709551616 (cutDot (cutSign s).2).2 0) (numL_lt _ _ (by decide)) = a := ⟨_, rfl⟩
  have h1 : IntKind.i64.wrap (numL 18446744073709551616 (cutDot (cutSign s).2).1 0 : Nat) = a.hi := by rw [← ha]; rfl
  have h2 : ((numL 18446744073709551616 (cutDot (cutSign s).2).2 0 : Nat) : Int) = a.lo := by rw [← ha]; rfl
  have hca : candF s = if (cutSign s).1 = true then Fx.of (-a.n) else a := by rw [← ha]; rfl
  rw [h2] at hn2
  obtain ⟨c, hcc⟩ : ∃ c, candF s = c := ⟨_, rfl⟩
  have ht := text_pure c
  have hg := fneg_pure a
  unfold parseF
  rw [hcc]
  rw [hcc] at hca
  obtain ⟨e0, he0⟩ : ∃ e, decide (s = []) = e := ⟨_, rfl⟩
  obtain ⟨e1, he1⟩ : ∃ e, decide (textF c = s) = e := ⟨_, rfl⟩
  have hsays : saysF s c = (!e0 && e1) := by unfold saysF; rw [he0, he1]
  rw [hsays]
  clear hsays hcc ha hl hl2 h2
  generalize textF c = T at *
  generalize (cutDot (cutSign s).2).2 = R at *
  generalize numL 18446744073709551616 (cutDot (cutSign s).2).1 0 = W at *
  generalize (cutDot (cutSign s).2).1 = S at *
  generalize (cutSign s).2 = T2 at *
  generalize (cutSign s).1 = sg at *
  have tt : true = true := rfl; have ff : false = false := rfl; have nt : (!true) = false := rfl; have nf : (!false) = true := rfl
  cases sg with
  | false =>
    rw [if_neg (by decide)] at hca
    subst hca
    cases e0 with
    | true =>
      refine pure_q Tryd.func8 rfl Tryd.ntmps8 rfl rfl (fun w0 Q hQ => ?_)
      repeat' (
        first
          | (refine k_conv (h := ?_); rw [h1])
          | refine j_seq_k (fun N hN => ?_)
          | refine j_text ?_
          | refine j_block ?_
          | refine j_skip ?_
          | refine j_ret ?_
          | refine j_exit ?_
          | refine s_nil (show X _ _ _ _ _ from ?_)
          | (refine x_next hN ?_; clear hN N)
          | (refine x_then_ret ?_; clear hN N)
          | (refine x_then_exit ?_; clear hN N)
          | refine x_block ?_
          | refine x_block_ret ?_
          | refine x_block_hit ?_
          | refine x_block_miss (by eq_refl) ?_
          | refine k_skip (h := ?_)
          | refine k_skip0 (h := ?_)
          | refine k_fieldAddr (h := ?_)
          | refine k_load_one (h := ?_)
          | refine k_load_agg (h := ?_)
          | refine k_bin (h := ?_)
          | refine k_move (h := ?_)
          | refine k_assign (h := ?_)
          | refine k_extract (h := ?_)
          | refine k_call (hp := hp) (h := ?_)
          | refine k_call (hp := hc) (h := ?_)
          | refine k_call (hp := hn1) (h := ?_)
          | refine k_call (hp := hn2) (h := ?_)
          | refine k_call (hp := hg) (h := ?_)
          | refine k_call (hp := ht) (h := ?_)
          | (refine k_box (h := ?_); intro g)
          | (refine k_alloc (h := ?_); intro g)
          | refine k_store (h := ?_)
          | refine k_field_agg (h := ?_)
          | refine k_field_one (h := ?_)
          | refine k_build (h := ?_)
          | refine k_conv (h := ?_)
          | refine k_not (h := ?_)
          | refine k_eqb (h := ?_)
          | refine k_neb (h := ?_)
          | refine k_eqs (h := ?_)
          | refine k_nes (h := ?_)
          | refine k_pick_t (h := ?_)
          | refine k_pick_f (h := ?_)
          | refine k_nilCheck (h := ?_)
          | refine k_makeFunc (h := ?_)
          | refine k_shl (h := ?_)
          | refine k_shr (h := ?_)
          | refine k_neg (h := ?_)
          | refine k_index_arr (h := ?_)
          | refine k_len_slice (h := ?_)
          | refine k_quo (h := ?_)
          | refine k_rem (h := ?_)
          | (refine k_buildSlice (h := ?_); intro g)
          | refine k_indexAddr_arr (h := ?_)
          | refine c_true (h := ?_)
          | refine c_false (h := ?_)
          | refine k_len_str (h := ?_)
          | refine k_str_add (h := ?_)
          | refine k_str_eq (h := ?_)
          | refine k_str_ne (h := ?_)
          | refine k_index_str (h := ?_)
          | refine k_slice_hi (h := ?_)
          | refine k_slice_lo (h := ?_)
          | refine k_slice_lh (h := ?_)
          | refine k_slice_all (h := ?_)
          | refine k_max (h := ?_)
          | (refine s_ask (by eq_refl) (by eq_refl) (evO_eq (by eq_refl)) (fun hask => ?_) (fun hask => ?_))
          | (refine c_split (by eq_refl) (fun hif => ?_) (fun hif => ?_))
        )
      all_goals refine hQ _ _ (ret2 rfl (by (first | exact v_tmp | exact v_one | exact v_agg)) (by (first | exact v_tmp | exact v_one | exact v_agg)) ?_)
      all_goals rfl
    | false =>
      cases e1 with
      | false =>
        refine pure_q Tryd.func8 rfl Tryd.ntmps8 rfl rfl (fun w0 Q hQ => ?_)
        repeat' (
          first
            | (refine k_conv (h := ?_); rw [h1])
            | refine j_seq_k (fun N hN => ?_)
            | refine j_text ?_
            | refine j_block ?_
            | refine j_skip ?_
            | refine j_ret ?_
            | refine j_exit ?_
            | refine s_nil (show X _ _ _ _ _ from ?_)
            | (refine x_next hN ?_; clear hN N)
            | (refine x_then_ret ?_; clear hN N)
            | (refine x_then_exit ?_; clear hN N)
            | refine x_block ?_
            | refine x_block_ret ?_
            | refine x_block_hit ?_
            | refine x_block_miss (by eq_refl) ?_
            | refine k_skip (h := ?_)
            | refine k_skip0 (h := ?_)
            | refine k_fieldAddr (h := ?_)
            | refine k_load_one (h := ?_)
            | refine k_load_agg (h := ?_)
            | refine k_bin (h := ?_)
            | refine k_move (h := ?_)
            | refine k_assign (h := ?_)
            | refine k_extract (h := ?_)
            | refine k_call (hp := hp) (h := ?_)
            | refine k_call (hp := hc) (h := ?_)
            | refine k_call (hp := hn1) (h := ?_)
            | refine k_call (hp := hn2) (h := ?_)
            | refine k_call (hp := hg) (h := ?_)
            | refine k_call (hp := ht) (h := ?_)
            | (refine k_box (h := ?_); intro g)
            | (refine k_alloc (h := ?_); intro g)
            | refine k_store (h := ?_)
            | refine k_field_agg (h := ?_)
            | refine k_field_one (h := ?_)
            | refine k_build (h := ?_)
            | refine k_conv (h := ?_)
            | refine k_not (h := ?_)
            | refine k_eqb (h := ?_)
            | refine k_neb (h := ?_)
            | refine k_eqs (h := ?_)
            | refine k_nes (h := ?_)
            | refine k_pick_t (h := ?_)
            | refine k_pick_f (h := ?_)
            | refine k_nilCheck (h := ?_)
            | refine k_makeFunc (h := ?_)
            | refine k_shl (h := ?_)
            | refine k_shr (h := ?_)
            | refine k_neg (h := ?_)
            | refine k_index_arr (h := ?_)
            | refine k_len_slice (h := ?_)
            | refine k_quo (h := ?_)
            | refine k_rem (h := ?_)
            | (refine k_buildSlice (h := ?_); intro g)
            | refine k_indexAddr_arr (h := ?_)
            | refine c_true (h := ?_)
            | refine c_false (h := ?_)
            | refine k_len_str (h := ?_)
            | refine k_str_add (h := ?_)
            | refine k_str_eq (h := ?_)
            | refine k_str_ne (h := ?_)
            | refine k_index_str (h := ?_)
            | refine k_slice_hi (h := ?_)
            | refine k_slice_lo (h := ?_)
            | refine k_slice_lh (h := ?_)
            | refine k_slice_all (h := ?_)
            | refine k_max (h := ?_)
            | (refine s_ask (by eq_refl) (by eq_refl) (evO_eq (by eq_refl)) (fun hask => ?_) (fun hask => ?_))
            | (refine c_split (by eq_refl) (fun hif => ?_) (fun hif => ?_))
          )
        all_goals refine hQ _ _ (ret2 rfl (by (first | exact v_tmp | exact v_one | exact v_agg)) (by (first | exact v_tmp | exact v_one | exact v_agg)) ?_)
        all_goals rfl
      | true =>
        refine pure_q Tryd.func8 rfl Tryd.ntmps8 rfl rfl (fun w0 Q hQ => ?_)
        repeat' (
          first
            | (refine k_conv (h := ?_); rw [h1])
            | refine j_seq_k (fun N hN => ?_)
            | refine j_text ?_
            | refine j_block ?_
            | refine j_skip ?_
            | refine j_ret ?_
            | refine j_exit ?_
            | refine s_nil (show X _ _ _ _ _ from ?_)
            | (refine x_next hN ?_; clear hN N)
            | (refine x_then_ret ?_; clear hN N)
            | (refine x_then_exit ?_; clear hN N)
            | refine x_block ?_
            | refine x_block_ret ?_
            | refine x_block_hit ?_
            | refine x_block_miss (by eq_refl) ?_
            | refine k_skip (h := ?_)
            | refine k_skip0 (h := ?_)
            | refine k_fieldAddr (h := ?_)
            | refine k_load_one (h := ?_)
            | refine k_load_agg (h := ?_)
            | refine k_bin (h := ?_)
            | refine k_move (h := ?_)
            | refine k_assign (h := ?_)
            | refine k_extract (h := ?_)
            | refine k_call (hp := hp) (h := ?_)
            | refine k_call (hp := hc) (h := ?_)
            | refine k_call (hp := hn1) (h := ?_)
            | refine k_call (hp := hn2) (h := ?_)
            | refine k_call (hp := hg) (h := ?_)
            | refine k_call (hp := ht) (h := ?_)
            | (refine k_box (h := ?_); intro g)
            | (refine k_alloc (h := ?_); intro g)
            | refine k_store (h := ?_)
            | refine k_field_agg (h := ?_)
            | refine k_field_one (h := ?_)
            | refine k_build (h := ?_)
            | refine k_conv (h := ?_)
            | refine k_not (h := ?_)
            | refine k_eqb (h := ?_)
            | refine k_neb (h := ?_)
            | refine k_eqs (h := ?_)
            | refine k_nes (h := ?_)
            | refine k_pick_t (h := ?_)
            | refine k_pick_f (h := ?_)
            | refine k_nilCheck (h := ?_)
            | refine k_makeFunc (h := ?_)
            | refine k_shl (h := ?_)
            | refine k_shr (h := ?_)
            | refine k_neg (h := ?_)
            | refine k_index_arr (h := ?_)
            | refine k_len_slice (h := ?_)
            | refine k_quo (h := ?_)
            | refine k_rem (h := ?_)
            | (refine k_buildSlice (h := ?_); intro g)
            | refine k_indexAddr_arr (h := ?_)
            | refine c_true (h := ?_)
            | refine c_false (h := ?_)
            | refine k_len_str (h := ?_)
            | refine k_str_add (h := ?_)
            | refine k_str_eq (h := ?_)
            | refine k_str_ne (h := ?_)
            | refine k_index_str (h := ?_)
            | refine k_slice_hi (h := ?_)
            | refine k_slice_lo (h := ?_)
            | refine k_slice_lh (h := ?_)
            | refine k_slice_all (h := ?_)
            | refine k_max (h := ?_)
            | (refine s_ask (by eq_refl) (by eq_refl) (evO_eq (by eq_refl)) (fun hask => ?_) (fun hask => ?_))
            | (refine c_split (by eq_refl) (fun hif => ?_) (fun hif => ?_))
          )
        all_goals refine hQ _ _ (ret2 rfl (by (first | exact v_tmp | exact v_one | exact v_agg)) (by (first | exact v_tmp | exact v_one | exact v_agg)) ?_)
        all_goals rfl
  | true =>
    rw [if_pos rfl] at hca
    subst hca
    cases e0 with
    | true =>
      refine pure_q Tryd.func8 rfl Tryd.ntmps8 rfl rfl (fun w0 Q hQ => ?_)
      repeat' (
        first
          | (refine k_conv (h := ?_); rw [h1])
          | refine j_seq_k (fun N hN => ?_)
          | refine j_text ?_
          | refine j_block ?_
          | refine j_skip ?_
          | refine j_ret ?_
          | refine j_exit ?_
          | refine s_nil (show X _ _ _ _ _ from ?_)
          | (refine x_next hN ?_; clear hN N)
          | (refine x_then_ret ?_; clear hN N)
          | (refine x_then_exit ?_; clear hN N)
          | refine x_block ?_
          | refine x_block_ret ?_
          | refine x_block_hit ?_
          | refine x_block_miss (by eq_refl) ?_
          | refine k_skip (h := ?_)
          | refine k_skip0 (h := ?_)
          | refine k_fieldAddr (h := ?_)
          | refine k_load_one (h := ?_)
          | refine k_load_agg (h := ?_)
          | refine k_bin (h := ?_)
          | refine k_move (h := ?_)
          | refine k_assign (h := ?_)
          | refine k_extract (h := ?_)
          | refine k_call (hp := hp) (h := ?_)
          | refine k_call (hp := hc) (h := ?_)
          | refine k_call (hp := hn1) (h := ?_)
          | refine k_call (hp := hn2) (h := ?_)
          | refine k_call (hp := hg) (h := ?_)
          | refine k_call (hp := ht) (h := ?_)
          | (refine k_box (h := ?_); intro g)
          | (refine k_alloc (h := ?_); intro g)
          | refine k_store (h := ?_)
          | refine k_field_agg (h := ?_)
          | refine k_field_one (h := ?_)
          | refine k_build (h := ?_)
          | refine k_conv (h := ?_)
          | refine k_not (h := ?_)
          | refine k_eqb (h := ?_)
          | refine k_neb (h := ?_)
          | refine k_eqs (h := ?_)
          | refine k_nes (h := ?_)
          | refine k_pick_t (h := ?_)
          | refine k_pick_f (h := ?_)
          | refine k_nilCheck (h := ?_)
          | refine k_makeFunc (h := ?_)
          | refine k_shl (h := ?_)
          | refine k_shr (h := ?_)
          | refine k_neg (h := ?_)
          | refine k_index_arr (h := ?_)
          | refine k_len_slice (h := ?_)
          | refine k_quo (h := ?_)
          | refine k_rem (h := ?_)
          | (refine k_buildSlice (h := ?_); intro g)
          | refine k_indexAddr_arr (h := ?_)
          | refine c_true (h := ?_)
          | refine c_false (h := ?_)
          | refine k_len_str (h := ?_)
          | refine k_str_add (h := ?_)
          | refine k_str_eq (h := ?_)
          | refine k_str_ne (h := ?_)
          | refine k_index_str (h := ?_)
          | refine k_slice_hi (h := ?_)
          | refine k_slice_lo (h := ?_)
          | refine k_slice_lh (h := ?_)
          | refine k_slice_all (h := ?_)
          | refine k_max (h := ?_)
          | (refine s_ask (by eq_refl) (by eq_refl) (evO_eq (by eq_refl)) (fun hask => ?_) (fun hask => ?_))
          | (refine c_split (by eq_refl) (fun hif => ?_) (fun hif => ?_))
        )
      all_goals refine hQ _ _ (ret2 rfl (by (first | exact v_tmp | exact v_one | exact v_agg)) (by (first | exact v_tmp | exact v_one | exact v_agg)) ?_)
      all_goals rfl
    | false =>
      cases e1 with
      | false =>
        refine pure_q Tryd.func8 rfl Tryd.ntmps8 rfl rfl (fun w0 Q hQ => ?_)
        repeat' (
          first
            | (refine k_conv (h := ?_); rw [h1])
            | refine j_seq_k (fun N hN => ?_)
            | refine j_text ?_
            | refine j_block ?_
            | refine j_skip ?_
            | refine j_ret ?_
            | refine j_exit ?_
            | refine s_nil (show X _ _ _ _ _ from ?_)
            | (refine x_next hN ?_; clear hN N)
            | (refine x_then_ret ?_; clear hN N)
            | (refine x_then_exit ?_; clear hN N)
            | refine x_block ?_
            | refine x_block_ret ?_
            | refine x_block_hit ?_
            | refine x_block_miss (by eq_refl) ?_
            | refine k_skip (h := ?_)
            | refine k_skip0 (h := ?_)
            | refine k_fieldAddr (h := ?_)
            | refine k_load_one (h := ?_)
            | refine k_load_agg (h := ?_)
            | refine k_bin (h := ?_)
            | refine k_move (h := ?_)
            | refine k_assign (h := ?_)
            | refine k_extract (h := ?_)
            | refine k_call (hp := hp) (h := ?_)
            | refine k_call (hp := hc) (h := ?_)
            | refine k_call (hp := hn1) (h := ?_)
            | refine k_call (hp := hn2) (h := ?_)
            | refine k_call (hp := hg) (h := ?_)
            | refine k_call (hp := ht) (h := ?_)
            | (refine k_box (h := ?_); intro g)
            | (refine k_alloc (h := ?_); intro g)
            | refine k_store (h := ?_)
            | refine k_field_agg (h := ?_)
            | refine k_field_one (h := ?_)
            | refine k_build (h := ?_)
            | refine k_conv (h := ?_)
            | refine k_not (h := ?_)
            | refine k_eqb (h := ?_)
            | refine k_neb (h := ?_)
            | refine k_eqs (h := ?_)
            | refine k_nes (h := ?_)
            | refine k_pick_t (h := ?_)
            | refine k_pick_f (h := ?_)
            | refine k_nilCheck (h := ?_)
            | refine k_makeFunc (h := ?_)
            | refine k_shl (h := ?_)
            | refine k_shr (h := ?_)
            | refine k_neg (h := ?_)
            | refine k_index_arr (h := ?_)
            | refine k_len_slice (h := ?_)
            | refine k_quo (h := ?_)
            | refine k_rem (h := ?_)
            | (refine k_buildSlice (h := ?_); intro g)
            | refine k_indexAddr_arr (h := ?_)
            | refine c_true (h := ?_)
            | refine c_false (h := ?_)
            | refine k_len_str (h := ?_)
            | refine k_str_add (h := ?_)
            | refine k_str_eq (h := ?_)
            | refine k_str_ne (h := ?_)
            | refine k_index_str (h := ?_)
            | refine k_slice_hi (h := ?_)
            | refine k_slice_lo (h := ?_)
            | refine k_slice_lh (h := ?_)
            | refine k_slice_all (h := ?_)
            | refine k_max (h := ?_)
            | (refine s_ask (by eq_refl) (by eq_refl) (evO_eq (by eq_refl)) (fun hask => ?_) (fun hask => ?_))
            | (refine c_split (by eq_refl) (fun hif => ?_) (fun hif => ?_))
          )
        all_goals refine hQ _ _ (ret2 rfl (by (first | exact v_tmp | exact v_one | exact v_agg)) (by (first | exact v_tmp | exact v_one | exact v_agg)) ?_)
        all_goals rfl
      | true =>
        refine pure_q Tryd.func8 rfl Tryd.ntmps8 rfl rfl (fun w0 Q hQ => ?_)
        repeat' (
          first
            | (refine k_conv (h := ?_); rw [h1])
            | refine j_seq_k (fun N hN => ?_)
            | refine j_text ?_
            | refine j_block ?_
            | refine j_skip ?_
            | refine j_ret ?_
            | refine j_exit ?_
            | refine s_nil (show X _ _ _ _ _ from ?_)
            | (refine x_next hN ?_; clear hN N)
            | (refine x_then_ret ?_; clear hN N)
            | (refine x_then_exit ?_; clear hN N)
            | refine x_block ?_
            | refine x_block_ret ?_
            | refine x_block_hit ?_
            | refine x_block_miss (by eq_refl) ?_
            | refine k_skip (h := ?_)
            | refine k_skip0 (h := ?_)
            | refine k_fieldAddr (h := ?_)
            | refine k_load_one (h := ?_)
            | refine k_load_agg (h := ?_)
            | refine k_bin (h := ?_)
            | refine k_move (h := ?_)
            | refine k_assign (h := ?_)
            | refine k_extract (h := ?_)
            | refine k_call (hp := hp) (h := ?_)
            | refine k_call (hp := hc) (h := ?_)
            | refine k_call (hp := hn1) (h := ?_)
            | refine k_call (hp := hn2) (h := ?_)
            | refine k_call (hp := hg) (h := ?_)
            | refine k_call (hp := ht) (h := ?_)
            | (refine k_box (h := ?_); intro g)
            | (refine k_alloc (h := ?_); intro g)
            | refine k_store (h := ?_)
            | refine k_field_agg (h := ?_)
            | refine k_field_one (h := ?_)
            | refine k_build (h := ?_)
            | refine k_conv (h := ?_)
            | refine k_not (h := ?_)
            | refine k_eqb (h := ?_)
            | refine k_neb (h := ?_)
            | refine k_eqs (h := ?_)
            | refine k_nes (h := ?_)
            | refine k_pick_t (h := ?_)
            | refine k_pick_f (h := ?_)
            | refine k_nilCheck (h := ?_)
            | refine k_makeFunc (h := ?_)
            | refine k_shl (h := ?_)
            | refine k_shr (h := ?_)
            | refine k_neg (h := ?_)
            | refine k_index_arr (h := ?_)
            | refine k_len_slice (h := ?_)
            | refine k_quo (h := ?_)
            | refine k_rem (h := ?_)
            | (refine k_buildSlice (h := ?_); intro g)
            | refine k_indexAddr_arr (h := ?_)
            | refine c_true (h := ?_)
            | refine c_false (h := ?_)
            | refine k_len_str (h := ?_)
            | refine k_str_add (h := ?_)
            | refine k_str_eq (h := ?_)
            | refine k_str_ne (h := ?_)
            | refine k_index_str (h := ?_)
            | refine k_slice_hi (h := ?_)
            | refine k_slice_lo (h := ?_)
            | refine k_slice_lh (h := ?_)
            | refine k_slice_all (h := ?_)
            | refine k_max (h := ?_)
            | (refine s_ask (by eq_refl) (by eq_refl) (evO_eq (by eq_refl)) (fun hask => ?_) (fun hask => ?_))
            | (refine c_split (by eq_refl) (fun hif => ?_) (fun hif => ?_))
          )
        all_goals refine hQ _ _ (ret2 rfl (by (first | exact v_tmp | exact v_one | exact v_agg)) (by (first | exact v_tmp | exact v_one | exact v_agg)) ?_)
        all_goals rfl
end Go.Proofs.YtmgfabfmnachoaaDoor.Own
