/- Numbers as text: the document's, and what a text says. -/
import Derived.Test.YtmgfabfmnachoaaDoorHxC
namespace Go.Proofs.YtmgfabfmnachoaaDoor.Own
open Go Go.RowKit Go.Proofs Go.Proofs.YtmgfabfmnachoaaDoor.Plain Go.Proofs.YtmgfabfmnachoaaDoor.Hx
set_option linter.unusedVariables false
set_option linter.unusedSimpArgs false
set_option maxRecDepth 100000
set_option maxHeartbeats 4000000
theorem hexL_cons (k n : Nat) : hexL (k + 1) n = dg (n / 16 ^ k % 16) :: hexL k n := by
  induction k generalizing n with
  | zero => simp [hexL]
  | succ k ih =>
    rw [hexL, ih, Nat.div_div_eq_div_mul, Nat.mul_comm 16, ← Nat.pow_succ]
    rfl
theorem hexL_small (k n m : Nat) (h : n % 16 ^ k = m % 16 ^ k) : hexL k n = hexL k m := by
  induction k generalizing n m with
  | zero => rfl
  | succ k ih =>
    have h1 := h
    rw [Nat.pow_succ, Nat.mul_comm] at h1
    have e1 : n / 16 % 16 ^ k = m / 16 % 16 ^ k := by
      have a := Nat.mod_mul_right_div_self n 16 (16 ^ k)
      have b := Nat.mod_mul_right_div_self m 16 (16 ^ k)
      rw [← a, ← b, h1]
    have e2 : n % 16 = m % 16 := by
      have a := Nat.mod_mul_right_mod n 16 (16 ^ k)
      have b := Nat.mod_mul_right_mod m 16 (16 ^ k)
      rw [← a, ← b, h1]
    rw [hexL, hexL, ih _ _ e1, e2]
theorem rhex_facts (n d j : Nat) (hn : n < 18446744073709551616) (hd : d ≤ 16) (hk : j ≤ 16) (hgo : 0 < n / 16 ^ j ∨ j < d) : j < 16 ∧
    arith .and .u64 ((n / 16 ^ j : Nat) : Int) 15 = some (.int .u64 ((n / 16 ^ j % 16 : Nat) : Int)) ∧
    arith .add .u64 ((n / 16 ^ j % 16 : Nat) : Int) 1 = some (.int .u64 ((n / 16 ^ j % 16 + 1 : Nat) : Int)) ∧
    subS dgt ((n / 16 ^ j % 16 : Nat) : Int) ((n / 16 ^ j % 16 + 1 : Nat) : Int) = some [dg (n / 16 ^ j % 16)] ∧
    addS [dg (n / 16 ^ j % 16)] (hexL j n) = some (hexL (j + 1) n) ∧
    ((n / 16 ^ j : Nat) : Int).fdiv (2 ^ (min (4 : Int).toNat IntKind.u64.bits)) = ((n / 16 ^ (j + 1) : Nat) : Int) ∧
    (j + 1 = 0 ∨ j + 1 ≤ d ∨ 16 ^ (j + 1 - 1) ≤ n) := by
  have h16 : j < 16 := by
    rcases hgo with h | h
    · apply Classical.byContradiction
      intro q
      have : j = 16 := by omega
      subst this
      rw [show (16 : Nat) ^ 16 = 18446744073709551616 by decide] at h
      omega
    · omega
  have hl := hexL_len j n
  have hlt : n / 16 ^ j < 18446744073709551616 := Nat.lt_of_le_of_lt (Nat.div_le_self _ _) hn
  have hm : n / 16 ^ j % 16 < 16 := Nat.mod_lt _ (by decide)
  have e6 := addS_ok [dg (n / 16 ^ j % 16)] (hexL j n) (by simp [hl]; omega)
  have e7 := shr_nat (n / 16 ^ j) 4 (by decide)
  have e8 : n / 16 ^ j / 16 = n / 16 ^ (j + 1) := by rw [Nat.div_div_eq_div_mul, ← Nat.pow_succ]
  rw [show (2 : Nat) ^ 4 = 16 from rfl] at e7
  have e9 := hexL_cons j n
  rw [e8] at e7
  rw [List.singleton_append, ← e9] at e6
  refine ⟨h16, and_15 (n / 16 ^ j) hlt, ?_, ?_, e6, e7, ?_⟩
  · simp only [arith, IntKind.wrap_u64, Option.some.injEq, Value.int.injEq, true_and]; omega
  · have : ∀ d : Fin 16, subS dgt (d.val : Int) ((d.val + 1 : Nat) : Int) = some [dg d.val] := by decide
    exact this ⟨_, hm⟩
  · rcases hgo with h | h
    · refine .inr (.inr ?_)
      apply Classical.byContradiction
      intro q
      rw [Nat.div_eq_of_lt (by simpa using q)] at h
      omega
    · exact .inr (.inl h)
theorem rhex_gen (n d : Nat) (R : List UInt8) (hn : n < 18446744073709551616) (hd : d ≤ 16) (hR : ∀ j, j ≤ 16 → n < 16 ^ j → d ≤ j → (j = 0 ∨ j ≤ d ∨ 16 ^ (j - 1) ≤ n) → hexL j n = R) :
    Pure Tryd.prog 23 #[.int .u64 (n : Nat), .int .i64 (d : Nat)] (.string (B R)) := by
  have tt : true = true := rfl; have ff : false = false := rfl; have nt : (!true) = false := rfl; have nf : (!false) = true := rfl
  refine pure_q Tryd.func23 rfl Tryd.ntmps23 rfl rfl (fun w0 Q hQ => ?_)
  repeat (
    first
      | refine j_seq_k (fun N hN => ?_)
      | refine j_text ?_
      | refine j_block ?_
      | refine j_skip ?_
      | refine j_ret ?_
      | refine j_exit ?_
      | refine s_nil (show X _ _ _ _ _ from ?_)
      | (refine x_next hN ?_; clear hN N)
      | (refine x_then_ret ?_; clear hN N)
      | (refine x_then_exit ?_; clear hN N)
      | refine x_block ?_
      | refine x_block_ret ?_
      | refine x_block_hit ?_
      | refine x_block_miss (by eq_refl) ?_
      | refine k_skip (h := ?_)
      | refine k_skip0 (h := ?_)
      | refine k_fieldAddr (h := ?_)
      | refine k_load_one (h := ?_)
      | refine k_load_agg (h := ?_)
      | refine k_bin (h := ?_)
      | refine k_move (h := ?_)
      | refine k_assign (h := ?_)
      | refine k_extract (h := ?_)
      | (refine k_box (h := ?_); intro g)
      | (refine k_alloc (h := ?_); intro g)
      | refine k_store (h := ?_)
      | refine k_field_agg (h := ?_)
      | refine k_field_one (h := ?_)
      | refine k_build (h := ?_)
      | refine k_conv (h := ?_)
      | refine k_not (h := ?_)
      | refine k_eqb (h := ?_)
      | refine k_neb (h := ?_)
      | refine k_eqs (h := ?_)
      | refine k_nes (h := ?_)
      | refine k_pick_t (h := ?_)
      | refine k_pick_f (h := ?_)
      | refine k_nilCheck (h := ?_)
      | refine k_makeFunc (h := ?_)
      | refine k_shl (h := ?_)
      | refine k_shr (h := ?_)
      | refine k_neg (h := ?_)
      | refine k_index_arr (h := ?_)
      | refine k_len_slice (h := ?_)
      | refine k_quo (h := ?_)
      | refine k_rem (h := ?_)
      | (refine k_buildSlice (h := ?_); intro g)
      | refine k_indexAddr_arr (h := ?_)
      | refine c_true (h := ?_)
      | refine c_false (h := ?_)
      | refine k_len_str (h := ?_)
      | refine k_str_add (h := ?_)
      | refine k_str_eq (h := ?_)
      | refine k_str_ne (h := ?_)
      | refine k_index_str (h := ?_)
      | refine k_slice_hi (h := ?_)
      | refine k_slice_lo (h := ?_)
      | refine k_slice_lh (h := ?_)
      | refine k_slice_all (h := ?_)
      | refine k_max (h := ?_)
      | (refine s_ask (by eq_refl) (by eq_refl) (evO_eq (by eq_refl)) (fun hask => ?_) (fun hask => ?_))
      | (refine c_split (by eq_refl) (fun hif => ?_) (fun hif => ?_))
    )
  refine j_rem 0 rfl (j_rem 1 rfl (j_rem 5 rfl ?_))
  refine j_loop_k (fun m l L => ∃ (j : Nat) (rest : List (Nat × Value)), j + m = 16 ∧ (j = 0 ∨ j ≤ d ∨ 16 ^ (j - 1) ≤ n) ∧ l = (5, .string (B (hexL j n))) :: (1, .int .i64 (d : Nat)) :: (0, .int .u64 (n / 16 ^ j : Nat)) :: rest ∧ L = []) 16 ?_ ?_
  · have z : (n : Int) = ((n / 16 ^ 0 : Nat) : Int) := by rw [Nat.pow_zero, Nat.div_one]
    refine ⟨0, ?rest, rfl, .inl rfl, ?_, rfl⟩
    rotate_left
    · rw [← z]; exact rfl
  rintro m l L N ⟨j, rest, hk, hj, rfl, rfl⟩ hN
  have hl := hexL_len j n
  have e1 : arith .gtr .u64 ((n / 16 ^ j : Nat) : Int) 0 = some (.bool (decide (0 < n / 16 ^ j))) := by simp only [arith, Option.some.injEq, Value.bool.injEq, decide_eq_decide]; omega
  have e2 : arith .lss .i64 (((hexL j n).length : Nat) : Int) (d : Nat) = some (.bool (decide (j < d))) := by rw [hl]; simp only [arith, Option.some.injEq, Value.bool.injEq, decide_eq_decide]; omega
  by_cases h1 : 0 < n / 16 ^ j
  · rw [decide_eq_true h1] at e1
    obtain ⟨h16, e3, e4, e5, e6, e7, hj'⟩ := rhex_facts n d j hn hd (by omega) (.inl h1)
    clear e2 hR
    generalize hexL j n = S at *
    generalize n / 16 ^ j = q at *
    repeat (
      first
        | refine k_slice_lh (s := dgt) (hr := e5) (h := ?_)
        | refine j_seq_k (fun N hN => ?_)
        | refine j_text ?_
        | refine j_block ?_
        | refine j_skip ?_
        | refine j_ret ?_
        | refine j_exit ?_
        | refine s_nil (show X _ _ _ _ _ from ?_)
        | (refine x_next hN ?_; clear hN N)
        | (refine x_then_ret ?_; clear hN N)
        | (refine x_then_exit ?_; clear hN N)
        | refine x_block ?_
        | refine x_block_ret ?_
        | refine x_block_hit ?_
        | refine x_block_miss (by eq_refl) ?_
        | refine k_skip (h := ?_)
        | refine k_skip0 (h := ?_)
        | refine k_fieldAddr (h := ?_)
        | refine k_load_one (h := ?_)
        | refine k_load_agg (h := ?_)
        | refine k_bin (h := ?_)
        | refine k_move (h := ?_)
        | refine k_assign (h := ?_)
        | refine k_extract (h := ?_)
        | (refine k_box (h := ?_); intro g)
        | (refine k_alloc (h := ?_); intro g)
        | refine k_store (h := ?_)
        | refine k_field_agg (h := ?_)
        | refine k_field_one (h := ?_)
        | refine k_build (h := ?_)
        | refine k_conv (h := ?_)
        | refine k_not (h := ?_)
        | refine k_eqb (h := ?_)
        | refine k_neb (h := ?_)
        | refine k_eqs (h := ?_)
        | refine k_nes (h := ?_)
        | refine k_pick_t (h := ?_)
        | refine k_pick_f (h := ?_)
        | refine k_nilCheck (h := ?_)
        | refine k_makeFunc (h := ?_)
        | refine k_shl (h := ?_)
        | refine k_shr (h := ?_)
        | refine k_neg (h := ?_)
        | refine k_index_arr (h := ?_)
        | refine k_len_slice (h := ?_)
        | refine k_quo (h := ?_)
        | refine k_rem (h := ?_)
        | (refine k_buildSlice (h := ?_); intro g)
        | refine k_indexAddr_arr (h := ?_)
        | refine c_true (h := ?_)
        | refine c_false (h := ?_)
        | refine k_len_str (h := ?_)
        | refine k_str_add (h := ?_)
        | refine k_str_eq (h := ?_)
        | refine k_str_ne (h := ?_)
        | refine k_index_str (h := ?_)
        | refine k_slice_hi (h := ?_)
        | refine k_slice_lo (h := ?_)
        | refine k_slice_lh (h := ?_)
        | refine k_slice_all (h := ?_)
        | refine k_max (h := ?_)
        | (refine s_ask (by eq_refl) (by eq_refl) (evO_eq (by eq_refl)) (fun hask => ?_) (fun hask => ?_))
        | (refine c_split (by eq_refl) (fun hif => ?_) (fun hif => ?_))
      )
    refine x_rem 0 rfl (x_rem 1 rfl (x_rem 5 rfl ?_))
    exact hN (m - 1) _ _ (by omega) ⟨j + 1, _, by omega, hj', rfl, rfl⟩
  · rw [decide_eq_false h1] at e1
    by_cases h2 : j < d
    · rw [decide_eq_true h2] at e2
      obtain ⟨h16, e3, e4, e5, e6, e7, hj'⟩ := rhex_facts n d j hn hd (by omega) (.inr h2)
      clear hR
      generalize hexL j n = S at *
      generalize n / 16 ^ j = q at *
      repeat (
        first
          | refine k_slice_lh (s := dgt) (hr := e5) (h := ?_)
          | refine j_seq_k (fun N hN => ?_)
          | refine j_text ?_
          | refine j_block ?_
          | refine j_skip ?_
          | refine j_ret ?_
          | refine j_exit ?_
          | refine s_nil (show X _ _ _ _ _ from ?_)
          | (refine x_next hN ?_; clear hN N)
          | (refine x_then_ret ?_; clear hN N)
          | (refine x_then_exit ?_; clear hN N)
          | refine x_block ?_
          | refine x_block_ret ?_
          | refine x_block_hit ?_
          | refine x_block_miss (by eq_refl) ?_
          | refine k_skip (h := ?_)
          | refine k_skip0 (h := ?_)
          | refine k_fieldAddr (h := ?_)
          | refine k_load_one (h := ?_)
          | refine k_load_agg (h := ?_)
          | refine k_bin (h := ?_)
          | refine k_move (h := ?_)
          | refine k_assign (h := ?_)
          | refine k_extract (h := ?_)
          | (refine k_box (h := ?_); intro g)
          | (refine k_alloc (h := ?_); intro g)
          | refine k_store (h := ?_)
          | refine k_field_agg (h := ?_)
          | refine k_field_one (h := ?_)
          | refine k_build (h := ?_)
          | refine k_conv (h := ?_)
          | refine k_not (h := ?_)
          | refine k_eqb (h := ?_)
          | refine k_neb (h := ?_)
          | refine k_eqs (h := ?_)
          | refine k_nes (h := ?_)
          | refine k_pick_t (h := ?_)
          | refine k_pick_f (h := ?_)
          | refine k_nilCheck (h := ?_)
          | refine k_makeFunc (h := ?_)
          | refine k_shl (h := ?_)
          | refine k_shr (h := ?_)
          | refine k_neg (h := ?_)
          | refine k_index_arr (h := ?_)
          | refine k_len_slice (h := ?_)
          | refine k_quo (h := ?_)
          | refine k_rem (h := ?_)
          | (refine k_buildSlice (h := ?_); intro g)
          | refine k_indexAddr_arr (h := ?_)
          | refine c_true (h := ?_)
          | refine c_false (h := ?_)
          | refine k_len_str (h := ?_)
          | refine k_str_add (h := ?_)
          | refine k_str_eq (h := ?_)
          | refine k_str_ne (h := ?_)
          | refine k_index_str (h := ?_)
          | refine k_slice_hi (h := ?_)
          | refine k_slice_lo (h := ?_)
          | refine k_slice_lh (h := ?_)
          | refine k_slice_all (h := ?_)
          | refine k_max (h := ?_)
          | (refine s_ask (by eq_refl) (by eq_refl) (evO_eq (by eq_refl)) (fun hask => ?_) (fun hask => ?_))
          | (refine c_split (by eq_refl) (fun hif => ?_) (fun hif => ?_))
        )
      refine x_rem 0 rfl (x_rem 1 rfl (x_rem 5 rfl ?_))
      exact hN (m - 1) _ _ (by omega) ⟨j + 1, _, by omega, hj', rfl, rfl⟩
    · rw [decide_eq_false h2] at e2
      have hR' := hR j (by omega) (by
        apply Classical.byContradiction
        intro q
        exact h1 (Nat.div_pos (by omega) (Nat.pow_pos (by decide)))) (by omega) hj
      rw [hR'] at e2 ⊢
      clear hR hR'
      generalize n / 16 ^ j = q at *
      repeat (
        first
          | refine j_seq_k (fun N hN => ?_)
          | refine j_text ?_
          | refine j_block ?_
          | refine j_skip ?_
          | refine j_ret ?_
          | refine j_exit ?_
          | refine s_nil (show X _ _ _ _ _ from ?_)
          | (refine x_next hN ?_; clear hN N)
          | (refine x_then_ret ?_; clear hN N)
          | (refine x_then_exit ?_; clear hN N)
          | refine x_block ?_
          | refine x_block_ret ?_
          | refine x_block_hit ?_
          | refine x_block_miss (by eq_refl) ?_
          | refine k_skip (h := ?_)
          | refine k_skip0 (h := ?_)
          | refine k_fieldAddr (h := ?_)
          | refine k_load_one (h := ?_)
          | refine k_load_agg (h := ?_)
          | refine k_bin (h := ?_)
          | refine k_move (h := ?_)
          | refine k_assign (h := ?_)
          | refine k_extract (h := ?_)
          | (refine k_box (h := ?_); intro g)
          | (refine k_alloc (h := ?_); intro g)
          | refine k_store (h := ?_)
          | refine k_field_agg (h := ?_)
          | refine k_field_one (h := ?_)
          | refine k_build (h := ?_)
          | refine k_conv (h := ?_)
          | refine k_not (h := ?_)
          | refine k_eqb (h := ?_)
          | refine k_neb (h := ?_)
          | refine k_eqs (h := ?_)
          | refine k_nes (h := ?_)
          | refine k_pick_t (h := ?_)
          | refine k_pick_f (h := ?_)
          | refine k_nilCheck (h := ?_)
          | refine k_makeFunc (h := ?_)
          | refine k_shl (h := ?_)
          | refine k_shr (h := ?_)
          | refine k_neg (h := ?_)
          | refine k_index_arr (h := ?_)
          | refine k_len_slice (h := ?_)
          | refine k_quo (h := ?_)
          | refine k_rem (h := ?_)
          | (refine k_buildSlice (h := ?_); intro g)
          | refine k_indexAddr_arr (h := ?_)
          | refine c_true (h := ?_)
          | refine c_false (h := ?_)
          | refine k_len_str (h := ?_)
          | refine k_str_add (h := ?_)
          | refine k_str_eq (h := ?_)
          | refine k_str_ne (h := ?_)
          | refine k_index_str (h := ?_)
          | refine k_slice_hi (h := ?_)
          | refine k_slice_lo (h := ?_)
          | refine k_slice_lh (h := ?_)
          | refine k_slice_all (h := ?_)
          | refine k_max (h := ?_)
          | (refine s_ask (by eq_refl) (by eq_refl) (evO_eq (by eq_refl)) (fun hask => ?_) (fun hask => ?_))
          | (refine c_split (by eq_refl) (fun hif => ?_) (fun hif => ?_))
        )
      refine hQ _ _ (ret1 rfl (by (first | exact v_tmp | exact v_one | exact v_agg)) ?_)
      rfl
theorem rhex1_pure (n : Nat) (hn : n < 18446744073709551616) : Pure Tryd.prog 23 #[.int .u64 (n : Nat), .int .i64 1] (.string (B (hexS n))) :=
  rhex_gen n 1 _ hn (by decide) fun j _ h1 h2 h3 => by
    cases j with
    | zero => omega
    | succ j =>
      refine hexL_hexS j n h1 ?_
      rcases h3 with h | h | h
      · omega
      · exact .inl (by omega)
      · exact .inr (by simpa using h)
theorem rhex16_pure (n : Nat) (hn : n < 18446744073709551616) : Pure Tryd.prog 23 #[.int .u64 (n : Nat), .int .i64 16] (.string (B (hexL 16 n))) :=
  rhex_gen n 16 _ hn (by decide) fun j h1 h2 h3 _ => by rw [show j = 16 by omega]
theorem rtext_pure (a : Fx) : Pure Tryd.prog 11 #[a.v] (.string (B (textF a))) := by
  have hm := rmay_pure a
  have hg := mag_pure a
  obtain ⟨e, he⟩ : ∃ e, mayF a = e := ⟨_, rfl⟩
  unfold textF
  rw [he]
  rw [he] at hm
  have tt : true = true := rfl; have ff : false = false := rfl; have nt : (!true) = false := rfl; have nf : (!false) = true := rfl
  cases e with
  | false =>
    refine pure_q Tryd.func11 rfl Tryd.ntmps11 rfl rfl (fun w0 Q hQ => ?_)
    repeat' (
      first
        | refine j_seq_k (fun N hN => ?_)
        | refine j_text ?_
        | refine j_draw (id := 4) [] (by kernel_rfl) (by kernel_rfl) ?_
        | refine j_block ?_
        | refine j_skip ?_
        | refine j_ret ?_
        | refine j_exit ?_
        | refine s_nil (show X _ _ _ _ _ from ?_)
        | (refine x_next hN ?_; clear hN N)
        | (refine x_then_ret ?_; clear hN N)
        | (refine x_then_exit ?_; clear hN N)
        | refine x_block ?_
        | refine x_block_ret ?_
        | refine x_block_hit ?_
        | refine x_block_miss (by eq_refl) ?_
        | refine k_skip (h := ?_)
        | refine k_skip0 (h := ?_)
        | refine k_fieldAddr (h := ?_)
        | refine k_load_one (h := ?_)
        | refine k_load_agg (h := ?_)
        | refine k_bin (h := ?_)
        | refine k_move (h := ?_)
        | refine k_assign (h := ?_)
        | refine k_extract (h := ?_)
        | refine k_call (hp := hm) (h := ?_)
        | (refine k_box (h := ?_); intro g)
        | (refine k_alloc (h := ?_); intro g)
        | refine k_store (h := ?_)
        | refine k_field_agg (h := ?_)
        | refine k_field_one (h := ?_)
        | refine k_build (h := ?_)
        | refine k_conv (h := ?_)
        | refine k_not (h := ?_)
        | refine k_eqb (h := ?_)
        | refine k_neb (h := ?_)
        | refine k_eqs (h := ?_)
        | refine k_nes (h := ?_)
        | refine k_pick_t (h := ?_)
        | refine k_pick_f (h := ?_)
        | refine k_nilCheck (h := ?_)
        | refine k_makeFunc (h := ?_)
        | refine k_shl (h := ?_)
        | refine k_shr (h := ?_)
        | refine k_neg (h := ?_)
        | refine k_index_arr (h := ?_)
        | refine k_len_slice (h := ?_)
        | refine k_quo (h := ?_)
        | refine k_rem (h := ?_)
        | (refine k_buildSlice (h := ?_); intro g)
        | refine k_indexAddr_arr (h := ?_)
        | refine c_true (h := ?_)
        | refine c_false (h := ?_)
        | refine k_len_str (h := ?_)
        | refine k_str_add (h := ?_)
        | refine k_str_eq (h := ?_)
        | refine k_str_ne (h := ?_)
        | refine k_index_str (h := ?_)
        | refine k_slice_hi (h := ?_)
        | refine k_slice_lo (h := ?_)
        | refine k_slice_lh (h := ?_)
        | refine k_slice_all (h := ?_)
        | refine k_max (h := ?_)
        | (refine s_ask (by eq_refl) (by eq_refl) (evO_eq (by eq_refl)) (fun hask => ?_) (fun hask => ?_))
        | (refine c_split (by eq_refl) (fun hif => ?_) (fun hif => ?_))
      )
    all_goals refine hQ _ _ (ret1 rfl (by (first | exact v_tmp | exact v_one | exact v_agg)) ?_)
    all_goals rfl
  | true =>
    rw [if_pos rfl]
    have hlt := a.lt
    obtain ⟨s, hs⟩ : ∃ s, decide (a.hi < 0) = s := ⟨_, rfl⟩
    have e1 : arith .lss .i64 a.hi 0 = some (.bool s) := by simp only [arith, hs]
    have es : decide (a.n < 0) = s := by rw [← hs]; exact decide_eq_decide.2 a.neg_iff.symm
    rw [es]
    obtain ⟨W, F, hW, hF, hv1, hv2⟩ : ∃ W F : Nat, W < 18446744073709551616 ∧ F < 18446744073709551616 ∧ a.n.natAbs / 18446744073709551616 = W ∧ a.n.natAbs % 18446744073709551616 = F := by
      refine ⟨_, _, ?_, ?_, rfl, rfl⟩ <;> omega
    have i1 : a.mag.hi = (W : Int) := by
      show (Two.of a.n.natAbs).hi = _
      rw [Two.of_hi]; omega
    have i2 : a.mag.lo = (F : Int) := by
      show (Two.of a.n.natAbs).lo = _
      rw [Two.of_lo]; omega
    have hg' : Pure Tryd.prog 22 #[a.v] (.agg #[.int .u64 (W : Int), .int .u64 (F : Int)]) := by rw [← i1, ← i2]; exact hg
    rw [hv1, hv2]
    have hx := rhex1_pure W hW
    have hx2 := rhex16_pure F hF
    have hl1 := hexL_len 16 F
    have hl2 := hexL_le 16 W (by rw [show (16 : Nat) ^ 16 = 18446744073709551616 by decide]; exact hW)
    unfold txt
    generalize hexL 16 F = Y at *
    generalize hexS W = S at *
    have hlS : S.length ≤ 16 := by simpa using hl2
    have a1 := addS_ok S [46] (by simp; omega)
    have a2 := addS_ok (S ++ [46]) Y (by simp; omega)
    have a3 := addS_ok [45] ((S ++ [46]) ++ Y) (by simp; omega)
    clear hg i1 i2 es hs hl2 hl1 hlt he hv1 hv2 hW hF
    cases s with
    | false =>
      refine pure_q Tryd.func11 rfl Tryd.ntmps11 rfl rfl (fun w0 Q hQ => ?_)
      repeat' (
        first
          | refine j_seq_k (fun N hN => ?_)
          | refine j_text ?_
          | refine j_draw (id := 4) [] (by kernel_rfl) (by kernel_rfl) ?_
          | refine j_block ?_
          | refine j_skip ?_
          | refine j_ret ?_
          | refine j_exit ?_
          | refine s_nil (show X _ _ _ _ _ from ?_)
          | (refine x_next hN ?_; clear hN N)
          | (refine x_then_ret ?_; clear hN N)
          | (refine x_then_exit ?_; clear hN N)
          | refine x_block ?_
          | refine x_block_ret ?_
          | refine x_block_hit ?_
          | refine x_block_miss (by eq_refl) ?_
          | refine k_skip (h := ?_)
          | refine k_skip0 (h := ?_)
          | refine k_fieldAddr (h := ?_)
          | refine k_load_one (h := ?_)
          | refine k_load_agg (h := ?_)
          | refine k_bin (h := ?_)
          | refine k_move (h := ?_)
          | refine k_assign (h := ?_)
          | refine k_extract (h := ?_)
          | refine k_call (hp := hm) (h := ?_)
          | refine k_call (hp := hg') (h := ?_)
          | refine k_call (hp := hx) (h := ?_)
          | refine k_call (hp := hx2) (h := ?_)
          | (refine k_box (h := ?_); intro g)
          | (refine k_alloc (h := ?_); intro g)
          | refine k_store (h := ?_)
          | refine k_field_agg (h := ?_)
          | refine k_field_one (h := ?_)
          | refine k_build (h := ?_)
          | refine k_conv (h := ?_)
          | refine k_not (h := ?_)
          | refine k_eqb (h := ?_)
          | refine k_neb (h := ?_)
          | refine k_eqs (h := ?_)
          | refine k_nes (h := ?_)
          | refine k_pick_t (h := ?_)
          | refine k_pick_f (h := ?_)
          | refine k_nilCheck (h := ?_)
          | refine k_makeFunc (h := ?_)
          | refine k_shl (h := ?_)
          | refine k_shr (h := ?_)
          | refine k_neg (h := ?_)
          | refine k_index_arr (h := ?_)
          | refine k_len_slice (h := ?_)
          | refine k_quo (h := ?_)
          | refine k_rem (h := ?_)
          | (refine k_buildSlice (h := ?_); intro g)
          | refine k_indexAddr_arr (h := ?_)
          | refine c_true (h := ?_)
          | refine c_false (h := ?_)
          | refine k_len_str (h := ?_)
          | refine k_str_add (h := ?_)
          | refine k_str_eq (h := ?_)
          | refine k_str_ne (h := ?_)
          | refine k_index_str (h := ?_)
          | refine k_slice_hi (h := ?_)
          | refine k_slice_lo (h := ?_)
          | refine k_slice_lh (h := ?_)
          | refine k_slice_all (h := ?_)
          | refine k_max (h := ?_)
          | (refine s_ask (by eq_refl) (by eq_refl) (evO_eq (by eq_refl)) (fun hask => ?_) (fun hask => ?_))
          | (refine c_split (by eq_refl) (fun hif => ?_) (fun hif => ?_))
        )
      all_goals refine hQ _ _ (ret1 rfl (by (first | exact v_tmp | exact v_one | exact v_agg)) ?_)
      all_goals simp
    | true =>
      refine pure_q Tryd.func11 rfl Tryd.ntmps11 rfl rfl (fun w0 Q hQ => ?_)
      repeat' (
        first
          | refine j_seq_k (fun N hN => ?_)
          | refine j_text ?_
          | refine j_draw (id := 4) [] (by kernel_rfl) (by kernel_rfl) ?_
          | refine j_block ?_
          | refine j_skip ?_
          | refine j_ret ?_
          | refine j_exit ?_
          | refine s_nil (show X _ _ _ _ _ from ?_)
          | (refine x_next hN ?_; clear hN N)
          | (refine x_then_ret ?_; clear hN N)
          | (refine x_then_exit ?_; clear hN N)
          | refine x_block ?_
          | refine x_block_ret ?_
          | refine x_block_hit ?_
          | refine x_block_miss (by eq_refl) ?_
          | refine k_skip (h := ?_)
          | refine k_skip0 (h := ?_)
          | refine k_fieldAddr (h := ?_)
          | refine k_load_one (h := ?_)
          | refine k_load_agg (h := ?_)
          | refine k_bin (h := ?_)
          | refine k_move (h := ?_)
          | refine k_assign (h := ?_)
          | refine k_extract (h := ?_)
          | refine k_call (hp := hm) (h := ?_)
          | refine k_call (hp := hg') (h := ?_)
          | refine k_call (hp := hx) (h := ?_)
          | refine k_call (hp := hx2) (h := ?_)
          | (refine k_box (h := ?_); intro g)
          | (refine k_alloc (h := ?_); intro g)
          | refine k_store (h := ?_)
          | refine k_field_agg (h := ?_)
          | refine k_field_one (h := ?_)
          | refine k_build (h := ?_)
          | refine k_conv (h := ?_)
          | refine k_not (h := ?_)
          | refine k_eqb (h := ?_)
          | refine k_neb (h := ?_)
          | refine k_eqs (h := ?_)
          | refine k_nes (h := ?_)
          | refine k_pick_t (h := ?_)
          | refine k_pick_f (h := ?_)
          | refine k_nilCheck (h := ?_)
          | refine k_makeFunc (h := ?_)
          | refine k_shl (h := ?_)
          | refine k_shr (h := ?_)
          | refine k_neg (h := ?_)
          | refine k_index_arr (h := ?_)
          | refine k_len_slice (h := ?_)
          | refine k_quo (h := ?_)
          | refine k_rem (h := ?_)
          | (refine k_buildSlice (h := ?_); intro g)
          | refine k_indexAddr_arr (h := ?_)
          | refine c_true (h := ?_)
          | refine c_false (h := ?_)
          | refine k_len_str (h := ?_)
          | refine k_str_add (h := ?_)
          | refine k_str_eq (h := ?_)
          | refine k_str_ne (h := ?_)
          | refine k_index_str (h := ?_)
          | refine k_slice_hi (h := ?_)
          | refine k_slice_lo (h := ?_)
          | refine k_slice_lh (h := ?_)
          | refine k_slice_all (h := ?_)
          | refine k_max (h := ?_)
          | (refine s_ask (by eq_refl) (by eq_refl) (evO_eq (by eq_refl)) (fun hask => ?_) (fun hask => ?_))
          | (refine c_split (by eq_refl) (fun hif => ?_) (fun hif => ?_))
        )
      all_goals refine hQ _ _ (ret1 rfl (by (first | exact v_tmp | exact v_one | exact v_agg)) ?_)
      all_goals simp
end Go.Proofs.YtmgfabfmnachoaaDoor.Own
