/- Numbers as text: the law HexaWhole, as the code goes. -/
import Derived.Test.YtmgfabfmnachoaaDoorHxJ
namespace Go.Proofs.YtmgfabfmnachoaaDoor.Own
open Go Go.RowKit Go.Proofs Go.Proofs.YtmgfabfmnachoaaDoor.Plain Go.Proofs.YtmgfabfmnachoaaDoor.Hx
set_option linter.unusedVariables false
set_option linter.unusedSimpArgs false
set_option maxRecDepth 100000
set_option maxHeartbeats 4000000
def tdot : List UInt8 := [46, 48, 48, 48, 48, 48, 48, 48, 48, 48, 48, 48, 48, 48, 48, 48, 48]
theorem tdot_eq : 46 :: hexL 16 0 = tdot := by decide
def fxN (n : Nat) (h : n < 4294967296) : Fx := ⟨n, 0, by omega⟩
theorem fxN_n (n : Nat) (h : n < 4294967296) : (fxN n h).n = n * 18446744073709551616 := by show (n : Int) * 18446744073709551616 + 0 = _; omega
theorem whole_text (n : Nat) (h : n < 4294967296) : textF (fxN n h) = hexS n ++ tdot := by
  have hn := fxN_n n h
  have hm : mayF (fxN n h) = true := by rw [mayF_iff, hn]; omega
  rw [textF_may _ hm, hn, decide_eq_false (by omega), ← tdot_eq]
  have e1 : ((n : Int) * 18446744073709551616).natAbs / 18446744073709551616 = n := by omega
  have e2 : ((n : Int) * 18446744073709551616).natAbs % 18446744073709551616 = 0 := by omega
  rw [e1, e2]
  rfl
theorem neg_text (a : Fx) (h1 : mayF a = true) (h2 : 0 < a.n) : textF (Fx.of (-a.n)) = [45] ++ textF a := by
  have hl := abs_lt a h1
  have hn : (Fx.of (-a.n)).n = -a.n := Fx.of_n _ (by omega)
  have hm : mayF (Fx.of (-a.n)) = true := by rw [mayF_iff, hn]; omega
  rw [textF_may _ hm, textF_may a h1, hn, decide_eq_true (by omega), decide_eq_false (by omega), Int.natAbs_neg]
  rfl
theorem mul_16 (k : Nat) : arith .mul .u64 (k : Int) 16 = some (.int .u64 ((k * 16 % 18446744073709551616 : Nat) : Int)) := by
  simp only [arith, IntKind.wrap_u64, Option.some.injEq, Value.int.injEq, true_and]; omega
theorem add_dig (k d : Nat) : arith .add .u64 ((k * 16 % 18446744073709551616 : Nat) : Int) (d : Int) = some (.int .u64 (((k * 16 + d) % 18446744073709551616 : Nat) : Int)) := by
  simp only [arith, IntKind.wrap_u64, Option.some.injEq, Value.int.injEq, true_and]; omega
theorem hexaWhole_pure (n0 : Int) (a : Fx) (hn0 : 0 ≤ n0 ∧ n0 ≤ 4294967295) : Pure Tryd.prog 5 #[.int .u32 n0, a.v] (.bool true) := by
  obtain ⟨n, rfl, hn⟩ : ∃ n : Nat, n0 = (n : Int) ∧ n < 4294967296 := ⟨n0.toNat, by omega, by omega⟩
  have hwk := awake_pure
  have ht := text_pure (fxN n hn)
  rw [whole_text n hn] at ht
  have hwn : IntKind.i64.wrap (n : Int) = (n : Int) := by rw [IntKind.wrap_i64]; omega
  have hl1 := hexL_le 16 n (by rw [show (16 : Nat) ^ 16 = 18446744073709551616 by decide]; omega)
  have hl2 : 1 ≤ (hexS n).length := List.length_pos_iff.2 (hexS_ne n)
  have hlS : (hexS n).length ≤ 16 := by simpa using hl1
  have hisd := hexS_isd n
  have hnum : numL 18446744073709551616 (hexS n) 0 = n := by rw [numL_hexS]; omega
  have ht' : Pure Tryd.prog 10 #[.agg #[.int .i64 (n : Int), .int .u64 0]] (.string (B (hexS n ++ tdot))) := ht
  clear ht hl1
  generalize hexS n = S at *
  have hlen : (S ++ tdot).length = S.length + 17 := by simp [tdot]
  have e1 : arith .lss .i64 (((S ++ tdot).length : Nat) : Int) 18 = some (.bool false) := by rw [hlen]; simp only [arith, Option.some.injEq, Value.bool.injEq, decide_eq_false_iff_not]; omega
  have e2 : arith .sub .i64 (((S ++ tdot).length : Nat) : Int) 17 = some (.int .i64 (S.length : Nat)) := by
    rw [hlen]; simp only [arith, IntKind.wrap_i64, Option.some.injEq, Value.int.injEq, true_and]; omega
  have e3 : subS (S ++ tdot) (S.length : Nat) (S ++ tdot).length = some tdot := by
    unfold subS; rw [if_pos ⟨by omega, by omega, by omega⟩, Int.toNat_natCast, Int.toNat_natCast, List.take_length, List.drop_left]
  have e4 : decide (tdot = tdot) = true := decide_eq_true rfl
  have e5 : (!true) = false := rfl
  have tt : true = true := rfl; have ff : false = false := rfl; have nt : (!true) = false := rfl; have nf : (!false) = true := rfl
  refine pure_q Tryd.func5 rfl Tryd.ntmps5 rfl rfl (fun w0 Q hQ => ?_)
  repeat (
    first
      | (refine k_conv (h := ?_); rw [hwn])
      | refine k_str_ne (a := tdot) (b := tdot) (he := e4) (h := ?_)
      | refine j_seq_k (fun N hN => ?_)
      | refine j_text ?_
      | refine j_draw (id := 16) [] (by kernel_rfl) (by kernel_rfl) ?_
      | refine j_block ?_
      | refine j_skip ?_
      | refine j_ret ?_
      | refine j_exit ?_
      | refine s_nil (show X _ _ _ _ _ from ?_)
      | (refine x_next hN ?_; clear hN N)
      | (refine x_then_ret ?_; clear hN N)
      | (refine x_then_exit ?_; clear hN N)
      | refine x_block ?_
      | refine x_block_ret ?_
      | refine x_block_hit ?_
      | refine x_block_miss (by eq_refl) ?_
      | refine k_skip (h := ?_)
      | refine k_skip0 (h := ?_)
      | refine k_fieldAddr (h := ?_)
      | refine k_load_one (h := ?_)
      | refine k_load_agg (h := ?_)
      | refine k_bin (h := ?_)
      | refine k_move (h := ?_)
      | refine k_assign (h := ?_)
      | refine k_extract (h := ?_)
      | refine k_call (hp := hwk) (h := ?_)
      | refine k_call (hp := ht') (h := ?_)
      | (refine k_box (h := ?_); intro g)
      | (refine k_alloc (h := ?_); intro g)
      | refine k_store (h := ?_)
      | refine k_field_agg (h := ?_)
      | refine k_field_one (h := ?_)
      | refine k_build (h := ?_)
      | refine k_conv (h := ?_)
      | refine k_not (h := ?_)
      | refine k_eqb (h := ?_)
      | refine k_neb (h := ?_)
      | refine k_eqs (h := ?_)
      | refine k_nes (h := ?_)
      | refine k_pick_t (h := ?_)
      | refine k_pick_f (h := ?_)
      | refine k_nilCheck (h := ?_)
      | refine k_makeFunc (h := ?_)
      | refine k_shl (h := ?_)
      | refine k_shr (h := ?_)
      | refine k_neg (h := ?_)
      | refine k_index_arr (h := ?_)
      | refine k_len_slice (h := ?_)
      | refine k_quo (h := ?_)
      | refine k_rem (h := ?_)
      | (refine k_buildSlice (h := ?_); intro g)
      | refine k_indexAddr_arr (h := ?_)
      | refine c_true (h := ?_)
      | refine c_false (h := ?_)
      | refine k_len_str (h := ?_)
      | refine k_str_add (h := ?_)
      | refine k_str_eq (h := ?_)
      | refine k_str_ne (h := ?_)
      | refine k_index_str (h := ?_)
      | refine k_slice_hi (h := ?_)
      | refine k_slice_lo (h := ?_)
      | refine k_slice_lh (h := ?_)
      | refine k_slice_all (h := ?_)
      | refine k_max (h := ?_)
      | (refine s_ask (by eq_refl) (by eq_refl) (evO_eq (by eq_refl)) (fun hask => ?_) (fun hask => ?_))
      | (refine c_split (by eq_refl) (fun hif => ?_) (fun hif => ?_))
    )
  refine j_rem 0 rfl (j_rem 3 rfl (j_rem 5 rfl (j_rem 6 rfl (j_rem 7 rfl ?_))))
  refine j_loop_k (fun m l L => ∃ (k : Nat) (rest : List (Nat × Value)), k + m = S.length ∧ l = (7, .int .i64 (k : Int)) :: (6, .int .u64 (numL 18446744073709551616 (S.take k) 0 : Nat)) :: (5, .string (B (S ++ tdot))) :: (3, .pointer (some ⟨g, 0, none⟩)) :: (0, .int .u32 (n : Int)) :: rest ∧ L = [(g, [.int .i64 a.hi, .int .u64 a.lo], 24)]) S.length ?_ ?_
  · exact ⟨0, _, Nat.zero_add _, rfl, rfl⟩
  rintro m l L N ⟨k, rest, hk, rfl, rfl⟩ hN
  by_cases h : k < S.length
  · have f1 : arith .lss .i64 (k : Int) (S.length : Nat) = some (.bool true) := by simp only [arith, Option.some.injEq, Value.bool.injEq, decide_eq_true_eq]; omega
    have f2 : idxS (S ++ tdot) (k : Int) = some ((S[k]).toNat : Int) := by
      unfold idxS; rw [if_pos (by omega), Int.toNat_natCast, List.getElem?_append_left h, List.getElem?_eq_getElem h]
    have f7 : arith .add .i64 (k : Int) 1 = some (.int .i64 ((k + 1 : Nat) : Int)) := by simp only [arith, IntKind.wrap_i64, Option.some.injEq, Value.int.injEq, true_and]; omega
    have hst : numL 18446744073709551616 (S.take (k + 1)) 0 = (numL 18446744073709551616 (S.take k) 0 * 16 + dv S[k]) % 18446744073709551616 := by
      rw [List.take_add_one, List.getElem?_eq_getElem h, numL_app]; rfl
    have m1 := mul_16 (numL 18446744073709551616 (S.take k) 0)
    have m2 := add_dig (numL 18446744073709551616 (S.take k) 0) (dv S[k])
    rw [← hst] at m2
    have hci := hisd S[k] (List.getElem_mem h)
    clear hst hnum e3 e4 e1 hisd
    generalize numL 18446744073709551616 (S.take k) 0 = K0 at *
    obtain ⟨K1, hK1⟩ : ∃ K1, numL 18446744073709551616 (S.take (k + 1)) 0 = K1 := ⟨_, rfl⟩
    rw [hK1] at m2
    generalize S[k] = c at *
    have hc256 : c.toNat < 256 := UInt8.toNat_lt c
    have hcl : (48 ≤ c.toNat ∧ c.toNat ≤ 57) ∨ (97 ≤ c.toNat ∧ c.toNat ≤ 102) := by unfold isd at hci; simpa using hci
    have s48 : arith .sub .u8 (c.toNat : Int) 48 = some (.int .u8 ((c.toNat - 48 : Nat) : Int)) := by simp only [arith, Option.some.injEq, Value.int.injEq, true_and]; rw [wrap8 _ (by omega)]; omega
    have w48 : IntKind.u64.wrap ((c.toNat - 48 : Nat) : Int) = ((c.toNat - 48 : Nat) : Int) := by rw [IntKind.wrap_u64]; omega
    rcases hcl with hc | hc
    · have g97 : arith .geq .u8 (c.toNat : Int) 97 = some (.bool false) := by simp only [arith, Option.some.injEq, Value.bool.injEq, decide_eq_false_iff_not]; omega
      have hd : dv c = c.toNat - 48 := by unfold dv; rw [if_pos hc]
      rw [hd] at m2
      clear hd hc hci
      generalize c.toNat - 48 = D at *
      repeat (
        first
          | (refine k_conv (h := ?_); rw [w48])
          | refine j_seq_k (fun N hN => ?_)
          | refine j_text ?_
          | refine j_draw (id := 16) [] (by kernel_rfl) (by kernel_rfl) ?_
          | refine j_block ?_
          | refine j_skip ?_
          | refine j_ret ?_
          | refine j_exit ?_
          | refine s_nil (show X _ _ _ _ _ from ?_)
          | (refine x_next hN ?_; clear hN N)
          | (refine x_then_ret ?_; clear hN N)
          | (refine x_then_exit ?_; clear hN N)
          | refine x_block ?_
          | refine x_block_ret ?_
          | refine x_block_hit ?_
          | refine x_block_miss (by eq_refl) ?_
          | refine k_skip (h := ?_)
          | refine k_skip0 (h := ?_)
          | refine k_fieldAddr (h := ?_)
          | refine k_load_one (h := ?_)
          | refine k_load_agg (h := ?_)
          | refine k_bin (h := ?_)
          | refine k_move (h := ?_)
          | refine k_assign (h := ?_)
          | refine k_extract (h := ?_)
          | (refine k_box (h := ?_); intro g)
          | (refine k_alloc (h := ?_); intro g)
          | refine k_store (h := ?_)
          | refine k_field_agg (h := ?_)
          | refine k_field_one (h := ?_)
          | refine k_build (h := ?_)
          | refine k_conv (h := ?_)
          | refine k_not (h := ?_)
          | refine k_eqb (h := ?_)
          | refine k_neb (h := ?_)
          | refine k_eqs (h := ?_)
          | refine k_nes (h := ?_)
          | refine k_pick_t (h := ?_)
          | refine k_pick_f (h := ?_)
          | refine k_nilCheck (h := ?_)
          | refine k_makeFunc (h := ?_)
          | refine k_shl (h := ?_)
          | refine k_shr (h := ?_)
          | refine k_neg (h := ?_)
          | refine k_index_arr (h := ?_)
          | refine k_len_slice (h := ?_)
          | refine k_quo (h := ?_)
          | refine k_rem (h := ?_)
          | (refine k_buildSlice (h := ?_); intro g)
          | refine k_indexAddr_arr (h := ?_)
          | refine c_true (h := ?_)
          | refine c_false (h := ?_)
          | refine k_len_str (h := ?_)
          | refine k_str_add (h := ?_)
          | refine k_str_eq (h := ?_)
          | refine k_str_ne (h := ?_)
          | refine k_index_str (h := ?_)
          | refine k_slice_hi (h := ?_)
          | refine k_slice_lo (h := ?_)
          | refine k_slice_lh (h := ?_)
          | refine k_slice_all (h := ?_)
          | refine k_max (h := ?_)
          | (refine s_ask (by eq_refl) (by eq_refl) (evO_eq (by eq_refl)) (fun hask => ?_) (fun hask => ?_))
          | (refine c_split (by eq_refl) (fun hif => ?_) (fun hif => ?_))
        )
      refine x_rem 0 rfl (x_rem 3 rfl (x_rem 5 rfl (x_rem 6 rfl (x_rem 7 rfl ?_))))
      exact hN (m - 1) _ _ (by omega) ⟨k + 1, _, by omega, by rw [hK1], rfl⟩
    · have g97 : arith .geq .u8 (c.toNat : Int) 97 = some (.bool true) := by simp only [arith, Option.some.injEq, Value.bool.injEq, decide_eq_true_eq]; omega
      have hd : dv c = c.toNat - 87 := by unfold dv; rw [if_neg (by omega), if_pos hc]
      have s97 : arith .sub .u8 (c.toNat : Int) 97 = some (.int .u8 ((c.toNat - 97 : Nat) : Int)) := by simp only [arith, Option.some.injEq, Value.int.injEq, true_and]; rw [wrap8 _ (by omega)]; omega
      have w97 : IntKind.u64.wrap ((c.toNat - 97 : Nat) : Int) = ((c.toNat - 97 : Nat) : Int) := by rw [IntKind.wrap_u64]; omega
      have a10 : arith .add .u64 ((c.toNat - 97 : Nat) : Int) 10 = some (.int .u64 ((c.toNat - 87 : Nat) : Int)) := by simp only [arith, IntKind.wrap_u64, Option.some.injEq, Value.int.injEq, true_and]; omega
      rw [hd] at m2
      clear hd hc hci
      generalize c.toNat - 48 = D at *
      generalize c.toNat - 97 = D2 at *
      generalize c.toNat - 87 = D3 at *
      repeat (
        first
          | (refine k_conv (h := ?_); first | rw [w48] | rw [w97])
          | refine j_seq_k (fun N hN => ?_)
          | refine j_text ?_
          | refine j_draw (id := 16) [] (by kernel_rfl) (by kernel_rfl) ?_
          | refine j_block ?_
          | refine j_skip ?_
          | refine j_ret ?_
          | refine j_exit ?_
          | refine s_nil (show X _ _ _ _ _ from ?_)
          | (refine x_next hN ?_; clear hN N)
          | (refine x_then_ret ?_; clear hN N)
          | (refine x_then_exit ?_; clear hN N)
          | refine x_block ?_
          | refine x_block_ret ?_
          | refine x_block_hit ?_
          | refine x_block_miss (by eq_refl) ?_
          | refine k_skip (h := ?_)
          | refine k_skip0 (h := ?_)
          | refine k_fieldAddr (h := ?_)
          | refine k_load_one (h := ?_)
          | refine k_load_agg (h := ?_)
          | refine k_bin (h := ?_)
          | refine k_move (h := ?_)
          | refine k_assign (h := ?_)
          | refine k_extract (h := ?_)
          | (refine k_box (h := ?_); intro g)
          | (refine k_alloc (h := ?_); intro g)
          | refine k_store (h := ?_)
          | refine k_field_agg (h := ?_)
          | refine k_field_one (h := ?_)
          | refine k_build (h := ?_)
          | refine k_conv (h := ?_)
          | refine k_not (h := ?_)
          | refine k_eqb (h := ?_)
          | refine k_neb (h := ?_)
          | refine k_eqs (h := ?_)
          | refine k_nes (h := ?_)
          | refine k_pick_t (h := ?_)
          | refine k_pick_f (h := ?_)
          | refine k_nilCheck (h := ?_)
          | refine k_makeFunc (h := ?_)
          | refine k_shl (h := ?_)
          | refine k_shr (h := ?_)
          | refine k_neg (h := ?_)
          | refine k_index_arr (h := ?_)
          | refine k_len_slice (h := ?_)
          | refine k_quo (h := ?_)
          | refine k_rem (h := ?_)
          | (refine k_buildSlice (h := ?_); intro g)
          | refine k_indexAddr_arr (h := ?_)
          | refine c_true (h := ?_)
          | refine c_false (h := ?_)
          | refine k_len_str (h := ?_)
          | refine k_str_add (h := ?_)
          | refine k_str_eq (h := ?_)
          | refine k_str_ne (h := ?_)
          | refine k_index_str (h := ?_)
          | refine k_slice_hi (h := ?_)
          | refine k_slice_lo (h := ?_)
          | refine k_slice_lh (h := ?_)
          | refine k_slice_all (h := ?_)
          | refine k_max (h := ?_)
          | (refine s_ask (by eq_refl) (by eq_refl) (evO_eq (by eq_refl)) (fun hask => ?_) (fun hask => ?_))
          | (refine c_split (by eq_refl) (fun hif => ?_) (fun hif => ?_))
        )
      refine x_rem 0 rfl (x_rem 3 rfl (x_rem 5 rfl (x_rem 6 rfl (x_rem 7 rfl ?_))))
      exact hN (m - 1) _ _ (by omega) ⟨k + 1, _, by omega, by rw [hK1], rfl⟩
  · have hk2 : k = S.length := by omega
    subst hk2
    have f1 : arith .lss .i64 (S.length : Nat) (S.length : Nat) = some (.bool false) := by simp [arith]
    rw [List.take_length, hnum]
    have wn : IntKind.u64.wrap (n : Int) = (n : Int) := by rw [IntKind.wrap_u64]; omega
    have ne : arith .neq .u64 (n : Int) (n : Int) = some (.bool false) := by simp [arith]
    have hm := rmay_pure a
    obtain ⟨e, he⟩ : ∃ e, mayF a = e := ⟨_, rfl⟩
    rw [he] at hm
    obtain ⟨s, hs⟩ : ∃ s, decide (a.hi < 0) = s := ⟨_, rfl⟩
    have l0 : arith .lss .i64 a.hi 0 = some (.bool s) := by simp only [arith, hs]
    obtain ⟨z, hz⟩ : ∃ z, ((a.hi == 0) && ((a.lo == 0) && true)) = z := ⟨_, rfl⟩
    have hng := rneg_pure a
    have t1 := text_pure (Fx.of (-a.n))
    have t2 := text_pure a
    have key : e = true → s = false → z = false → textF (Fx.of (-a.n)) = [45] ++ textF a ∧ (textF a).length ≤ 34 := by
      rintro rfl rfl rfl
      have hb := a.b
      have h0 := of_decide_eq_false hs
      refine ⟨neg_text a he ?_, (textF_len a he).2⟩
      rw [Bool.and_true] at hz
      have : ¬ (a.hi = 0 ∧ a.lo = 0) := by
        rintro ⟨q1, q2⟩; rw [q1, q2] at hz; exact absurd hz (by decide)
      unfold Fx.n; omega
    clear he hs hnum e1 e3 e4
    cases e with
    | false =>
      repeat' (
        first
          | (refine k_conv (h := ?_); rw [wn])
          | refine j_seq_k (fun N hN => ?_)
          | refine j_text ?_
          | refine j_draw (id := 16) [] (by kernel_rfl) (by kernel_rfl) ?_
          | refine j_block ?_
          | refine j_skip ?_
          | refine j_ret ?_
          | refine j_exit ?_
          | refine s_nil (show X _ _ _ _ _ from ?_)
          | (refine x_next hN ?_; clear hN N)
          | (refine x_then_ret ?_; clear hN N)
          | (refine x_then_exit ?_; clear hN N)
          | refine x_block ?_
          | refine x_block_ret ?_
          | refine x_block_hit ?_
          | refine x_block_miss (by eq_refl) ?_
          | refine k_skip (h := ?_)
          | refine k_skip0 (h := ?_)
          | refine k_fieldAddr (h := ?_)
          | refine k_load_one (h := ?_)
          | refine k_load_agg (h := ?_)
          | refine k_bin (h := ?_)
          | refine k_move (h := ?_)
          | refine k_assign (h := ?_)
          | refine k_extract (h := ?_)
          | refine k_call (hp := hwk) (h := ?_)
          | refine k_call (hp := hm) (h := ?_)
          | (refine k_box (h := ?_); intro g)
          | (refine k_alloc (h := ?_); intro g)
          | refine k_store (h := ?_)
          | refine k_field_agg (h := ?_)
          | refine k_field_one (h := ?_)
          | refine k_build (h := ?_)
          | refine k_conv (h := ?_)
          | refine k_not (h := ?_)
          | refine k_eqb (h := ?_)
          | refine k_neb (h := ?_)
          | refine k_eqs (h := ?_)
          | refine k_nes (h := ?_)
          | refine k_pick_t (h := ?_)
          | refine k_pick_f (h := ?_)
          | refine k_nilCheck (h := ?_)
          | refine k_makeFunc (h := ?_)
          | refine k_shl (h := ?_)
          | refine k_shr (h := ?_)
          | refine k_neg (h := ?_)
          | refine k_index_arr (h := ?_)
          | refine k_len_slice (h := ?_)
          | refine k_quo (h := ?_)
          | refine k_rem (h := ?_)
          | (refine k_buildSlice (h := ?_); intro g)
          | refine k_indexAddr_arr (h := ?_)
          | refine c_true (h := ?_)
          | refine c_false (h := ?_)
          | refine k_len_str (h := ?_)
          | refine k_str_add (h := ?_)
          | refine k_str_eq (h := ?_)
          | refine k_str_ne (h := ?_)
          | refine k_index_str (h := ?_)
          | refine k_slice_hi (h := ?_)
          | refine k_slice_lo (h := ?_)
          | refine k_slice_lh (h := ?_)
          | refine k_slice_all (h := ?_)
          | refine k_max (h := ?_)
          | (refine s_ask (by eq_refl) (by eq_refl) (evO_eq (by eq_refl)) (fun hask => ?_) (fun hask => ?_))
          | (refine c_split (by eq_refl) (fun hif => ?_) (fun hif => ?_))
        )
      all_goals refine hQ _ _ (ret1 rfl (by (first | exact v_tmp | exact v_one | exact v_agg)) ?_)
      all_goals rfl
    | true =>
      cases s with
      | true =>
        repeat' (
          first
            | (refine k_conv (h := ?_); rw [wn])
            | refine j_seq_k (fun N hN => ?_)
            | refine j_text ?_
            | refine j_draw (id := 16) [] (by kernel_rfl) (by kernel_rfl) ?_
            | refine j_block ?_
            | refine j_skip ?_
            | refine j_ret ?_
            | refine j_exit ?_
            | refine s_nil (show X _ _ _ _ _ from ?_)
            | (refine x_next hN ?_; clear hN N)
            | (refine x_then_ret ?_; clear hN N)
            | (refine x_then_exit ?_; clear hN N)
            | refine x_block ?_
            | refine x_block_ret ?_
            | refine x_block_hit ?_
            | refine x_block_miss (by eq_refl) ?_
            | refine k_skip (h := ?_)
            | refine k_skip0 (h := ?_)
            | refine k_fieldAddr (h := ?_)
            | refine k_load_one (h := ?_)
            | refine k_load_agg (h := ?_)
            | refine k_bin (h := ?_)
            | refine k_move (h := ?_)
            | refine k_assign (h := ?_)
            | refine k_extract (h := ?_)
            | refine k_call (hp := hwk) (h := ?_)
            | refine k_call (hp := hm) (h := ?_)
            | (refine k_box (h := ?_); intro g)
            | (refine k_alloc (h := ?_); intro g)
            | refine k_store (h := ?_)
            | refine k_field_agg (h := ?_)
            | refine k_field_one (h := ?_)
            | refine k_build (h := ?_)
            | refine k_conv (h := ?_)
            | refine k_not (h := ?_)
            | refine k_eqb (h := ?_)
            | refine k_neb (h := ?_)
            | refine k_eqs (h := ?_)
            | refine k_nes (h := ?_)
            | refine k_pick_t (h := ?_)
            | refine k_pick_f (h := ?_)
            | refine k_nilCheck (h := ?_)
            | refine k_makeFunc (h := ?_)
            | refine k_shl (h := ?_)
            | refine k_shr (h := ?_)
            | refine k_neg (h := ?_)
            | refine k_index_arr (h := ?_)
            | refine k_len_slice (h := ?_)
            | refine k_quo (h := ?_)
            | refine k_rem (h := ?_)
            | (refine k_buildSlice (h := ?_); intro g)
            | refine k_indexAddr_arr (h := ?_)
            | refine c_true (h := ?_)
            | refine c_false (h := ?_)
            | refine k_len_str (h := ?_)
            | refine k_str_add (h := ?_)
            | refine k_str_eq (h := ?_)
            | refine k_str_ne (h := ?_)
            | refine k_index_str (h := ?_)
            | refine k_slice_hi (h := ?_)
            | refine k_slice_lo (h := ?_)
            | refine k_slice_lh (h := ?_)
            | refine k_slice_all (h := ?_)
            | refine k_max (h := ?_)
            | (refine s_ask (by eq_refl) (by eq_refl) (evO_eq (by eq_refl)) (fun hask => ?_) (fun hask => ?_))
            | (refine c_split (by eq_refl) (fun hif => ?_) (fun hif => ?_))
          )
        all_goals refine hQ _ _ (ret1 rfl (by (first | exact v_tmp | exact v_one | exact v_agg)) ?_)
        all_goals rfl
      | false =>
        cases z with
        | true =>
          repeat' (
            first
              | (refine k_conv (h := ?_); rw [wn])
              | refine j_seq_k (fun N hN => ?_)
              | refine j_text ?_
              | refine j_draw (id := 16) [] (by kernel_rfl) (by kernel_rfl) ?_
              | refine j_block ?_
              | refine j_skip ?_
              | refine j_ret ?_
              | refine j_exit ?_
              | refine s_nil (show X _ _ _ _ _ from ?_)
              | (refine x_next hN ?_; clear hN N)
              | (refine x_then_ret ?_; clear hN N)
              | (refine x_then_exit ?_; clear hN N)
              | refine x_block ?_
              | refine x_block_ret ?_
              | refine x_block_hit ?_
              | refine x_block_miss (by eq_refl) ?_
              | refine k_skip (h := ?_)
              | refine k_skip0 (h := ?_)
              | refine k_fieldAddr (h := ?_)
              | refine k_load_one (h := ?_)
              | refine k_load_agg (h := ?_)
              | refine k_bin (h := ?_)
              | refine k_move (h := ?_)
              | refine k_assign (h := ?_)
              | refine k_extract (h := ?_)
              | refine k_call (hp := hwk) (h := ?_)
              | refine k_call (hp := hm) (h := ?_)
              | (refine k_box (h := ?_); intro g)
              | (refine k_alloc (h := ?_); intro g)
              | refine k_store (h := ?_)
              | refine k_field_agg (h := ?_)
              | refine k_field_one (h := ?_)
              | refine k_build (h := ?_)
              | refine k_conv (h := ?_)
              | refine k_not (h := ?_)
              | refine k_eqb (h := ?_)
              | refine k_neb (h := ?_)
              | refine k_eqs (h := ?_)
              | refine k_nes (h := ?_)
              | refine k_pick_t (h := ?_)
              | refine k_pick_f (h := ?_)
              | refine k_nilCheck (h := ?_)
              | refine k_makeFunc (h := ?_)
              | refine k_shl (h := ?_)
              | refine k_shr (h := ?_)
              | refine k_neg (h := ?_)
              | refine k_index_arr (h := ?_)
              | refine k_len_slice (h := ?_)
              | refine k_quo (h := ?_)
              | refine k_rem (h := ?_)
              | (refine k_buildSlice (h := ?_); intro g)
              | refine k_indexAddr_arr (h := ?_)
              | refine c_true (h := ?_)
              | refine c_false (h := ?_)
              | refine k_len_str (h := ?_)
              | refine k_str_add (h := ?_)
              | refine k_str_eq (h := ?_)
              | refine k_str_ne (h := ?_)
              | refine k_index_str (h := ?_)
              | refine k_slice_hi (h := ?_)
              | refine k_slice_lo (h := ?_)
              | refine k_slice_lh (h := ?_)
              | refine k_slice_all (h := ?_)
              | refine k_max (h := ?_)
              | (refine s_ask (by eq_refl) (by eq_refl) (evO_eq (by eq_refl)) (fun hask => ?_) (fun hask => ?_))
              | (refine c_split (by eq_refl) (fun hif => ?_) (fun hif => ?_))
            )
          all_goals refine hQ _ _ (ret1 rfl (by (first | exact v_tmp | exact v_one | exact v_agg)) ?_)
          all_goals rfl
        | false =>
          obtain ⟨k1, k2⟩ := key rfl rfl rfl
          rw [k1] at t1
          have ad := addS_ok [45] (textF a) (by simp; omega)
          have dd : decide ([45] ++ textF a = [45] ++ textF a) = true := decide_eq_true rfl
          clear k1 key
          generalize textF a = TA at *
          repeat' (
            first
              | (refine k_conv (h := ?_); rw [wn])
              | refine j_seq_k (fun N hN => ?_)
              | refine j_text ?_
              | refine j_draw (id := 16) [] (by kernel_rfl) (by kernel_rfl) ?_
              | refine j_block ?_
              | refine j_skip ?_
              | refine j_ret ?_
              | refine j_exit ?_
              | refine s_nil (show X _ _ _ _ _ from ?_)
              | (refine x_next hN ?_; clear hN N)
              | (refine x_then_ret ?_; clear hN N)
              | (refine x_then_exit ?_; clear hN N)
              | refine x_block ?_
              | refine x_block_ret ?_
              | refine x_block_hit ?_
              | refine x_block_miss (by eq_refl) ?_
              | refine k_skip (h := ?_)
              | refine k_skip0 (h := ?_)
              | refine k_fieldAddr (h := ?_)
              | refine k_load_one (h := ?_)
              | refine k_load_agg (h := ?_)
              | refine k_bin (h := ?_)
              | refine k_move (h := ?_)
              | refine k_assign (h := ?_)
              | refine k_extract (h := ?_)
              | refine k_call (hp := hwk) (h := ?_)
              | refine k_call (hp := hm) (h := ?_)
              | refine k_call (hp := hng) (h := ?_)
              | refine k_call (hp := t1) (h := ?_)
              | refine k_call (hp := t2) (h := ?_)
              | (refine k_box (h := ?_); intro g)
              | (refine k_alloc (h := ?_); intro g)
              | refine k_store (h := ?_)
              | refine k_field_agg (h := ?_)
              | refine k_field_one (h := ?_)
              | refine k_build (h := ?_)
              | refine k_conv (h := ?_)
              | refine k_not (h := ?_)
              | refine k_eqb (h := ?_)
              | refine k_neb (h := ?_)
              | refine k_eqs (h := ?_)
              | refine k_nes (h := ?_)
              | refine k_pick_t (h := ?_)
              | refine k_pick_f (h := ?_)
              | refine k_nilCheck (h := ?_)
              | refine k_makeFunc (h := ?_)
              | refine k_shl (h := ?_)
              | refine k_shr (h := ?_)
              | refine k_neg (h := ?_)
              | refine k_index_arr (h := ?_)
              | refine k_len_slice (h := ?_)
              | refine k_quo (h := ?_)
              | refine k_rem (h := ?_)
              | (refine k_buildSlice (h := ?_); intro g)
              | refine k_indexAddr_arr (h := ?_)
              | refine c_true (h := ?_)
              | refine c_false (h := ?_)
              | refine k_len_str (h := ?_)
              | refine k_str_add (h := ?_)
              | refine k_str_eq (h := ?_)
              | refine k_str_ne (h := ?_)
              | refine k_index_str (h := ?_)
              | refine k_slice_hi (h := ?_)
              | refine k_slice_lo (h := ?_)
              | refine k_slice_lh (h := ?_)
              | refine k_slice_all (h := ?_)
              | refine k_max (h := ?_)
              | (refine s_ask (by eq_refl) (by eq_refl) (evO_eq (by eq_refl)) (fun hask => ?_) (fun hask => ?_))
              | (refine c_split (by eq_refl) (fun hif => ?_) (fun hif => ?_))
            )
          all_goals refine hQ _ _ (ret1 rfl (by (first | exact v_tmp | exact v_one | exact v_agg)) ?_)
          all_goals rfl
end Go.Proofs.YtmgfabfmnachoaaDoor.Own
