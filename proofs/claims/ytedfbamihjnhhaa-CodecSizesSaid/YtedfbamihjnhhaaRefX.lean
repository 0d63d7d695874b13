/- The document's numbers: what the code computes. -/
import Derived.Test.YtedfbamihjnhhaaFixX
namespace Go.Proofs.Ytedfbamihjnhhaa.Own
open Go Go.RowKit Go.Proofs Go.Proofs.Ytedfbamihjnhhaa.Plain
set_option linter.unusedVariables false
set_option linter.unusedSimpArgs false
set_option maxRecDepth 100000
set_option maxHeartbeats 4000000 in
theorem less_pure (a b : Two) : Pure Try.prog 35 #[a.v, b.v] (.bool (decide (a.n < b.n))) := by
 obtain ⟨b1, h1⟩ : ∃ x, decide (a.hi < b.hi) = x := ⟨_, rfl⟩
 obtain ⟨b2, h2⟩ : ∃ x, decide (a.hi = b.hi) = x := ⟨_, rfl⟩
 obtain ⟨b3, h3⟩ : ∃ x, decide (a.lo < b.lo) = x := ⟨_, rfl⟩
 have e1 : arith .lss .u64 a.hi b.hi = some (.bool b1) := by simp only [arith, h1]
 have e2 : arith .eql .u64 a.hi b.hi = some (.bool b2) := by simp only [arith, ← h2]; rfl
 have e3 : arith .lss .u64 a.lo b.lo = some (.bool b3) := by simp only [arith, h3]
 have key : decide (a.n < b.n) = (b1 || (b2 && b3)) := by
  have ha := a.n_int; have hb := b.n_int; have := a.b; have := b.b
  rw [← h1, ← h2, ← h3, ← Bool.decide_and, ← Bool.decide_or]
  apply decide_eq_decide.2
  omega
 rw [key]
 clear key h1 h2 h3
 refine pure_q Try.func35 rfl Try.ntmps35 rfl rfl (fun w0 Q hQ => ?_)
 repeat' (
  first
   | refine j_seq_k (fun N hN => ?_)
   | refine j_text ?_
   | refine j_block ?_
   | refine j_skip ?_
   | refine j_ret ?_
   | refine j_exit ?_
   | refine s_nil (show X _ _ _ _ _ from ?_)
   | (refine x_next hN ?_; clear hN N)
   | (refine x_then_ret ?_; clear hN N)
   | (refine x_then_exit ?_; clear hN N)
   | refine x_block ?_
   | refine x_block_ret ?_
   | refine x_block_hit ?_
   | refine x_block_miss (by eq_refl) ?_
   | refine k_skip (h := ?_)
   | refine k_fieldAddr (h := ?_)
   | refine k_load_one (h := ?_)
   | refine k_load_agg (h := ?_)
   | refine k_bin (h := ?_)
   | refine k_move (h := ?_)
   | refine k_assign (h := ?_)
   | refine k_extract (h := ?_)
   | (refine k_box (h := ?_); intro g)
   | (refine k_alloc (h := ?_); intro g)
   | refine k_store (h := ?_)
   | refine k_field_agg (h := ?_)
   | refine k_build (h := ?_)
   | refine k_conv (h := ?_)
   | refine k_not (h := ?_)
   | refine k_eqb (h := ?_)
   | refine k_neb (h := ?_)
   | refine k_eqs (h := ?_)
   | refine k_nes (h := ?_)
   | refine k_pick_t (h := ?_)
   | refine k_pick_f (h := ?_)
   | refine k_shl (h := ?_)
   | refine k_shr (h := ?_)
   | refine k_len_slice (h := ?_)
   | refine k_quo (h := ?_)
   | refine k_rem (h := ?_)
   | (refine k_buildSlice (h := ?_); intro g)
   | refine k_indexAddr_arr (h := ?_)
   | refine c_true (h := ?_)
   | refine c_false (h := ?_)
   | (refine s_ask (by eq_refl) (by eq_refl) (evO_eq (by eq_refl)) (fun hask => ?_) (fun hask => ?_))
   | (refine c_split (by eq_refl) (fun hif => ?_) (fun hif => ?_))
  )
 all_goals refine hQ _ _ (ret1 rfl (by (first | exact v_tmp | exact v_agg)) ?_)
 all_goals (clear hQ e1 e2 e3; simp_all)
set_option maxHeartbeats 4000000 in
theorem subtwo_pure (a b : Two) : Pure Try.prog 36 #[a.v, b.v] (.agg #[.int .u64 (Two.of (a.n + 340282366920938463463374607431768211456 - b.n)).hi, .int .u64 (Two.of (a.n + 340282366920938463463374607431768211456 - b.n)).lo, .bool (decide (a.n < b.n))]) := by
 have hl := less_pure a b
 obtain ⟨b3, h3⟩ : ∃ x, decide (a.lo < b.lo) = x := ⟨_, rfl⟩
 have e3 : arith .lss .u64 a.lo b.lo = some (.bool b3) := by simp only [arith, h3]
 obtain ⟨lo, hlo⟩ : ∃ x, IntKind.u64.wrap (a.lo - b.lo) = x := ⟨_, rfl⟩
 obtain ⟨hi, hhi⟩ : ∃ x, IntKind.u64.wrap (a.hi - b.hi) = x := ⟨_, rfl⟩
 obtain ⟨h0, hh0⟩ : ∃ x, IntKind.u64.wrap (hi - 0) = x := ⟨_, rfl⟩
 obtain ⟨h1, hh1⟩ : ∃ x, IntKind.u64.wrap (hi - 1) = x := ⟨_, rfl⟩
 have e4 : arith .sub .u64 a.lo b.lo = some (.int .u64 lo) := by simp only [arith, hlo]
 have e5 : arith .sub .u64 a.hi b.hi = some (.int .u64 hi) := by simp only [arith, hhi]
 have e6 : arith .sub .u64 hi 0 = some (.int .u64 h0) := by simp only [arith, hh0]
 have e7 : arith .sub .u64 hi 1 = some (.int .u64 h1) := by simp only [arith, hh1]
 have key : ∀ x, (if b3 = true then x = h1 else x = h0) → (Two.of (a.n + 340282366920938463463374607431768211456 - b.n)).hi = x ∧ (Two.of (a.n + 340282366920938463463374607431768211456 - b.n)).lo = lo := by
  intro x hx
  have ha := a.n_int; have hb := b.n_int; have := a.b; have := b.b; have := a.lt; have := b.lt
  rw [Two.of_hi, Two.of_lo]
  rw [IntKind.wrap_u64] at hlo hhi hh0 hh1
  by_cases q : a.lo < b.lo
  ·rw [if_pos (by rw [← h3]; exact decide_eq_true q)] at hx; constructor <;> omega
  ·rw [if_neg (by rw [← h3]; simpa using q)] at hx; constructor <;> omega
 generalize Two.of (a.n + 340282366920938463463374607431768211456 - b.n) = T at *
 clear hlo hhi hh0 hh1 h3
 refine pure_q Try.func36 rfl Try.ntmps36 rfl rfl (fun w0 Q hQ => ?_)
 repeat' (
  first
   | refine j_seq_k (fun N hN => ?_)
   | refine j_text ?_
   | refine j_draw (id := 4) [(998, .eff)] (by kernel_rfl) (by kernel_rfl) ?_
   | refine j_block ?_
   | refine j_skip ?_
   | refine j_ret ?_
   | refine j_exit ?_
   | refine s_nil (show X _ _ _ _ _ from ?_)
   | (refine x_next hN ?_; clear hN N)
   | (refine x_then_ret ?_; clear hN N)
   | (refine x_then_exit ?_; clear hN N)
   | refine x_block ?_
   | refine x_block_ret ?_
   | refine x_block_hit ?_
   | refine x_block_miss (by eq_refl) ?_
   | refine k_skip (h := ?_)
   | refine k_fieldAddr (h := ?_)
   | refine k_load_one (h := ?_)
   | refine k_load_agg (h := ?_)
   | refine k_bin (h := ?_)
   | refine k_move (h := ?_)
   | refine k_assign (h := ?_)
   | refine k_extract (h := ?_)
   | refine k_call (hp := hl) (h := ?_)
   | (refine k_box (h := ?_); intro g)
   | (refine k_alloc (h := ?_); intro g)
   | refine k_store (h := ?_)
   | refine k_field_agg (h := ?_)
   | refine k_build (h := ?_)
   | refine k_conv (h := ?_)
   | refine k_not (h := ?_)
   | refine k_eqb (h := ?_)
   | refine k_neb (h := ?_)
   | refine k_eqs (h := ?_)
   | refine k_nes (h := ?_)
   | refine k_pick_t (h := ?_)
   | refine k_pick_f (h := ?_)
   | refine k_shl (h := ?_)
   | refine k_shr (h := ?_)
   | refine k_len_slice (h := ?_)
   | refine k_quo (h := ?_)
   | refine k_rem (h := ?_)
   | (refine k_buildSlice (h := ?_); intro g)
   | refine k_indexAddr_arr (h := ?_)
   | refine c_true (h := ?_)
   | refine c_false (h := ?_)
   | (refine s_ask (by eq_refl) (by eq_refl) (evO_eq (by eq_refl)) (fun hask => ?_) (fun hask => ?_))
   | (refine c_split (by eq_refl) (fun hif => ?_) (fun hif => ?_))
  )
 all_goals refine hQ _ _ (ret1 rfl (by (first | exact v_tmp | exact v_agg)) ?_)
 all_goals clear hQ
 ·obtain ⟨k1, k2⟩ := key _ (by rw [if_pos hif]); rw [k1, k2]
 ·obtain ⟨k1, k2⟩ := key _ (by rw [if_neg (by rw [hif]; decide)]); rw [k1, k2]
set_option maxHeartbeats 4000000 in
theorem rneg_pure (a : Fx) : Pure Try.prog 73 #[a.v] (Fx.of (-a.n)).v := by
 have hs := subtwo_pure ⟨0, 0, by decide⟩ a.u
 have hu := a.u_n
 have hl := a.u.lt
 have hn := Two.of_n (0 + 340282366920938463463374607431768211456 - a.u.n)
 have z0 : (⟨0, 0, by decide⟩ : Two).n = 0 := by kernel_rfl
 rw [z0] at hs
 generalize Two.of (0 + 340282366920938463463374607431768211456 - a.u.n) = T at *
 have hT : ∃ k : Int, (T.n : Int) = -a.n + k * 340282366920938463463374607431768211456 := by
  have := a.lt
  split at hu
  ·by_cases h0 : a.u.n = 0
   ·exact ⟨-1, by omega⟩
   ·exact ⟨0, by omega⟩
  ·by_cases h0 : a.u.n = 0
   ·exact ⟨0, by omega⟩
   ·exact ⟨1, by omega⟩
 have hv := Fx.of_bits hT
 clear hT hn hl hu z0
 refine pure_q Try.func73 rfl Try.ntmps73 rfl rfl (fun w0 Q hQ => ?_)
 repeat' (
  first
   | refine j_seq_k (fun N hN => ?_)
   | refine j_text ?_
   | refine j_block ?_
   | refine j_skip ?_
   | refine j_ret ?_
   | refine j_exit ?_
   | refine s_nil (show X _ _ _ _ _ from ?_)
   | (refine x_next hN ?_; clear hN N)
   | (refine x_then_ret ?_; clear hN N)
   | (refine x_then_exit ?_; clear hN N)
   | refine x_block ?_
   | refine x_block_ret ?_
   | refine x_block_hit ?_
   | refine x_block_miss (by eq_refl) ?_
   | refine k_skip (h := ?_)
   | refine k_fieldAddr (h := ?_)
   | refine k_load_one (h := ?_)
   | refine k_load_agg (h := ?_)
   | refine k_bin (h := ?_)
   | refine k_move (h := ?_)
   | refine k_assign (h := ?_)
   | refine k_extract (h := ?_)
   | refine k_call (hp := hs) (h := ?_)
   | (refine k_box (h := ?_); intro g)
   | (refine k_alloc (h := ?_); intro g)
   | refine k_store (h := ?_)
   | refine k_field_agg (h := ?_)
   | refine k_build (h := ?_)
   | refine k_conv (h := ?_)
   | refine k_not (h := ?_)
   | refine k_eqb (h := ?_)
   | refine k_neb (h := ?_)
   | refine k_eqs (h := ?_)
   | refine k_nes (h := ?_)
   | refine k_pick_t (h := ?_)
   | refine k_pick_f (h := ?_)
   | refine k_shl (h := ?_)
   | refine k_shr (h := ?_)
   | refine k_len_slice (h := ?_)
   | refine k_quo (h := ?_)
   | refine k_rem (h := ?_)
   | (refine k_buildSlice (h := ?_); intro g)
   | refine k_indexAddr_arr (h := ?_)
   | refine c_true (h := ?_)
   | refine c_false (h := ?_)
   | (refine s_ask (by eq_refl) (by eq_refl) (evO_eq (by eq_refl)) (fun hask => ?_) (fun hask => ?_))
   | (refine c_split (by eq_refl) (fun hif => ?_) (fun hif => ?_))
  )
 all_goals refine hQ _ _ (ret1 rfl (by (first | exact v_tmp | exact v_agg)) ?_)
 exact hv
set_option maxHeartbeats 8000000 in
theorem addtwo_pure (a b : Two) : Pure Try.prog 34 #[a.v, b.v] (.agg #[.int .u64 (Two.of (a.n + b.n)).hi, .int .u64 (Two.of (a.n + b.n)).lo, .bool (decide (340282366920938463463374607431768211456 ≤ a.n + b.n))]) := by
 obtain ⟨lo, hlo⟩ : ∃ x, IntKind.u64.wrap (a.lo + b.lo) = x := ⟨_, rfl⟩
 obtain ⟨hi, hhi⟩ : ∃ x, IntKind.u64.wrap (a.hi + b.hi) = x := ⟨_, rfl⟩
 obtain ⟨h0, hh0⟩ : ∃ x, IntKind.u64.wrap (hi + 0) = x := ⟨_, rfl⟩
 obtain ⟨h1, hh1⟩ : ∃ x, IntKind.u64.wrap (hi + 1) = x := ⟨_, rfl⟩
 obtain ⟨c, hc⟩ : ∃ x, decide (lo < a.lo) = x := ⟨_, rfl⟩
 obtain ⟨o, ho⟩ : ∃ x, decide (hi < a.hi) = x := ⟨_, rfl⟩
 obtain ⟨z, hz⟩ : ∃ x, decide (h1 = 0) = x := ⟨_, rfl⟩
 obtain ⟨y, hy⟩ : ∃ x, decide (h0 = 0) = x := ⟨_, rfl⟩
 have e4 : arith .add .u64 a.lo b.lo = some (.int .u64 lo) := by simp only [arith, hlo]
 have e5 : arith .add .u64 a.hi b.hi = some (.int .u64 hi) := by simp only [arith, hhi]
 have e6 : arith .add .u64 hi 0 = some (.int .u64 h0) := by simp only [arith, hh0]
 have e7 : arith .add .u64 hi 1 = some (.int .u64 h1) := by simp only [arith, hh1]
 have e8 : arith .lss .u64 lo a.lo = some (.bool c) := by simp only [arith, hc]
 have e9 : arith .lss .u64 hi a.hi = some (.bool o) := by simp only [arith, ho]
 have f1 : arith .eql .u64 h1 0 = some (.bool z) := by simp only [arith, ← hz]; rfl
 have f2 : arith .eql .u64 h0 0 = some (.bool y) := by simp only [arith, ← hy]; rfl
 have f3 : arith .eql .u64 1 1 = some (.bool true) := by simp [arith]
 have f4 : arith .eql .u64 0 1 = some (.bool false) := by simp [arith]
 have key : (if c = true then (Two.of (a.n + b.n)).hi = h1 ∧ decide (340282366920938463463374607431768211456 ≤ a.n + b.n) = (o || z) else (Two.of (a.n + b.n)).hi = h0 ∧ decide (340282366920938463463374607431768211456 ≤ a.n + b.n) = o) ∧ (Two.of (a.n + b.n)).lo = lo := by
  have ha := a.n_int; have hb := b.n_int; have := a.b; have := b.b; have := a.lt; have := b.lt
  rw [Two.of_hi, Two.of_lo]
  rw [IntKind.wrap_u64] at hlo hhi hh0 hh1
  refine ⟨?_, by omega⟩
  by_cases q : lo < a.lo
  ·rw [if_pos (by rw [← hc]; exact decide_eq_true q), ← ho, ← hz, ← Bool.decide_or]
   refine ⟨by omega, decide_eq_decide.2 ?_⟩
   omega
  ·rw [if_neg (by rw [← hc]; simpa using q), ← ho]
   refine ⟨by omega, decide_eq_decide.2 ?_⟩
   omega
 generalize Two.of (a.n + b.n) = T at *
 generalize decide (340282366920938463463374607431768211456 ≤ a.n + b.n) = cy at *
 clear hlo hhi hh0 hh1 hc ho hz hy
 have tt : true = true := rfl
 have ff : false = false := rfl
 refine pure_q Try.func34 rfl Try.ntmps34 rfl rfl (fun w0 Q hQ => ?_)
 repeat' (
  first
   | refine j_seq_k (fun N hN => ?_)
   | refine j_text ?_
   | refine j_block ?_
   | refine j_skip ?_
   | refine j_ret ?_
   | refine j_exit ?_
   | refine s_nil (show X _ _ _ _ _ from ?_)
   | (refine x_next hN ?_; clear hN N)
   | (refine x_then_ret ?_; clear hN N)
   | (refine x_then_exit ?_; clear hN N)
   | refine x_block ?_
   | refine x_block_ret ?_
   | refine x_block_hit ?_
   | refine x_block_miss (by eq_refl) ?_
   | refine k_skip (h := ?_)
   | refine k_fieldAddr (h := ?_)
   | refine k_load_one (h := ?_)
   | refine k_load_agg (h := ?_)
   | refine k_bin (h := ?_)
   | refine k_move (h := ?_)
   | refine k_assign (h := ?_)
   | refine k_extract (h := ?_)
   | (refine k_box (h := ?_); intro g)
   | (refine k_alloc (h := ?_); intro g)
   | refine k_store (h := ?_)
   | refine k_field_agg (h := ?_)
   | refine k_build (h := ?_)
   | refine k_conv (h := ?_)
   | refine k_not (h := ?_)
   | refine k_eqb (h := ?_)
   | refine k_neb (h := ?_)
   | refine k_eqs (h := ?_)
   | refine k_nes (h := ?_)
   | refine k_pick_t (h := ?_)
   | refine k_pick_f (h := ?_)
   | refine k_shl (h := ?_)
   | refine k_shr (h := ?_)
   | refine k_len_slice (h := ?_)
   | refine k_quo (h := ?_)
   | refine k_rem (h := ?_)
   | (refine k_buildSlice (h := ?_); intro g)
   | refine k_indexAddr_arr (h := ?_)
   | refine c_true (h := ?_)
   | refine c_false (h := ?_)
   | (refine s_ask (by eq_refl) (by eq_refl) (evO_eq (by eq_refl)) (fun hask => ?_) (fun hask => ?_))
   | (refine c_split (by eq_refl) (fun hif => ?_) (fun hif => ?_))
  )
 all_goals refine hQ _ _ (ret1 rfl (by (first | exact v_tmp | exact v_agg)) ?_)
 all_goals clear hQ e4 e5 e6 e7 e8 e9 f1 f2 f3 f4
 all_goals simp_all
theorem Fx.of_n (z : Int) (h : -170141183460469231731687303715884105728 ≤ z ∧ z < 170141183460469231731687303715884105728) : (Fx.of z).n = z := by
 show IntKind.i64.wrap (z / 18446744073709551616) * 18446744073709551616 + z % 18446744073709551616 = z
 rw [IntKind.wrap_i64]; omega
theorem Fx.n_ext {a b : Fx} (h : a.n = b.n) : a = b := by
 obtain ⟨x, y, q⟩ := a
 obtain ⟨z, w, r⟩ := b
 have : x = z ∧ y = w := by unfold Fx.n at h; dsimp only at h; omega
 obtain ⟨rfl, rfl⟩ := this
 rfl
theorem Fx.of_u (z : Int) : (Fx.of z).u = Two.of (z % 340282366920938463463374607431768211456).toNat := by
 apply Two.ext_n
 have h := (Fx.of z).u_n
 have e : (Fx.of z).n = IntKind.i64.wrap (z / 18446744073709551616) * 18446744073709551616 + z % 18446744073709551616 := rfl
 have e2 : (Fx.of z).hi = IntKind.i64.wrap (z / 18446744073709551616) := rfl
 rw [e, e2, IntKind.wrap_i64] at h
 rw [Two.of_n]
 split at h <;> omega
set_option maxHeartbeats 4000000 in
theorem mag_pure (a : Fx) : Pure Try.prog 32 #[a.v] a.mag.v := by
 have hn := rneg_pure a
 obtain ⟨b, hb⟩ : ∃ x, decide (a.hi < 0) = x := ⟨_, rfl⟩
 have e1 : arith .lss .i64 a.hi 0 = some (.bool b) := by simp only [arith, hb]
 have k1 : b = false → a.mag = a.u := fun h => a.mag_pos (of_decide_eq_false (hb.trans h))
 have k2 : b = true → a.mag = (Fx.of (-a.n)).u := fun h => by
  have := (a.neg_iff).1 (of_decide_eq_true (hb.trans h))
  have := a.lt
  rw [Fx.of_u]
  apply Two.ext_n
  rw [Fx.mag_n, Two.of_n]
  omega
 clear hb
 generalize Fx.of (-a.n) = r at *
 refine pure_q Try.func32 rfl Try.ntmps32 rfl rfl (fun w0 Q hQ => ?_)
 repeat' (
  first
   | refine j_seq_k (fun N hN => ?_)
   | refine j_text ?_
   | refine j_block ?_
   | refine j_skip ?_
   | refine j_ret ?_
   | refine j_exit ?_
   | refine s_nil (show X _ _ _ _ _ from ?_)
   | (refine x_next hN ?_; clear hN N)
   | (refine x_then_ret ?_; clear hN N)
   | (refine x_then_exit ?_; clear hN N)
   | refine x_block ?_
   | refine x_block_ret ?_
   | refine x_block_hit ?_
   | refine x_block_miss (by eq_refl) ?_
   | refine k_skip (h := ?_)
   | refine k_fieldAddr (h := ?_)
   | refine k_load_one (h := ?_)
   | refine k_load_agg (h := ?_)
   | refine k_bin (h := ?_)
   | refine k_move (h := ?_)
   | refine k_assign (h := ?_)
   | refine k_extract (h := ?_)
   | refine k_call (hp := hn) (h := ?_)
   | (refine k_box (h := ?_); intro g)
   | (refine k_alloc (h := ?_); intro g)
   | refine k_store (h := ?_)
   | refine k_field_agg (h := ?_)
   | refine k_build (h := ?_)
   | refine k_conv (h := ?_)
   | refine k_not (h := ?_)
   | refine k_eqb (h := ?_)
   | refine k_neb (h := ?_)
   | refine k_eqs (h := ?_)
   | refine k_nes (h := ?_)
   | refine k_pick_t (h := ?_)
   | refine k_pick_f (h := ?_)
   | refine k_shl (h := ?_)
   | refine k_shr (h := ?_)
   | refine k_len_slice (h := ?_)
   | refine k_quo (h := ?_)
   | refine k_rem (h := ?_)
   | (refine k_buildSlice (h := ?_); intro g)
   | refine k_indexAddr_arr (h := ?_)
   | refine c_true (h := ?_)
   | refine c_false (h := ?_)
   | (refine s_ask (by eq_refl) (by eq_refl) (evO_eq (by eq_refl)) (fun hask => ?_) (fun hask => ?_))
   | (refine c_split (by eq_refl) (fun hif => ?_) (fun hif => ?_))
  )
 all_goals refine hQ _ _ (ret1 rfl (by (first | exact v_tmp | exact v_agg)) ?_)
 ·rw [k2 hif]; rfl
 ·rw [k1 hif]; rfl
set_option maxHeartbeats 4000000 in
theorem signed_pure (s : Bool) (m : Four) : Pure Try.prog 33 #[.bool s, m.v] (.agg #[.int .i64 (told m s).1.hi, .int .u64 (told m s).1.lo, .int .i64 (told m s).2]) := by
 have hA : ∀ h, (m.lo.hi < 9223372036854775808) → (⟨IntKind.i64.wrap m.lo.hi, m.lo.lo, h⟩ : Fx).n = m.lo.n := fun h hlt => by
  rw [Two.n_int]; show IntKind.i64.wrap m.lo.hi * _ + m.lo.lo = _; have := m.lo.b; rw [IntKind.wrap_i64]; omega
 have hn := rneg_pure ⟨IntKind.i64.wrap m.lo.hi, m.lo.lo, by have := i64_range m.lo.hi; have := m.lo.b; omega⟩
 have t1 : 170141183460469231731687303715884105728 ≤ m.n → told m s = (Fx.of 0, 3) := fun h => by unfold told; rw [if_pos h]
 have t2 : ¬ 170141183460469231731687303715884105728 ≤ m.n → told m s = (Fx.of (sgn s m.lo.n), 0) := fun h => by unfold told; rw [if_neg h]
 generalize told m s = t at *
 obtain ⟨g, hg⟩ : ∃ x, decide (m.lo.hi ≥ 9223372036854775808) = x := ⟨_, rfl⟩
 have e1 : arith .geq .u64 m.lo.hi 9223372036854775808 = some (.bool g) := by simp only [arith, hg]
 have big : 170141183460469231731687303715884105728 ≤ m.n ↔ ¬ (m.hi.hi = 0 ∧ m.hi.lo = 0) ∨ m.lo.hi ≥ 9223372036854775808 := by
  have h1 := m.n_eq; have h2 := m.lo.n_int; have h3 := m.hi.n_int; have := m.lo.b; have := m.hi.b; have := m.lo.lt
  rw [h1]; omega
 refine pure_q Try.func33 rfl Try.ntmps33 rfl rfl (fun w0 Q hQ => ?_)
 repeat' (
  first
   | refine j_seq_k (fun N hN => ?_)
   | refine j_text ?_
   | refine j_block ?_
   | refine j_skip ?_
   | refine j_ret ?_
   | refine j_exit ?_
   | refine s_nil (show X _ _ _ _ _ from ?_)
   | (refine x_next hN ?_; clear hN N)
   | (refine x_then_ret ?_; clear hN N)
   | (refine x_then_exit ?_; clear hN N)
   | refine x_block ?_
   | refine x_block_ret ?_
   | refine x_block_hit ?_
   | refine x_block_miss (by eq_refl) ?_
   | refine k_skip (h := ?_)
   | refine k_fieldAddr (h := ?_)
   | refine k_load_one (h := ?_)
   | refine k_load_agg (h := ?_)
   | refine k_bin (h := ?_)
   | refine k_move (h := ?_)
   | refine k_assign (h := ?_)
   | refine k_extract (h := ?_)
   | refine k_call (hp := hn) (h := ?_)
   | (refine k_box (h := ?_); intro g)
   | (refine k_alloc (h := ?_); intro g)
   | refine k_store (h := ?_)
   | refine k_field_agg (h := ?_)
   | refine k_build (h := ?_)
   | refine k_conv (h := ?_)
   | refine k_not (h := ?_)
   | refine k_eqb (h := ?_)
   | refine k_neb (h := ?_)
   | refine k_eqs (h := ?_)
   | refine k_nes (h := ?_)
   | refine k_pick_t (h := ?_)
   | refine k_pick_f (h := ?_)
   | refine k_shl (h := ?_)
   | refine k_shr (h := ?_)
   | refine k_len_slice (h := ?_)
   | refine k_quo (h := ?_)
   | refine k_rem (h := ?_)
   | (refine k_buildSlice (h := ?_); intro g)
   | refine k_indexAddr_arr (h := ?_)
   | refine c_true (h := ?_)
   | refine c_false (h := ?_)
   | (refine s_ask (by eq_refl) (by eq_refl) (evO_eq (by eq_refl)) (fun hask => ?_) (fun hask => ?_))
   | (refine c_split (by eq_refl) (fun hif => ?_) (fun hif => ?_))
  )
 all_goals refine hQ _ _ (ret1 rfl (by (first | exact v_tmp | exact v_agg)) ?_)
 all_goals clear hQ e1
 ·have hb := t1 (big.2 (.inl (by rintro ⟨h1, h2⟩; rw [h1, h2] at hask; simp at hask))); rw [hb]; rfl
 ·have hb := t1 (big.2 (.inr (of_decide_eq_true (hg.trans hif)))); rw [hb]; rfl
 all_goals
  have hg0 : ¬ m.lo.hi ≥ 9223372036854775808 := of_decide_eq_false (hg.trans (by assumption))
  have hb := t2 (fun h => (big.1 h).elim (fun h => h (by simpa using hask)) hg0)
  have hA' := hA (by have := i64_range m.lo.hi; have := m.lo.b; omega) (by omega)
  have hl := big
 ·have es : ∀ n, sgn true n = -(n : Int) := fun n => rfl
  rw [hb, hA', hif, es]
 ·rw [hb, hif]
  have es : ∀ n, sgn false n = (n : Int) := fun n => rfl
  rw [es]
  have hlt : (m.lo.n : Int) < 170141183460469231731687303715884105728 := by rw [Two.n_int]; have := m.lo.b; omega
  have e := Fx.n_ext (hA'.trans (Fx.of_n (m.lo.n : Int) ⟨by omega, hlt⟩).symm)
  rw [← e]
def radd (a b : Fx) : Fx × Int := if a.below = b.below then told ⟨⟨0, 0, by decide⟩, Two.of (a.mag.n + b.mag.n)⟩ a.below else if a.mag.n < b.mag.n then told ⟨⟨0, 0, by decide⟩, Two.of (b.mag.n + 340282366920938463463374607431768211456 - a.mag.n)⟩ b.below else told ⟨⟨0, 0, by decide⟩, Two.of (a.mag.n + 340282366920938463463374607431768211456 - b.mag.n)⟩ a.below
end Go.Proofs.Ytedfbamihjnhhaa.Own
