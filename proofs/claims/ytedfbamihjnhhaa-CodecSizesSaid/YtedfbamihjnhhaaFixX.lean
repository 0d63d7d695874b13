/- Package fix: numbers with a point: what the code computes. -/
import Derived.Test.YtedfbamihjnhhaaLimbX
namespace Go.Proofs.Ytedfbamihjnhhaa.Own
open Go Go.RowKit Go.Proofs Go.Proofs.Ytedfbamihjnhhaa.Plain
set_option linter.unusedVariables false
set_option linter.unusedSimpArgs false
set_option maxRecDepth 100000
structure Fx where
 hi : Int
 lo : Int
 b : -9223372036854775808 ≤ hi ∧ hi < 9223372036854775808 ∧ 0 ≤ lo ∧ lo < 18446744073709551616
def Fx.n (a : Fx) : Int := a.hi * 18446744073709551616 + a.lo
@[reducible] def Fx.v (a : Fx) : Value := .agg #[.int .i64 a.hi, .int .u64 a.lo]
theorem i64_range (z : Int) : -9223372036854775808 ≤ IntKind.i64.wrap z ∧ IntKind.i64.wrap z < 9223372036854775808 := by rw [IntKind.wrap_i64]; omega
theorem u64_range (z : Int) : 0 ≤ IntKind.u64.wrap z ∧ IntKind.u64.wrap z < 18446744073709551616 := by rw [IntKind.wrap_u64]; omega
def Fx.of (z : Int) : Fx := ⟨IntKind.i64.wrap (z / 18446744073709551616), z % 18446744073709551616, by have := i64_range (z / 18446744073709551616); omega⟩
def Fx.u (a : Fx) : Two := ⟨IntKind.u64.wrap a.hi, a.lo, by have := u64_range a.hi; have := a.b; omega⟩
def Fx.mag (a : Fx) : Two := Two.of a.n.natAbs
def Fx.below (a : Fx) : Bool := decide (a.hi < 0)
def sgn (s : Bool) (n : Nat) : Int := cond s (-(n : Int)) (n : Int)
theorem Two.n_int (a : Two) : ((a.n : Nat) : Int) = a.hi * 18446744073709551616 + a.lo := by have := a.b; unfold Two.n Limb.n2 val2; omega
theorem Two.of_hi (N : Nat) : (Two.of N).hi = ((N / 18446744073709551616 % 18446744073709551616 : Nat) : Int) := by
 have h := Two.n_int (Two.of N); have := (Two.of N).b; rw [Two.of_n] at h; omega
theorem Two.of_lo (N : Nat) : (Two.of N).lo = ((N % 18446744073709551616 : Nat) : Int) := by
 have h := Two.n_int (Two.of N); have := (Two.of N).b; rw [Two.of_n] at h; omega
theorem Fx.u_n (a : Fx) : ((a.u.n : Nat) : Int) = if a.hi < 0 then a.n + 340282366920938463463374607431768211456 else a.n := by
 rw [Two.n_int]; have := a.b; show IntKind.u64.wrap a.hi * _ + a.lo = _; rw [IntKind.wrap_u64]; unfold Fx.n; split <;> omega
theorem Fx.lt (a : Fx) : -170141183460469231731687303715884105728 ≤ a.n ∧ a.n < 170141183460469231731687303715884105728 := by have := a.b; unfold Fx.n; omega
theorem Fx.neg_iff (a : Fx) : a.hi < 0 ↔ a.n < 0 := by have := a.b; unfold Fx.n; omega
theorem Fx.mag_n (a : Fx) : a.mag.n = a.n.natAbs := by have := a.lt; unfold Fx.mag; rw [Two.of_n]; omega
theorem Fx.mag_pos (a : Fx) (h : ¬ a.hi < 0) : a.mag = a.u := by
 apply Two.ext_n; have h1 := a.u_n; rw [if_neg h] at h1; rw [Fx.mag_n]; omega
theorem Fx.mag_neg (a : Fx) (h : a.hi < 0) : a.mag = Two.of (0 + 340282366920938463463374607431768211456 - a.u.n) := by
 apply Two.ext_n; have h1 := a.u_n; rw [if_pos h] at h1; have := (a.neg_iff).1 h; have := a.lt; rw [Fx.mag_n, Two.of_n]; omega
theorem Fx.of_bits {z : Int} {T : Two} (h : ∃ k : Int, (T.n : Int) = z + k * 340282366920938463463374607431768211456) : Value.agg #[.int .i64 (IntKind.i64.wrap T.hi), .int .u64 T.lo] = (Fx.of z).v := by
 obtain ⟨k, h⟩ := h
 rw [Two.n_int] at h
 have := T.b
 have h1 : IntKind.i64.wrap T.hi = (Fx.of z).hi := by show _ = IntKind.i64.wrap (z / 18446744073709551616); rw [IntKind.wrap_i64, IntKind.wrap_i64]; omega
 have h2 : T.lo = (Fx.of z).lo := by show _ = z % 18446744073709551616; omega
 rw [h1, h2]
set_option maxHeartbeats 4000000 in
theorem of_pure (a : Fx) : Pure Try.prog 65 #[a.v] (.agg #[.int .u64 a.mag.hi, .int .u64 a.mag.lo, .bool a.below]) := by
 have hs := sub_pure ⟨0, 0, by decide⟩ a.u
 have hn := a.mag_neg
 have hp := a.mag_pos
 have z0 : (⟨0, 0, by decide⟩ : Two).n = 0 := by kernel_rfl
 rw [z0] at hs
 generalize Two.of (0 + 340282366920938463463374607431768211456 - a.u.n) = m at *
 obtain ⟨c, hc⟩ : ∃ c, a.hi.fdiv (2 ^ (min (63 : Int).toNat IntKind.i64.bits)) = c := ⟨_, rfl⟩
 obtain ⟨b, hb⟩ : ∃ b, decide (c = 0) = b := ⟨_, rfl⟩
 have e1 : arith .eql .i64 c 0 = some (.bool b) := by simp only [arith, ← hb]; rfl
 have hcb : b = !a.below := by
  have : a.hi.fdiv (2 ^ (min (63 : Int).toNat IntKind.i64.bits)) = a.hi / 9223372036854775808 := by rw [Int.fdiv_eq_ediv_of_nonneg _ (Int.pow_nonneg (by decide))]; rfl
  rw [this] at hc
  have := a.b
  rw [← hb]; unfold Fx.below
  by_cases h : a.hi < 0
  ·simp only [h, decide_true, Bool.not_true, decide_eq_false_iff_not]; omega
  ·simp only [h, decide_false, Bool.not_false, decide_eq_true_eq]; omega
 refine pure_q Try.func65 rfl Try.ntmps65 rfl rfl (fun w0 Q hQ => ?_)
 repeat' (
  first
   | refine j_seq_k (fun N hN => ?_)
   | refine j_text ?_
   | refine j_block ?_
   | refine j_skip ?_
   | refine j_ret ?_
   | refine j_exit ?_
   | refine s_nil (show X _ _ _ _ _ from ?_)
   | (refine x_next hN ?_; clear hN N)
   | (refine x_then_ret ?_; clear hN N)
   | (refine x_then_exit ?_; clear hN N)
   | refine x_block ?_
   | refine x_block_ret ?_
   | refine x_block_hit ?_
   | refine x_block_miss (by eq_refl) ?_
   | refine k_skip (h := ?_)
   | refine k_fieldAddr (h := ?_)
   | refine k_load_one (h := ?_)
   | refine k_load_agg (h := ?_)
   | refine k_bin (h := ?_)
   | refine k_move (h := ?_)
   | refine k_assign (h := ?_)
   | refine k_extract (h := ?_)
   | refine k_call (hp := hs) (h := ?_)
   | (refine k_box (h := ?_); intro g)
   | (refine k_alloc (h := ?_); intro g)
   | refine k_store (h := ?_)
   | refine k_field_agg (h := ?_)
   | refine k_build (h := ?_)
   | refine k_conv (h := ?_)
   | refine k_not (h := ?_)
   | refine k_eqb (h := ?_)
   | refine k_neb (h := ?_)
   | refine k_eqs (h := ?_)
   | refine k_nes (h := ?_)
   | refine k_pick_t (h := ?_)
   | refine k_pick_f (h := ?_)
   | refine k_shl (h := ?_)
   | refine k_shr (h := ?_)
   | refine k_len_slice (h := ?_)
   | refine k_quo (h := ?_)
   | refine k_rem (h := ?_)
   | (refine k_buildSlice (h := ?_); intro g)
   | refine k_indexAddr_arr (h := ?_)
   | refine c_true (h := ?_)
   | refine c_false (h := ?_)
   | (refine s_ask (by eq_refl) (by eq_refl) (evO_eq (by eq_refl)) (fun hask => ?_) (fun hask => ?_))
   | (refine c_split (by eq_refl) (fun hif => ?_) (fun hif => ?_))
  )
 all_goals refine hQ _ _ (ret1 rfl (by (first | exact v_tmp | exact v_agg)) ?_)
 ·have h : ¬ a.hi < 0 := by intro h; rw [hif] at hcb; simp [Fx.below, h] at hcb
  rw [hp h]; simp [Fx.below, h, Fx.u]
 ·have h : a.hi < 0 := by rw [hif] at hcb; simpa [Fx.below] using hcb
  rw [hn h]; simp [Fx.below, h]
set_option maxHeartbeats 4000000 in
theorem size_pure (m : Two) (s : Bool) : Pure Try.prog 70 #[.agg #[.int .u64 m.hi, .int .u64 m.lo, .bool s]] (Fx.of (sgn s m.n)).v := by
 have hs := sub_pure ⟨0, 0, by decide⟩ m
 have hm := m.lt
 have hn := Two.of_n (0 + 340282366920938463463374607431768211456 - m.n)
 have z0 : (⟨0, 0, by decide⟩ : Two).n = 0 := by kernel_rfl
 rw [z0] at hs
 generalize Two.of (0 + 340282366920938463463374607431768211456 - m.n) = T at *
 refine pure_q Try.func70 rfl Try.ntmps70 rfl rfl (fun w0 Q hQ => ?_)
 repeat' (
  first
   | refine j_seq_k (fun N hN => ?_)
   | refine j_text ?_
   | refine j_block ?_
   | refine j_skip ?_
   | refine j_ret ?_
   | refine j_exit ?_
   | refine s_nil (show X _ _ _ _ _ from ?_)
   | (refine x_next hN ?_; clear hN N)
   | (refine x_then_ret ?_; clear hN N)
   | (refine x_then_exit ?_; clear hN N)
   | refine x_block ?_
   | refine x_block_ret ?_
   | refine x_block_hit ?_
   | refine x_block_miss (by eq_refl) ?_
   | refine k_skip (h := ?_)
   | refine k_fieldAddr (h := ?_)
   | refine k_load_one (h := ?_)
   | refine k_load_agg (h := ?_)
   | refine k_bin (h := ?_)
   | refine k_move (h := ?_)
   | refine k_assign (h := ?_)
   | refine k_extract (h := ?_)
   | refine k_call (hp := hs) (h := ?_)
   | (refine k_box (h := ?_); intro g)
   | (refine k_alloc (h := ?_); intro g)
   | refine k_store (h := ?_)
   | refine k_field_agg (h := ?_)
   | refine k_build (h := ?_)
   | refine k_conv (h := ?_)
   | refine k_not (h := ?_)
   | refine k_eqb (h := ?_)
   | refine k_neb (h := ?_)
   | refine k_eqs (h := ?_)
   | refine k_nes (h := ?_)
   | refine k_pick_t (h := ?_)
   | refine k_pick_f (h := ?_)
   | refine k_shl (h := ?_)
   | refine k_shr (h := ?_)
   | refine k_len_slice (h := ?_)
   | refine k_quo (h := ?_)
   | refine k_rem (h := ?_)
   | (refine k_buildSlice (h := ?_); intro g)
   | refine k_indexAddr_arr (h := ?_)
   | refine c_true (h := ?_)
   | refine c_false (h := ?_)
   | (refine s_ask (by eq_refl) (by eq_refl) (evO_eq (by eq_refl)) (fun hask => ?_) (fun hask => ?_))
   | (refine c_split (by eq_refl) (fun hif => ?_) (fun hif => ?_))
  )
 all_goals refine hQ _ _ (ret1 rfl (by (first | exact v_tmp | exact v_agg)) ?_)
 ·rw [hif]; unfold sgn; rw [cond_true]
  by_cases h0 : m.n = 0
  ·exact Fx.of_bits ⟨0, by omega⟩
  ·exact Fx.of_bits ⟨1, by omega⟩
 ·rw [hif]; exact Fx.of_bits ⟨0, by unfold sgn; rw [cond_false]; omega⟩
set_option maxHeartbeats 4000000 in
theorem wide_pure (m : Two) : Pure Try.prog 68 #[m.v] (.agg #[.int .u64 0, .int .u64 0, .int .u64 m.hi, .int .u64 m.lo]) := by
 refine pure_q Try.func68 rfl Try.ntmps68 rfl rfl (fun w0 Q hQ => ?_)
 repeat' (
  first
   | refine j_seq_k (fun N hN => ?_)
   | refine j_text ?_
   | refine j_block ?_
   | refine j_skip ?_
   | refine j_ret ?_
   | refine j_exit ?_
   | refine s_nil (show X _ _ _ _ _ from ?_)
   | (refine x_next hN ?_; clear hN N)
   | (refine x_then_ret ?_; clear hN N)
   | (refine x_then_exit ?_; clear hN N)
   | refine x_block ?_
   | refine x_block_ret ?_
   | refine x_block_hit ?_
   | refine x_block_miss (by eq_refl) ?_
   | refine k_skip (h := ?_)
   | refine k_fieldAddr (h := ?_)
   | refine k_load_one (h := ?_)
   | refine k_load_agg (h := ?_)
   | refine k_bin (h := ?_)
   | refine k_move (h := ?_)
   | refine k_assign (h := ?_)
   | refine k_extract (h := ?_)
   | (refine k_box (h := ?_); intro g)
   | (refine k_alloc (h := ?_); intro g)
   | refine k_store (h := ?_)
   | refine k_field_agg (h := ?_)
   | refine k_build (h := ?_)
   | refine k_conv (h := ?_)
   | refine k_not (h := ?_)
   | refine k_eqb (h := ?_)
   | refine k_neb (h := ?_)
   | refine k_eqs (h := ?_)
   | refine k_nes (h := ?_)
   | refine k_pick_t (h := ?_)
   | refine k_pick_f (h := ?_)
   | refine k_shl (h := ?_)
   | refine k_shr (h := ?_)
   | refine k_len_slice (h := ?_)
   | refine k_quo (h := ?_)
   | refine k_rem (h := ?_)
   | (refine k_buildSlice (h := ?_); intro g)
   | refine k_indexAddr_arr (h := ?_)
   | refine c_true (h := ?_)
   | refine c_false (h := ?_)
   | (refine s_ask (by eq_refl) (by eq_refl) (evO_eq (by eq_refl)) (fun hask => ?_) (fun hask => ?_))
   | (refine c_split (by eq_refl) (fun hif => ?_) (fun hif => ?_))
  )
 all_goals refine hQ _ _ (ret1 rfl (by (first | exact v_tmp | exact v_agg)) ?_)
 rfl
def told (m : Four) (s : Bool) : Fx × Int := if 170141183460469231731687303715884105728 ≤ m.n then (Fx.of 0, 3) else (Fx.of (sgn s m.lo.n), 0)
set_option maxHeartbeats 4000000 in
theorem told_pure (m : Four) (s : Bool) : Pure Try.prog 67 #[m.v, .bool s] (.tuple #[(told m s).1.v, .int .i64 (told m s).2]) := by
 have hl := len_pure m
 have hs := size_pure m.lo s
 obtain ⟨b, hb⟩ : ∃ b, decide (((blen m.n : Nat) : Int) > 127) = b := ⟨_, rfl⟩
 have e1 : arith .gtr .i64 ((blen m.n : Nat) : Int) 127 = some (.bool b) := by simp only [arith, hb]
 have hbb : b = decide (170141183460469231731687303715884105728 ≤ m.n) := by
  have := blen_le m.n 127
  rw [← hb]; apply decide_eq_decide.2; omega
 refine pure_q Try.func67 rfl Try.ntmps67 rfl rfl (fun w0 Q hQ => ?_)
 repeat' (
  first
   | refine j_seq_k (fun N hN => ?_)
   | refine j_text ?_
   | refine j_block ?_
   | refine j_skip ?_
   | refine j_ret ?_
   | refine j_exit ?_
   | refine s_nil (show X _ _ _ _ _ from ?_)
   | (refine x_next hN ?_; clear hN N)
   | (refine x_then_ret ?_; clear hN N)
   | (refine x_then_exit ?_; clear hN N)
   | refine x_block ?_
   | refine x_block_ret ?_
   | refine x_block_hit ?_
   | refine x_block_miss (by eq_refl) ?_
   | refine k_skip (h := ?_)
   | refine k_fieldAddr (h := ?_)
   | refine k_load_one (h := ?_)
   | refine k_load_agg (h := ?_)
   | refine k_bin (h := ?_)
   | refine k_move (h := ?_)
   | refine k_assign (h := ?_)
   | refine k_extract (h := ?_)
   | refine k_call (hp := hl) (h := ?_)
   | refine k_call (hp := hs) (h := ?_)
   | (refine k_box (h := ?_); intro g)
   | (refine k_alloc (h := ?_); intro g)
   | refine k_store (h := ?_)
   | refine k_field_agg (h := ?_)
   | refine k_build (h := ?_)
   | refine k_conv (h := ?_)
   | refine k_not (h := ?_)
   | refine k_eqb (h := ?_)
   | refine k_neb (h := ?_)
   | refine k_eqs (h := ?_)
   | refine k_nes (h := ?_)
   | refine k_pick_t (h := ?_)
   | refine k_pick_f (h := ?_)
   | refine k_shl (h := ?_)
   | refine k_shr (h := ?_)
   | refine k_len_slice (h := ?_)
   | refine k_quo (h := ?_)
   | refine k_rem (h := ?_)
   | (refine k_buildSlice (h := ?_); intro g)
   | refine k_indexAddr_arr (h := ?_)
   | refine c_true (h := ?_)
   | refine c_false (h := ?_)
   | (refine s_ask (by eq_refl) (by eq_refl) (evO_eq (by eq_refl)) (fun hask => ?_) (fun hask => ?_))
   | (refine c_split (by eq_refl) (fun hif => ?_) (fun hif => ?_))
  )
 all_goals refine hQ _ _ (ret2 rfl (by (first | exact v_tmp | exact v_agg)) (by (first | exact v_tmp | exact v_agg)) ?_)
 all_goals (rw [hif] at hbb; unfold told)
 ·rw [if_pos (of_decide_eq_true hbb.symm)]; rfl
 ·rw [if_neg (of_decide_eq_false hbb.symm)]
def fadd (a b : Fx) : Fx × Int := if a.below = b.below then told ⟨⟨0, 0, by decide⟩, Two.of (a.mag.n + b.mag.n)⟩ a.below else (Fx.of (a.n + b.n), 0)
theorem Four.n_low {z m : Two} (hz : z.n = 0) : (⟨z, m⟩ : Four).n = m.n := by
 rw [Four.n_eq ⟨z, m⟩]
 show z.n * _ + m.n = m.n
 rw [hz, Nat.zero_mul, Nat.zero_add]
theorem sub_signs (a b : Fx) (h : ¬ a.below = b.below) : (a.mag.n < b.mag.n → sgn b.below (Two.of (b.mag.n + 340282366920938463463374607431768211456 - a.mag.n)).n = a.n + b.n) ∧
  (¬ a.mag.n < b.mag.n → sgn a.below (Two.of (a.mag.n + 340282366920938463463374607431768211456 - b.mag.n)).n = a.n + b.n) := by
 have ha := a.lt
 have hb := b.lt
 have na := a.neg_iff
 have nb := b.neg_iff
 rw [Fx.mag_n, Fx.mag_n, Two.of_n, Two.of_n]
 obtain ⟨A, hA⟩ : ∃ A, (b.n.natAbs + 340282366920938463463374607431768211456 - a.n.natAbs) % 340282366920938463463374607431768211456 = A := ⟨_, rfl⟩
 obtain ⟨B, hB⟩ : ∃ A, (a.n.natAbs + 340282366920938463463374607431768211456 - b.n.natAbs) % 340282366920938463463374607431768211456 = A := ⟨_, rfl⟩
 rw [hA, hB]
 have et : ∀ n, sgn true n = -(n : Int) := fun n => rfl
 have ef : ∀ n, sgn false n = (n : Int) := fun n => rfl
 by_cases h1 : a.hi < 0 <;> by_cases h2 : b.hi < 0
 ·exact absurd (by unfold Fx.below; rw [decide_eq_true h1, decide_eq_true h2]) h
 ·have e1 : a.below = true := decide_eq_true h1
  have e2 : b.below = false := decide_eq_false h2
  have := na.1 h1; have : ¬ b.n < 0 := fun q => h2 (nb.2 q)
  rw [e1, e2, et, ef]
  constructor <;> intro q <;> omega
 ·have e1 : a.below = false := decide_eq_false h1
  have e2 : b.below = true := decide_eq_true h2
  have := nb.1 h2; have : ¬ a.n < 0 := fun q => h1 (na.2 q)
  rw [e1, e2, et, ef]
  constructor <;> intro q <;> omega
 ·exact absurd (by unfold Fx.below; rw [decide_eq_false h1, decide_eq_false h2]) h
set_option maxHeartbeats 8000000 in
theorem fadd_pure (a b : Fx) : Pure Try.prog 29 #[a.v, b.v] (.tuple #[(fadd a b).1.v, .int .i64 (fadd a b).2]) := by
 have h1 := of_pure a
 have h2 := of_pure b
 have h3 := add_pure a.mag b.mag
 have h4 := wide_pure (Two.of (a.mag.n + b.mag.n))
 have h5 := told_pure ⟨⟨0, 0, by decide⟩, Two.of (a.mag.n + b.mag.n)⟩ a.below
 have h6 := sub_pure a.mag b.mag
 have h7 := sub_pure b.mag a.mag
 have h8 := size_pure (Two.of (a.mag.n + 340282366920938463463374607431768211456 - b.mag.n)) a.below
 have h9 := size_pure (Two.of (b.mag.n + 340282366920938463463374607431768211456 - a.mag.n)) b.below
 have hss := sub_signs a b
 have hf : fadd a b = if a.below = b.below then told ⟨⟨0, 0, by decide⟩, Two.of (a.mag.n + b.mag.n)⟩ a.below else (Fx.of (a.n + b.n), 0) := rfl
 generalize fadd a b = r at *
 generalize told ⟨⟨0, 0, by decide⟩, Two.of (a.mag.n + b.mag.n)⟩ a.below = t at *
 obtain ⟨ls, hls⟩ : ∃ l, decide (a.mag.n < b.mag.n) = l := ⟨_, rfl⟩
 rw [hls] at h6
 generalize hR1 : Fx.of (sgn a.below (Two.of (a.mag.n + 340282366920938463463374607431768211456 - b.mag.n)).n) = R1 at *
 generalize hR2 : Fx.of (sgn b.below (Two.of (b.mag.n + 340282366920938463463374607431768211456 - a.mag.n)).n) = R2 at *
 generalize Two.of (a.mag.n + 340282366920938463463374607431768211456 - b.mag.n) = D1 at *
 generalize Two.of (b.mag.n + 340282366920938463463374607431768211456 - a.mag.n) = D2 at *
 refine pure_q Try.func29 rfl Try.ntmps29 rfl rfl (fun w0 Q hQ => ?_)
 repeat' (
  first
   | refine j_seq_k (fun N hN => ?_)
   | refine j_text ?_
   | refine j_draw (id := 1) [] (by kernel_rfl) (by kernel_rfl) ?_
   | refine j_draw (id := 4) [(998, .eff)] (by kernel_rfl) (by kernel_rfl) ?_
   | refine j_block ?_
   | refine j_skip ?_
   | refine j_ret ?_
   | refine j_exit ?_
   | refine s_nil (show X _ _ _ _ _ from ?_)
   | (refine x_next hN ?_; clear hN N)
   | (refine x_then_ret ?_; clear hN N)
   | (refine x_then_exit ?_; clear hN N)
   | refine x_block ?_
   | refine x_block_ret ?_
   | refine x_block_hit ?_
   | refine x_block_miss (by eq_refl) ?_
   | refine k_skip (h := ?_)
   | refine k_fieldAddr (h := ?_)
   | refine k_load_one (h := ?_)
   | refine k_load_agg (h := ?_)
   | refine k_bin (h := ?_)
   | refine k_move (h := ?_)
   | refine k_assign (h := ?_)
   | refine k_extract (h := ?_)
   | refine k_call (hp := h1) (h := ?_)
   | refine k_call (hp := h2) (h := ?_)
   | refine k_call (hp := h3) (h := ?_)
   | refine k_call (hp := h4) (h := ?_)
   | refine k_call (hp := h5) (h := ?_)
   | refine k_call (hp := h6) (h := ?_)
   | refine k_call (hp := h7) (h := ?_)
   | refine k_call (hp := h8) (h := ?_)
   | refine k_call (hp := h9) (h := ?_)
   | (refine k_box (h := ?_); intro g)
   | (refine k_alloc (h := ?_); intro g)
   | refine k_store (h := ?_)
   | refine k_field_agg (h := ?_)
   | refine k_build (h := ?_)
   | refine k_conv (h := ?_)
   | refine k_not (h := ?_)
   | refine k_eqb (h := ?_)
   | refine k_neb (h := ?_)
   | refine k_eqs (h := ?_)
   | refine k_nes (h := ?_)
   | refine k_pick_t (h := ?_)
   | refine k_pick_f (h := ?_)
   | refine k_shl (h := ?_)
   | refine k_shr (h := ?_)
   | refine k_len_slice (h := ?_)
   | refine k_quo (h := ?_)
   | refine k_rem (h := ?_)
   | (refine k_buildSlice (h := ?_); intro g)
   | refine k_indexAddr_arr (h := ?_)
   | refine c_true (h := ?_)
   | refine c_false (h := ?_)
   | (refine s_ask (by eq_refl) (by eq_refl) (evO_eq (by eq_refl)) (fun hask => ?_) (fun hask => ?_))
   | (refine c_split (by eq_refl) (fun hif => ?_) (fun hif => ?_))
  )
 all_goals clear h1 h2 h3 h4 h5 h6 h7 h8 h9
 all_goals refine hQ _ _ (ret2 rfl (by (first | exact v_tmp | exact v_agg)) (by (first | exact v_tmp | exact v_agg)) ?_)
 all_goals clear hQ
 ·rw [if_pos (beq_iff_eq.1 hif)] at hf; rw [hf]
 ·have hne : ¬ a.below = b.below := by have q : (a.below == b.below) = false := (by assumption); intro h; rw [h] at q; simp at q
  rw [if_neg hne, ← (hss hne).2 (by rw [Bool.not_eq_true'] at hif; exact of_decide_eq_false (hls.trans hif)), hR1] at hf; rw [hf]
 ·have hne : ¬ a.below = b.below := by have q : (a.below == b.below) = false := (by assumption); intro h; rw [h] at q; simp at q
  rw [if_neg hne, ← (hss hne).1 (by rw [Bool.not_eq_false'] at hif; exact of_decide_eq_true (hls.trans hif)), hR2] at hf; rw [hf]
end Go.Proofs.Ytedfbamihjnhhaa.Own
