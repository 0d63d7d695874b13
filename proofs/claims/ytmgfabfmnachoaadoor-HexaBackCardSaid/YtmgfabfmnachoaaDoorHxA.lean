/- Numbers: what the code computes. -/
import Derived.Test.YtmgfabfmnachoaaDoorInst
import Derived.Test.YtmgfabfmnachoaaDoorLimbA
namespace Go.Proofs.YtmgfabfmnachoaaDoor.Own
open Go Go.RowKit Go.Proofs Go.Proofs.YtmgfabfmnachoaaDoor.Plain
open Go.Proofs.YtmgfabfmnachoaaDoor.Limb (limb_Sub.f limb_Sub.calls n2 n4 e2 e4 Wd)
set_option linter.unusedVariables false
set_option linter.unusedSimpArgs false
set_option maxRecDepth 100000
/-- 128 bits -/
structure Two where
  hi : Int
  lo : Int
  b : 0 ≤ hi ∧ hi < 18446744073709551616 ∧ 0 ≤ lo ∧ lo < 18446744073709551616
def Two.n (a : Two) : Nat := n2 a.hi a.lo
@[reducible] def Two.v (a : Two) : Value := .agg #[.int .u64 a.hi, .int .u64 a.lo]
def Two.of (N : Nat) : Two := ⟨(wrd 1 N : Nat), (wrd 0 N : Nat), by have := wrd_lt 1 N; have := wrd_lt 0 N; omega⟩
/-- 256 bits -/
structure Four where
  hi : Two
  lo : Two
def Four.n (a : Four) : Nat := n4 a.hi.hi a.hi.lo a.lo.hi a.lo.lo
@[reducible] def Four.v (a : Four) : Value := .agg #[.int .u64 a.hi.hi, .int .u64 a.hi.lo, .int .u64 a.lo.hi, .int .u64 a.lo.lo]
def Four.of (N : Nat) : Four := ⟨⟨(wrd 3 N : Nat), (wrd 2 N : Nat), by have := wrd_lt 3 N; have := wrd_lt 2 N; omega⟩, ⟨(wrd 1 N : Nat), (wrd 0 N : Nat), by have := wrd_lt 1 N; have := wrd_lt 0 N; omega⟩⟩
theorem Two.wd (a : Two) : Wd a.hi ∧ Wd a.lo := by have := a.b; unfold Wd; omega
theorem Two.lt (a : Two) : a.n < 340282366920938463463374607431768211456 := by have := a.b; unfold Two.n n2 val2; omega
theorem Four.lt (a : Four) : a.n < 115792089237316195423570985008687907853269984665640564039457584007913129639936 := by have := a.hi.b; have := a.lo.b; unfold Four.n n4 val4; omega
theorem Four.n_eq (a : Four) : a.n = a.hi.n * 340282366920938463463374607431768211456 + a.lo.n := by have := a.hi.b; have := a.lo.b; unfold Four.n Two.n n4 n2 val4 val2; omega
theorem Two.of_n (N : Nat) : (Two.of N).n = N % 340282366920938463463374607431768211456 := by
  unfold Two.n Two.of n2 val2 wrd; simp only [Int.toNat_natCast, Nat.reducePow]; omega
theorem Two.n_of (a : Two) : Two.of a.n = a := by
  obtain ⟨h, l, hb⟩ := a
  simp only [Two.n, Two.of, n2, val2, wrd, Two.mk.injEq, Nat.reducePow]; omega
theorem Two.ext_n {a b : Two} (h : a.n = b.n) : a = b := by rw [← Two.n_of a, ← Two.n_of b, h]
theorem Four.of_n (N : Nat) : (Four.of N).n = N % 115792089237316195423570985008687907853269984665640564039457584007913129639936 := by
  unfold Four.n Four.of n4 val4 wrd; simp only [Int.toNat_natCast, Nat.reducePow]; omega
theorem Four.n_of (a : Four) : Four.of a.n = a := by
  obtain ⟨⟨h, l, hb⟩, ⟨h', l', hb'⟩⟩ := a
  simp only [Four.n, Four.of, n4, val4, wrd, Four.mk.injEq, Two.mk.injEq, Nat.reducePow]
  omega
theorem Four.ext_n {a b : Four} (h : a.n = b.n) : a = b := by rw [← Four.n_of a, ← Four.n_of b, h]

theorem sub_pure (a b : Two) : Pure Tryd.prog 38 #[a.v, b.v] (.tuple #[(Two.of (a.n + 340282366920938463463374607431768211456 - b.n)).v, .bool (decide (a.n < b.n))]) := fun w =>
  limb_Sub.calls _ _ _ _ _ _ _ w (by unfold limb_Sub.f; rw [if_pos ⟨a.wd.1, a.wd.2, b.wd⟩]; rfl)
/-- a number with a point -/
structure Fx where
  hi : Int
  lo : Int
  b : -9223372036854775808 ≤ hi ∧ hi < 9223372036854775808 ∧ 0 ≤ lo ∧ lo < 18446744073709551616
def Fx.n (a : Fx) : Int := a.hi * 18446744073709551616 + a.lo
@[reducible] def Fx.v (a : Fx) : Value := .agg #[.int .i64 a.hi, .int .u64 a.lo]
theorem i64_range (z : Int) : -9223372036854775808 ≤ IntKind.i64.wrap z ∧ IntKind.i64.wrap z < 9223372036854775808 := by rw [IntKind.wrap_i64]; omega
theorem u64_range (z : Int) : 0 ≤ IntKind.u64.wrap z ∧ IntKind.u64.wrap z < 18446744073709551616 := by rw [IntKind.wrap_u64]; omega
def Fx.of (z : Int) : Fx := ⟨IntKind.i64.wrap (z / 18446744073709551616), z % 18446744073709551616, by have := i64_range (z / 18446744073709551616); omega⟩
/-- its bits -/
def Fx.u (a : Fx) : Two := ⟨IntKind.u64.wrap a.hi, a.lo, by have := u64_range a.hi; have := a.b; omega⟩
def Fx.mag (a : Fx) : Two := Two.of a.n.natAbs
def Fx.below (a : Fx) : Bool := decide (a.hi < 0)
def sgn (s : Bool) (n : Nat) : Int := cond s (-(n : Int)) (n : Int)
theorem Two.n_int (a : Two) : ((a.n : Nat) : Int) = a.hi * 18446744073709551616 + a.lo := by have := a.b; unfold Two.n Limb.n2 val2; omega
theorem Two.of_hi (N : Nat) : (Two.of N).hi = ((N / 18446744073709551616 % 18446744073709551616 : Nat) : Int) := by
  have h := Two.n_int (Two.of N); have := (Two.of N).b; rw [Two.of_n] at h; omega
theorem Two.of_lo (N : Nat) : (Two.of N).lo = ((N % 18446744073709551616 : Nat) : Int) := by
  have h := Two.n_int (Two.of N); have := (Two.of N).b; rw [Two.of_n] at h; omega
theorem Fx.u_n (a : Fx) : ((a.u.n : Nat) : Int) = if a.hi < 0 then a.n + 340282366920938463463374607431768211456 else a.n := by
  rw [Two.n_int]; have := a.b; show IntKind.u64.wrap a.hi * _ + a.lo = _; rw [IntKind.wrap_u64]; unfold Fx.n; split <;> omega
theorem Fx.lt (a : Fx) : -170141183460469231731687303715884105728 ≤ a.n ∧ a.n < 170141183460469231731687303715884105728 := by have := a.b; unfold Fx.n; omega
theorem Fx.neg_iff (a : Fx) : a.hi < 0 ↔ a.n < 0 := by have := a.b; unfold Fx.n; omega
theorem Fx.mag_n (a : Fx) : a.mag.n = a.n.natAbs := by have := a.lt; unfold Fx.mag; rw [Two.of_n]; omega
theorem Fx.mag_pos (a : Fx) (h : ¬ a.hi < 0) : a.mag = a.u := by
  apply Two.ext_n; have h1 := a.u_n; rw [if_neg h] at h1; rw [Fx.mag_n]; omega
theorem Fx.mag_neg (a : Fx) (h : a.hi < 0) : a.mag = Two.of (0 + 340282366920938463463374607431768211456 - a.u.n) := by
  apply Two.ext_n; have h1 := a.u_n; rw [if_pos h] at h1; have := (a.neg_iff).1 h; have := a.lt; rw [Fx.mag_n, Two.of_n]; omega
/-- from the bits back -/
theorem Fx.of_bits {z : Int} {T : Two} (h : ∃ k : Int, (T.n : Int) = z + k * 340282366920938463463374607431768211456) : Value.agg #[.int .i64 (IntKind.i64.wrap T.hi), .int .u64 T.lo] = (Fx.of z).v := by
  obtain ⟨k, h⟩ := h
  rw [Two.n_int] at h
  have := T.b
  have h1 : IntKind.i64.wrap T.hi = (Fx.of z).hi := by show _ = IntKind.i64.wrap (z / 18446744073709551616); rw [IntKind.wrap_i64, IntKind.wrap_i64]; omega
  have h2 : T.lo = (Fx.of z).lo := by show _ = z % 18446744073709551616; omega
  rw [h1, h2]
set_option maxHeartbeats 4000000 in
theorem of_pure (a : Fx) : Pure Tryd.prog 28 #[a.v] (.agg #[.int .u64 a.mag.hi, .int .u64 a.mag.lo, .bool a.below]) := by
  have hs := sub_pure ⟨0, 0, by decide⟩ a.u
  have hn := a.mag_neg
  have hp := a.mag_pos
  have z0 : (⟨0, 0, by decide⟩ : Two).n = 0 := by kernel_rfl
  rw [z0] at hs
  generalize Two.of (0 + 340282366920938463463374607431768211456 - a.u.n) = m at *
  obtain ⟨c, hc⟩ : ∃ c, a.hi.fdiv (2 ^ (min (63 : Int).toNat IntKind.i64.bits)) = c := ⟨_, rfl⟩
  obtain ⟨b, hb⟩ : ∃ b, decide (c = 0) = b := ⟨_, rfl⟩
  have e1 : arith .eql .i64 c 0 = some (.bool b) := by simp only [arith, ← hb]; rfl
  have hcb : b = !a.below := by
    have : a.hi.fdiv (2 ^ (min (63 : Int).toNat IntKind.i64.bits)) = a.hi / 9223372036854775808 := by rw [Int.fdiv_eq_ediv_of_nonneg _ (Int.pow_nonneg (by decide))]; rfl
    rw [this] at hc
    have := a.b
    rw [← hb]; unfold Fx.below
    by_cases h : a.hi < 0
    · simp only [h, decide_true, Bool.not_true, decide_eq_false_iff_not]; omega
    · simp only [h, decide_false, Bool.not_false, decide_eq_true_eq]; omega
  refine pure_q Tryd.func28 rfl Tryd.ntmps28 rfl rfl (fun w0 Q hQ => ?_)
  repeat' (
    first
      | refine j_seq_k (fun N hN => ?_)
      | refine j_text ?_
      | refine j_block ?_
      | refine j_skip ?_
      | refine j_ret ?_
      | refine j_exit ?_
      | refine s_nil (show X _ _ _ _ _ from ?_)
      | (refine x_next hN ?_; clear hN N)
      | (refine x_then_ret ?_; clear hN N)
      | (refine x_then_exit ?_; clear hN N)
      | refine x_block ?_
      | refine x_block_ret ?_
      | refine x_block_hit ?_
      | refine x_block_miss (by eq_refl) ?_
      | refine k_skip (h := ?_)
      | refine k_skip0 (h := ?_)
      | refine k_fieldAddr (h := ?_)
      | refine k_load_one (h := ?_)
      | refine k_load_agg (h := ?_)
      | refine k_bin (h := ?_)
      | refine k_move (h := ?_)
      | refine k_assign (h := ?_)
      | refine k_extract (h := ?_)
      | refine k_call (hp := hs) (h := ?_)
      | (refine k_box (h := ?_); intro g)
      | (refine k_alloc (h := ?_); intro g)
      | refine k_store (h := ?_)
      | refine k_field_agg (h := ?_)
      | refine k_field_one (h := ?_)
      | refine k_build (h := ?_)
      | refine k_conv (h := ?_)
      | refine k_not (h := ?_)
      | refine k_eqb (h := ?_)
      | refine k_neb (h := ?_)
      | refine k_eqs (h := ?_)
      | refine k_nes (h := ?_)
      | refine k_pick_t (h := ?_)
      | refine k_pick_f (h := ?_)
      | refine k_nilCheck (h := ?_)
      | refine k_makeFunc (h := ?_)
      | refine k_shl (h := ?_)
      | refine k_shr (h := ?_)
      | refine k_neg (h := ?_)
      | refine k_index_arr (h := ?_)
      | refine k_len_slice (h := ?_)
      | refine k_quo (h := ?_)
      | refine k_rem (h := ?_)
      | (refine k_buildSlice (h := ?_); intro g)
      | refine k_indexAddr_arr (h := ?_)
      | refine c_true (h := ?_)
      | refine c_false (h := ?_)
      | refine k_len_str (h := ?_)
      | refine k_str_add (h := ?_)
      | refine k_str_eq (h := ?_)
      | refine k_str_ne (h := ?_)
      | refine k_index_str (h := ?_)
      | refine k_slice_hi (h := ?_)
      | refine k_slice_lo (h := ?_)
      | refine k_slice_lh (h := ?_)
      | refine k_slice_all (h := ?_)
      | refine k_max (h := ?_)
      | (refine s_ask (by eq_refl) (by eq_refl) (evO_eq (by eq_refl)) (fun hask => ?_) (fun hask => ?_))
      | (refine c_split (by eq_refl) (fun hif => ?_) (fun hif => ?_))
    )
  all_goals refine hQ _ _ (ret1 rfl (by (first | exact v_tmp | exact v_one | exact v_agg)) ?_)
  · have h : ¬ a.hi < 0 := by intro h; rw [hif] at hcb; simp [Fx.below, h] at hcb
    rw [hp h]; simp [Fx.below, h, Fx.u]
  · have h : a.hi < 0 := by rw [hif] at hcb; simpa [Fx.below] using hcb
    rw [hn h]; simp [Fx.below, h]
set_option maxHeartbeats 4000000 in
theorem size_pure (m : Two) (s : Bool) : Pure Tryd.prog 29 #[.agg #[.int .u64 m.hi, .int .u64 m.lo, .bool s]] (Fx.of (sgn s m.n)).v := by
  have hs := sub_pure ⟨0, 0, by decide⟩ m
  have hm := m.lt
  have hn := Two.of_n (0 + 340282366920938463463374607431768211456 - m.n)
  have z0 : (⟨0, 0, by decide⟩ : Two).n = 0 := by kernel_rfl
  rw [z0] at hs
  generalize Two.of (0 + 340282366920938463463374607431768211456 - m.n) = T at *
  refine pure_q Tryd.func29 rfl Tryd.ntmps29 rfl rfl (fun w0 Q hQ => ?_)
  repeat' (
    first
      | refine j_seq_k (fun N hN => ?_)
      | refine j_text ?_
      | refine j_block ?_
      | refine j_skip ?_
      | refine j_ret ?_
      | refine j_exit ?_
      | refine s_nil (show X _ _ _ _ _ from ?_)
      | (refine x_next hN ?_; clear hN N)
      | (refine x_then_ret ?_; clear hN N)
      | (refine x_then_exit ?_; clear hN N)
      | refine x_block ?_
      | refine x_block_ret ?_
      | refine x_block_hit ?_
      | refine x_block_miss (by eq_refl) ?_
      | refine k_skip (h := ?_)
      | refine k_skip0 (h := ?_)
      | refine k_fieldAddr (h := ?_)
      | refine k_load_one (h := ?_)
      | refine k_load_agg (h := ?_)
      | refine k_bin (h := ?_)
      | refine k_move (h := ?_)
      | refine k_assign (h := ?_)
      | refine k_extract (h := ?_)
      | refine k_call (hp := hs) (h := ?_)
      | (refine k_box (h := ?_); intro g)
      | (refine k_alloc (h := ?_); intro g)
      | refine k_store (h := ?_)
      | refine k_field_agg (h := ?_)
      | refine k_field_one (h := ?_)
      | refine k_build (h := ?_)
      | refine k_conv (h := ?_)
      | refine k_not (h := ?_)
      | refine k_eqb (h := ?_)
      | refine k_neb (h := ?_)
      | refine k_eqs (h := ?_)
      | refine k_nes (h := ?_)
      | refine k_pick_t (h := ?_)
      | refine k_pick_f (h := ?_)
      | refine k_nilCheck (h := ?_)
      | refine k_makeFunc (h := ?_)
      | refine k_shl (h := ?_)
      | refine k_shr (h := ?_)
      | refine k_neg (h := ?_)
      | refine k_index_arr (h := ?_)
      | refine k_len_slice (h := ?_)
      | refine k_quo (h := ?_)
      | refine k_rem (h := ?_)
      | (refine k_buildSlice (h := ?_); intro g)
      | refine k_indexAddr_arr (h := ?_)
      | refine c_true (h := ?_)
      | refine c_false (h := ?_)
      | refine k_len_str (h := ?_)
      | refine k_str_add (h := ?_)
      | refine k_str_eq (h := ?_)
      | refine k_str_ne (h := ?_)
      | refine k_index_str (h := ?_)
      | refine k_slice_hi (h := ?_)
      | refine k_slice_lo (h := ?_)
      | refine k_slice_lh (h := ?_)
      | refine k_slice_all (h := ?_)
      | refine k_max (h := ?_)
      | (refine s_ask (by eq_refl) (by eq_refl) (evO_eq (by eq_refl)) (fun hask => ?_) (fun hask => ?_))
      | (refine c_split (by eq_refl) (fun hif => ?_) (fun hif => ?_))
    )
  all_goals refine hQ _ _ (ret1 rfl (by (first | exact v_tmp | exact v_one | exact v_agg)) ?_)
  · rw [hif]; unfold sgn; rw [cond_true]
    by_cases h0 : m.n = 0
    · exact Fx.of_bits ⟨0, by omega⟩
    · exact Fx.of_bits ⟨1, by omega⟩
  · rw [hif]; exact Fx.of_bits ⟨0, by unfold sgn; rw [cond_false]; omega⟩
def told (m : Four) (s : Bool) : Fx × Int := if 170141183460469231731687303715884105728 ≤ m.n then (Fx.of 0, 3) else (Fx.of (sgn s m.lo.n), 0)
set_option maxHeartbeats 4000000 in
theorem less_pure (a b : Two) : Pure Tryd.prog 34 #[a.v, b.v] (.bool (decide (a.n < b.n))) := by
  obtain ⟨b1, h1⟩ : ∃ x, decide (a.hi < b.hi) = x := ⟨_, rfl⟩
  obtain ⟨b2, h2⟩ : ∃ x, decide (a.hi = b.hi) = x := ⟨_, rfl⟩
  obtain ⟨b3, h3⟩ : ∃ x, decide (a.lo < b.lo) = x := ⟨_, rfl⟩
  have e1 : arith .lss .u64 a.hi b.hi = some (.bool b1) := by simp only [arith, h1]
  have e2 : arith .eql .u64 a.hi b.hi = some (.bool b2) := by simp only [arith, ← h2]; rfl
  have e3 : arith .lss .u64 a.lo b.lo = some (.bool b3) := by simp only [arith, h3]
  have key : decide (a.n < b.n) = (b1 || (b2 && b3)) := by
    have ha := a.n_int; have hb := b.n_int; have := a.b; have := b.b
    rw [← h1, ← h2, ← h3, ← Bool.decide_and, ← Bool.decide_or]
    apply decide_eq_decide.2
    omega
  rw [key]
  clear key h1 h2 h3
  refine pure_q Tryd.func34 rfl Tryd.ntmps34 rfl rfl (fun w0 Q hQ => ?_)
  repeat' (
    first
      | refine j_seq_k (fun N hN => ?_)
      | refine j_text ?_
      | refine j_block ?_
      | refine j_skip ?_
      | refine j_ret ?_
      | refine j_exit ?_
      | refine s_nil (show X _ _ _ _ _ from ?_)
      | (refine x_next hN ?_; clear hN N)
      | (refine x_then_ret ?_; clear hN N)
      | (refine x_then_exit ?_; clear hN N)
      | refine x_block ?_
      | refine x_block_ret ?_
      | refine x_block_hit ?_
      | refine x_block_miss (by eq_refl) ?_
      | refine k_skip (h := ?_)
      | refine k_skip0 (h := ?_)
      | refine k_fieldAddr (h := ?_)
      | refine k_load_one (h := ?_)
      | refine k_load_agg (h := ?_)
      | refine k_bin (h := ?_)
      | refine k_move (h := ?_)
      | refine k_assign (h := ?_)
      | refine k_extract (h := ?_)
      | (refine k_box (h := ?_); intro g)
      | (refine k_alloc (h := ?_); intro g)
      | refine k_store (h := ?_)
      | refine k_field_agg (h := ?_)
      | refine k_field_one (h := ?_)
      | refine k_build (h := ?_)
      | refine k_conv (h := ?_)
      | refine k_not (h := ?_)
      | refine k_eqb (h := ?_)
      | refine k_neb (h := ?_)
      | refine k_eqs (h := ?_)
      | refine k_nes (h := ?_)
      | refine k_pick_t (h := ?_)
      | refine k_pick_f (h := ?_)
      | refine k_nilCheck (h := ?_)
      | refine k_makeFunc (h := ?_)
      | refine k_shl (h := ?_)
      | refine k_shr (h := ?_)
      | refine k_neg (h := ?_)
      | refine k_index_arr (h := ?_)
      | refine k_len_slice (h := ?_)
      | refine k_quo (h := ?_)
      | refine k_rem (h := ?_)
      | (refine k_buildSlice (h := ?_); intro g)
      | refine k_indexAddr_arr (h := ?_)
      | refine c_true (h := ?_)
      | refine c_false (h := ?_)
      | refine k_len_str (h := ?_)
      | refine k_str_add (h := ?_)
      | refine k_str_eq (h := ?_)
      | refine k_str_ne (h := ?_)
      | refine k_index_str (h := ?_)
      | refine k_slice_hi (h := ?_)
      | refine k_slice_lo (h := ?_)
      | refine k_slice_lh (h := ?_)
      | refine k_slice_all (h := ?_)
      | refine k_max (h := ?_)
      | (refine s_ask (by eq_refl) (by eq_refl) (evO_eq (by eq_refl)) (fun hask => ?_) (fun hask => ?_))
      | (refine c_split (by eq_refl) (fun hif => ?_) (fun hif => ?_))
    )
  all_goals refine hQ _ _ (ret1 rfl (by (first | exact v_tmp | exact v_one | exact v_agg)) ?_)
  all_goals (clear hQ e1 e2 e3; simp_all)
set_option maxHeartbeats 4000000 in
theorem subtwo_pure (a b : Two) : Pure Tryd.prog 24 #[a.v, b.v] (.agg #[.int .u64 (Two.of (a.n + 340282366920938463463374607431768211456 - b.n)).hi, .int .u64 (Two.of (a.n + 340282366920938463463374607431768211456 - b.n)).lo, .bool (decide (a.n < b.n))]) := by
  have hl := less_pure a b
  obtain ⟨b3, h3⟩ : ∃ x, decide (a.lo < b.lo) = x := ⟨_, rfl⟩
  have e3 : arith .lss .u64 a.lo b.lo = some (.bool b3) := by simp only [arith, h3]
  obtain ⟨lo, hlo⟩ : ∃ x, IntKind.u64.wrap (a.lo - b.lo) = x := ⟨_, rfl⟩
  obtain ⟨hi, hhi⟩ : ∃ x, IntKind.u64.wrap (a.hi - b.hi) = x := ⟨_, rfl⟩
  obtain ⟨h0, hh0⟩ : ∃ x, IntKind.u64.wrap (hi - 0) = x := ⟨_, rfl⟩
  obtain ⟨h1, hh1⟩ : ∃ x, IntKind.u64.wrap (hi - 1) = x := ⟨_, rfl⟩
  have e4 : arith .sub .u64 a.lo b.lo = some (.int .u64 lo) := by simp only [arith, hlo]
  have e5 : arith .sub .u64 a.hi b.hi = some (.int .u64 hi) := by simp only [arith, hhi]
  have e6 : arith .sub .u64 hi 0 = some (.int .u64 h0) := by simp only [arith, hh0]
  have e7 : arith .sub .u64 hi 1 = some (.int .u64 h1) := by simp only [arith, hh1]
  have key : ∀ x, (if b3 = true then x = h1 else x = h0) → (Two.of (a.n + 340282366920938463463374607431768211456 - b.n)).hi = x ∧ (Two.of (a.n + 340282366920938463463374607431768211456 - b.n)).lo = lo := by
    intro x hx
    have ha := a.n_int; have hb := b.n_int; have := a.b; have := b.b; have := a.lt; have := b.lt
    rw [Two.of_hi, Two.of_lo]
    rw [IntKind.wrap_u64] at hlo hhi hh0 hh1
    by_cases q : a.lo < b.lo
    · rw [if_pos (by rw [← h3]; exact decide_eq_true q)] at hx; constructor <;> omega
    · rw [if_neg (by rw [← h3]; simpa using q)] at hx; constructor <;> omega
  generalize Two.of (a.n + 340282366920938463463374607431768211456 - b.n) = T at *
  clear hlo hhi hh0 hh1 h3
  refine pure_q Tryd.func24 rfl Tryd.ntmps24 rfl rfl (fun w0 Q hQ => ?_)
  repeat' (
    first
      | refine j_seq_k (fun N hN => ?_)
      | refine j_text ?_
      | refine j_draw (id := 4) [(998, .eff)] (by kernel_rfl) (by kernel_rfl) ?_
      | refine j_block ?_
      | refine j_skip ?_
      | refine j_ret ?_
      | refine j_exit ?_
      | refine s_nil (show X _ _ _ _ _ from ?_)
      | (refine x_next hN ?_; clear hN N)
      | (refine x_then_ret ?_; clear hN N)
      | (refine x_then_exit ?_; clear hN N)
      | refine x_block ?_
      | refine x_block_ret ?_
      | refine x_block_hit ?_
      | refine x_block_miss (by eq_refl) ?_
      | refine k_skip (h := ?_)
      | refine k_skip0 (h := ?_)
      | refine k_fieldAddr (h := ?_)
      | refine k_load_one (h := ?_)
      | refine k_load_agg (h := ?_)
      | refine k_bin (h := ?_)
      | refine k_move (h := ?_)
      | refine k_assign (h := ?_)
      | refine k_extract (h := ?_)
      | refine k_call (hp := hl) (h := ?_)
      | (refine k_box (h := ?_); intro g)
      | (refine k_alloc (h := ?_); intro g)
      | refine k_store (h := ?_)
      | refine k_field_agg (h := ?_)
      | refine k_field_one (h := ?_)
      | refine k_build (h := ?_)
      | refine k_conv (h := ?_)
      | refine k_not (h := ?_)
      | refine k_eqb (h := ?_)
      | refine k_neb (h := ?_)
      | refine k_eqs (h := ?_)
      | refine k_nes (h := ?_)
      | refine k_pick_t (h := ?_)
      | refine k_pick_f (h := ?_)
      | refine k_nilCheck (h := ?_)
      | refine k_makeFunc (h := ?_)
      | refine k_shl (h := ?_)
      | refine k_shr (h := ?_)
      | refine k_neg (h := ?_)
      | refine k_index_arr (h := ?_)
      | refine k_len_slice (h := ?_)
      | refine k_quo (h := ?_)
      | refine k_rem (h := ?_)
      | (refine k_buildSlice (h := ?_); intro g)
      | refine k_indexAddr_arr (h := ?_)
      | refine c_true (h := ?_)
      | refine c_false (h := ?_)
      | refine k_len_str (h := ?_)
      | refine k_str_add (h := ?_)
      | refine k_str_eq (h := ?_)
      | refine k_str_ne (h := ?_)
      | refine k_index_str (h := ?_)
      | refine k_slice_hi (h := ?_)
      | refine k_slice_lo (h := ?_)
      | refine k_slice_lh (h := ?_)
      | refine k_slice_all (h := ?_)
      | refine k_max (h := ?_)
      | (refine s_ask (by eq_refl) (by eq_refl) (evO_eq (by eq_refl)) (fun hask => ?_) (fun hask => ?_))
      | (refine c_split (by eq_refl) (fun hif => ?_) (fun hif => ?_))
    )
  all_goals refine hQ _ _ (ret1 rfl (by (first | exact v_tmp | exact v_one | exact v_agg)) ?_)
  all_goals clear hQ
  · obtain ⟨k1, k2⟩ := key _ (by rw [if_pos hif]); rw [k1, k2]
  · obtain ⟨k1, k2⟩ := key _ (by rw [if_neg (by rw [hif]; decide)]); rw [k1, k2]
set_option maxHeartbeats 4000000 in
theorem rneg_pure (a : Fx) : Pure Tryd.prog 13 #[a.v] (Fx.of (-a.n)).v := by
  have hs := subtwo_pure ⟨0, 0, by decide⟩ a.u
  have hu := a.u_n
  have hl := a.u.lt
  have hn := Two.of_n (0 + 340282366920938463463374607431768211456 - a.u.n)
  have z0 : (⟨0, 0, by decide⟩ : Two).n = 0 := by kernel_rfl
  rw [z0] at hs
  generalize Two.of (0 + 340282366920938463463374607431768211456 - a.u.n) = T at *
  have hT : ∃ k : Int, (T.n : Int) = -a.n + k * 340282366920938463463374607431768211456 := by
    have := a.lt
    split at hu
    · by_cases h0 : a.u.n = 0
      · exact ⟨-1, by omega⟩
      · exact ⟨0, by omega⟩
    · by_cases h0 : a.u.n = 0
      · exact ⟨0, by omega⟩
      · exact ⟨1, by omega⟩
  have hv := Fx.of_bits hT
  clear hT hn hl hu z0
  refine pure_q Tryd.func13 rfl Tryd.ntmps13 rfl rfl (fun w0 Q hQ => ?_)
  repeat' (
    first
      | refine j_seq_k (fun N hN => ?_)
      | refine j_text ?_
      | refine j_block ?_
      | refine j_skip ?_
      | refine j_ret ?_
      | refine j_exit ?_
      | refine s_nil (show X _ _ _ _ _ from ?_)
      | (refine x_next hN ?_; clear hN N)
      | (refine x_then_ret ?_; clear hN N)
      | (refine x_then_exit ?_; clear hN N)
      | refine x_block ?_
      | refine x_block_ret ?_
      | refine x_block_hit ?_
      | refine x_block_miss (by eq_refl) ?_
      | refine k_skip (h := ?_)
      | refine k_skip0 (h := ?_)
      | refine k_fieldAddr (h := ?_)
      | refine k_load_one (h := ?_)
      | refine k_load_agg (h := ?_)
      | refine k_bin (h := ?_)
      | refine k_move (h := ?_)
      | refine k_assign (h := ?_)
      | refine k_extract (h := ?_)
      | refine k_call (hp := hs) (h := ?_)
      | (refine k_box (h := ?_); intro g)
      | (refine k_alloc (h := ?_); intro g)
      | refine k_store (h := ?_)
      | refine k_field_agg (h := ?_)
      | refine k_field_one (h := ?_)
      | refine k_build (h := ?_)
      | refine k_conv (h := ?_)
      | refine k_not (h := ?_)
      | refine k_eqb (h := ?_)
      | refine k_neb (h := ?_)
      | refine k_eqs (h := ?_)
      | refine k_nes (h := ?_)
      | refine k_pick_t (h := ?_)
      | refine k_pick_f (h := ?_)
      | refine k_nilCheck (h := ?_)
      | refine k_makeFunc (h := ?_)
      | refine k_shl (h := ?_)
      | refine k_shr (h := ?_)
      | refine k_neg (h := ?_)
      | refine k_index_arr (h := ?_)
      | refine k_len_slice (h := ?_)
      | refine k_quo (h := ?_)
      | refine k_rem (h := ?_)
      | (refine k_buildSlice (h := ?_); intro g)
      | refine k_indexAddr_arr (h := ?_)
      | refine c_true (h := ?_)
      | refine c_false (h := ?_)
      | refine k_len_str (h := ?_)
      | refine k_str_add (h := ?_)
      | refine k_str_eq (h := ?_)
      | refine k_str_ne (h := ?_)
      | refine k_index_str (h := ?_)
      | refine k_slice_hi (h := ?_)
      | refine k_slice_lo (h := ?_)
      | refine k_slice_lh (h := ?_)
      | refine k_slice_all (h := ?_)
      | refine k_max (h := ?_)
      | (refine s_ask (by eq_refl) (by eq_refl) (evO_eq (by eq_refl)) (fun hask => ?_) (fun hask => ?_))
      | (refine c_split (by eq_refl) (fun hif => ?_) (fun hif => ?_))
    )
  all_goals refine hQ _ _ (ret1 rfl (by (first | exact v_tmp | exact v_one | exact v_agg)) ?_)
  exact hv
theorem Fx.of_n (z : Int) (h : -170141183460469231731687303715884105728 ≤ z ∧ z < 170141183460469231731687303715884105728) : (Fx.of z).n = z := by
  show IntKind.i64.wrap (z / 18446744073709551616) * 18446744073709551616 + z % 18446744073709551616 = z
  rw [IntKind.wrap_i64]; omega
theorem Fx.n_ext {a b : Fx} (h : a.n = b.n) : a = b := by
  obtain ⟨x, y, q⟩ := a
  obtain ⟨z, w, r⟩ := b
  have : x = z ∧ y = w := by unfold Fx.n at h; dsimp only at h; omega
  obtain ⟨rfl, rfl⟩ := this
  rfl
theorem Fx.of_u (z : Int) : (Fx.of z).u = Two.of (z % 340282366920938463463374607431768211456).toNat := by
  apply Two.ext_n
  have h := (Fx.of z).u_n
  have e : (Fx.of z).n = IntKind.i64.wrap (z / 18446744073709551616) * 18446744073709551616 + z % 18446744073709551616 := rfl
  have e2 : (Fx.of z).hi = IntKind.i64.wrap (z / 18446744073709551616) := rfl
  rw [e, e2, IntKind.wrap_i64] at h
  rw [Two.of_n]
  split at h <;> omega
set_option maxHeartbeats 4000000 in
theorem mag_pure (a : Fx) : Pure Tryd.prog 22 #[a.v] a.mag.v := by
  have hn := rneg_pure a
  obtain ⟨b, hb⟩ : ∃ x, decide (a.hi < 0) = x := ⟨_, rfl⟩
  have e1 : arith .lss .i64 a.hi 0 = some (.bool b) := by simp only [arith, hb]
  have k1 : b = false → a.mag = a.u := fun h => a.mag_pos (of_decide_eq_false (hb.trans h))
  have k2 : b = true → a.mag = (Fx.of (-a.n)).u := fun h => by
    have := (a.neg_iff).1 (of_decide_eq_true (hb.trans h))
    have := a.lt
    rw [Fx.of_u]
    apply Two.ext_n
    rw [Fx.mag_n, Two.of_n]
    omega
  clear hb
  generalize Fx.of (-a.n) = r at *
  refine pure_q Tryd.func22 rfl Tryd.ntmps22 rfl rfl (fun w0 Q hQ => ?_)
  repeat' (
    first
      | refine j_seq_k (fun N hN => ?_)
      | refine j_text ?_
      | refine j_block ?_
      | refine j_skip ?_
      | refine j_ret ?_
      | refine j_exit ?_
      | refine s_nil (show X _ _ _ _ _ from ?_)
      | (refine x_next hN ?_; clear hN N)
      | (refine x_then_ret ?_; clear hN N)
      | (refine x_then_exit ?_; clear hN N)
      | refine x_block ?_
      | refine x_block_ret ?_
      | refine x_block_hit ?_
      | refine x_block_miss (by eq_refl) ?_
      | refine k_skip (h := ?_)
      | refine k_skip0 (h := ?_)
      | refine k_fieldAddr (h := ?_)
      | refine k_load_one (h := ?_)
      | refine k_load_agg (h := ?_)
      | refine k_bin (h := ?_)
      | refine k_move (h := ?_)
      | refine k_assign (h := ?_)
      | refine k_extract (h := ?_)
      | refine k_call (hp := hn) (h := ?_)
      | (refine k_box (h := ?_); intro g)
      | (refine k_alloc (h := ?_); intro g)
      | refine k_store (h := ?_)
      | refine k_field_agg (h := ?_)
      | refine k_field_one (h := ?_)
      | refine k_build (h := ?_)
      | refine k_conv (h := ?_)
      | refine k_not (h := ?_)
      | refine k_eqb (h := ?_)
      | refine k_neb (h := ?_)
      | refine k_eqs (h := ?_)
      | refine k_nes (h := ?_)
      | refine k_pick_t (h := ?_)
      | refine k_pick_f (h := ?_)
      | refine k_nilCheck (h := ?_)
      | refine k_makeFunc (h := ?_)
      | refine k_shl (h := ?_)
      | refine k_shr (h := ?_)
      | refine k_neg (h := ?_)
      | refine k_index_arr (h := ?_)
      | refine k_len_slice (h := ?_)
      | refine k_quo (h := ?_)
      | refine k_rem (h := ?_)
      | (refine k_buildSlice (h := ?_); intro g)
      | refine k_indexAddr_arr (h := ?_)
      | refine c_true (h := ?_)
      | refine c_false (h := ?_)
      | refine k_len_str (h := ?_)
      | refine k_str_add (h := ?_)
      | refine k_str_eq (h := ?_)
      | refine k_str_ne (h := ?_)
      | refine k_index_str (h := ?_)
      | refine k_slice_hi (h := ?_)
      | refine k_slice_lo (h := ?_)
      | refine k_slice_lh (h := ?_)
      | refine k_slice_all (h := ?_)
      | refine k_max (h := ?_)
      | (refine s_ask (by eq_refl) (by eq_refl) (evO_eq (by eq_refl)) (fun hask => ?_) (fun hask => ?_))
      | (refine c_split (by eq_refl) (fun hif => ?_) (fun hif => ?_))
    )
  all_goals refine hQ _ _ (ret1 rfl (by (first | exact v_tmp | exact v_one | exact v_agg)) ?_)
  · rw [k2 hif]; rfl
  · rw [k1 hif]; rfl
set_option maxHeartbeats 4000000 in
theorem signed_pure (s : Bool) (m : Four) : Pure Tryd.prog 18 #[.bool s, m.v] (.agg #[.int .i64 (told m s).1.hi, .int .u64 (told m s).1.lo, .int .i64 (told m s).2]) := by
  have hA : ∀ h, (m.lo.hi < 9223372036854775808) → (⟨IntKind.i64.wrap m.lo.hi, m.lo.lo, h⟩ : Fx).n = m.lo.n := fun h hlt => by
    rw [Two.n_int]; show IntKind.i64.wrap m.lo.hi * _ + m.lo.lo = _; have := m.lo.b; rw [IntKind.wrap_i64]; omega
  have hn := rneg_pure ⟨IntKind.i64.wrap m.lo.hi, m.lo.lo, by have := i64_range m.lo.hi; have := m.lo.b; omega⟩
  have t1 : 170141183460469231731687303715884105728 ≤ m.n → told m s = (Fx.of 0, 3) := fun h => by unfold told; rw [if_pos h]
  have t2 : ¬ 170141183460469231731687303715884105728 ≤ m.n → told m s = (Fx.of (sgn s m.lo.n), 0) := fun h => by unfold told; rw [if_neg h]
  generalize told m s = t at *
  obtain ⟨g, hg⟩ : ∃ x, decide (m.lo.hi ≥ 9223372036854775808) = x := ⟨_, rfl⟩
  have e1 : arith .geq .u64 m.lo.hi 9223372036854775808 = some (.bool g) := by simp only [arith, hg]
  have big : 170141183460469231731687303715884105728 ≤ m.n ↔ ¬ (m.hi.hi = 0 ∧ m.hi.lo = 0) ∨ m.lo.hi ≥ 9223372036854775808 := by
    have h1 := m.n_eq; have h2 := m.lo.n_int; have h3 := m.hi.n_int; have := m.lo.b; have := m.hi.b; have := m.lo.lt
    rw [h1]; omega
  refine pure_q Tryd.func18 rfl Tryd.ntmps18 rfl rfl (fun w0 Q hQ => ?_)
  repeat' (
    first
      | refine j_seq_k (fun N hN => ?_)
      | refine j_text ?_
      | refine j_block ?_
      | refine j_skip ?_
      | refine j_ret ?_
      | refine j_exit ?_
      | refine s_nil (show X _ _ _ _ _ from ?_)
      | (refine x_next hN ?_; clear hN N)
      | (refine x_then_ret ?_; clear hN N)
      | (refine x_then_exit ?_; clear hN N)
      | refine x_block ?_
      | refine x_block_ret ?_
      | refine x_block_hit ?_
      | refine x_block_miss (by eq_refl) ?_
      | refine k_skip (h := ?_)
      | refine k_skip0 (h := ?_)
      | refine k_fieldAddr (h := ?_)
      | refine k_load_one (h := ?_)
      | refine k_load_agg (h := ?_)
      | refine k_bin (h := ?_)
      | refine k_move (h := ?_)
      | refine k_assign (h := ?_)
      | refine k_extract (h := ?_)
      | refine k_call (hp := hn) (h := ?_)
      | (refine k_box (h := ?_); intro g)
      | (refine k_alloc (h := ?_); intro g)
      | refine k_store (h := ?_)
      | refine k_field_agg (h := ?_)
      | refine k_field_one (h := ?_)
      | refine k_build (h := ?_)
      | refine k_conv (h := ?_)
      | refine k_not (h := ?_)
      | refine k_eqb (h := ?_)
      | refine k_neb (h := ?_)
      | refine k_eqs (h := ?_)
      | refine k_nes (h := ?_)
      | refine k_pick_t (h := ?_)
      | refine k_pick_f (h := ?_)
      | refine k_nilCheck (h := ?_)
      | refine k_makeFunc (h := ?_)
      | refine k_shl (h := ?_)
      | refine k_shr (h := ?_)
      | refine k_neg (h := ?_)
      | refine k_index_arr (h := ?_)
      | refine k_len_slice (h := ?_)
      | refine k_quo (h := ?_)
      | refine k_rem (h := ?_)
      | (refine k_buildSlice (h := ?_); intro g)
      | refine k_indexAddr_arr (h := ?_)
      | refine c_true (h := ?_)
      | refine c_false (h := ?_)
      | refine k_len_str (h := ?_)
      | refine k_str_add (h := ?_)
      | refine k_str_eq (h := ?_)
      | refine k_str_ne (h := ?_)
      | refine k_index_str (h := ?_)
      | refine k_slice_hi (h := ?_)
      | refine k_slice_lo (h := ?_)
      | refine k_slice_lh (h := ?_)
      | refine k_slice_all (h := ?_)
      | refine k_max (h := ?_)
      | (refine s_ask (by eq_refl) (by eq_refl) (evO_eq (by eq_refl)) (fun hask => ?_) (fun hask => ?_))
      | (refine c_split (by eq_refl) (fun hif => ?_) (fun hif => ?_))
    )
  all_goals refine hQ _ _ (ret1 rfl (by (first | exact v_tmp | exact v_one | exact v_agg)) ?_)
  all_goals clear hQ e1
  · have hb := t1 (big.2 (.inl (by rintro ⟨h1, h2⟩; rw [h1, h2] at hask; simp at hask))); rw [hb]; rfl
  · have hb := t1 (big.2 (.inr (of_decide_eq_true (hg.trans hif)))); rw [hb]; rfl
  all_goals
    have hg0 : ¬ m.lo.hi ≥ 9223372036854775808 := of_decide_eq_false (hg.trans (by assumption))
    have hb := t2 (fun h => (big.1 h).elim (fun h => h (by simpa using hask)) hg0)
    have hA' := hA (by have := i64_range m.lo.hi; have := m.lo.b; omega) (by omega)
    have hl := big
  · have es : ∀ n, sgn true n = -(n : Int) := fun n => rfl
    rw [hb, hA', hif, es]
  · rw [hb, hif]
    have es : ∀ n, sgn false n = (n : Int) := fun n => rfl
    rw [es]
    have hlt : (m.lo.n : Int) < 170141183460469231731687303715884105728 := by rw [Two.n_int]; have := m.lo.b; omega
    have e := Fx.n_ext (hA'.trans (Fx.of_n (m.lo.n : Int) ⟨by omega, hlt⟩).symm)
    rw [← e]
end Go.Proofs.YtmgfabfmnachoaaDoor.Own
