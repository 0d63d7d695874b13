/- A quotient of numbers with a point: what the code computes. -/
/- Contracts that were proved by hand, as a table: the quotient of numbers with a point. -/
import Derived.Test.YtedfbamihjnhhaaOrdA
import Derived.Test.YtedfbamihjnhhaaFvO
section
namespace Go.Proofs.Ytedfbamihjnhhaa.Own
open Go Go.RowKit Go.Proofs Go.Proofs.Ytedfbamihjnhhaa.Plain
open Go.Proofs.Ytedfbamihjnhhaa.Limb (n2 n4)
set_option linter.unusedVariables false
set_option linter.unusedSimpArgs false
set_option maxRecDepth 100000
def zTw : Two := ⟨0, 0, by decide⟩
def fdivN (x y : Nat) : Nat := if y - x * 18446744073709551616 % y ≤ x * 18446744073709551616 % y then x * 18446744073709551616 / y + 1 else x * 18446744073709551616 / y
def fdiv (a b : Fx) : Fx × Int := if b.mag.n = 0 then (Fx.of 0, 2) else told (Four.of (fdivN a.mag.n b.mag.n)) (!(a.below == b.below))
def up64 (t : Two) : Four := ⟨⟨0, t.hi, by have := t.b; omega⟩, ⟨t.lo, 0, by have := t.b; omega⟩⟩
theorem val4_up (h l : Nat) : val4 0 h l 0 = val2 h l * 18446744073709551616 := by unfold val4 val2; omega
theorem up64_n (t : Two) : (up64 t).n = t.n * 18446744073709551616 := by
 show n4 0 t.hi t.lo 0 = n2 t.hi t.lo * 18446744073709551616
 unfold n4 n2
 exact val4_up _ _
theorem cmp_low (r s : Two) : decide ((orI (cmpI 0 0) (cmpI 0 0) (cmpI r.hi s.hi) (cmpI r.lo s.lo)) ≥ 0) = decide (s.n ≤ r.n) := by
 have h1 := r.n_int; have h2 := s.n_int; have := r.b; have := s.b
 generalize r.n = R at *
 generalize s.n = S at *
 apply decide_eq_decide.2
 unfold orI cmpI
 simp only [Int.lt_irrefl, if_false, gt_iff_lt, ne_eq, not_true_eq_false]
 repeat' split
 all_goals omega
theorem rest_nat (y r : Nat) (hy : y < 340282366920938463463374607431768211456) (hr : r < y) : (y + 340282366920938463463374607431768211456 - r) % 340282366920938463463374607431768211456 = y - r := by omega
theorem two_lt (r y : Nat) (hy : y < 340282366920938463463374607431768211456) (hr : r < y) : (Two.of r).n = r := by
 rw [Two.of_n]; exact Nat.mod_eq_of_lt (by omega)
theorem parts1 (M q h l : Nat) (e : h * M + l = q) (hl : l < M) (hh : h + 1 < M) (c : M ≤ l + 1) : ((h + 0) % M + 1) % M * M + (l + 1) % M = q + 1 := by
 have h1 : l + 1 = M := by omega
 have h3 : l + 1 + h * M = q + 1 := by omega
 have h4 : (h + 0) % M = h := Nat.mod_eq_of_lt (by omega)
 have h5 : (h + 1) % M = h + 1 := Nat.mod_eq_of_lt hh
 have h6 : (l + 1) % M = 0 := by rw [h1, Nat.mod_self]
 rw [h4, h5, h6, Nat.succ_mul]
 omega
theorem parts2 (M q h l : Nat) (e : h * M + l = q) (hh : h + 1 < M) (c : ¬ M ≤ l + 1) : (h + 0) % M * M + (l + 1) % M = q + 1 := by
 have h4 : (h + 0) % M = h := Nat.mod_eq_of_lt (by omega)
 have h6 : (l + 1) % M = l + 1 := Nat.mod_eq_of_lt (by omega)
 rw [h4, h6]
 omega
theorem hi_small (h l q : Nat) (e : h * 340282366920938463463374607431768211456 + l = q) (hq : q < 57896044618658097711785492504343953926634992332820282019728792003956564819968) : h + 1 < 340282366920938463463374607431768211456 := by omega
theorem four_parts (q : Nat) (hq : q < 57896044618658097711785492504343953926634992332820282019728792003956564819968) : (if 340282366920938463463374607431768211456 ≤ (Four.of q).lo.n + 1 then (Value.agg #[.int .u64 (Two.of ((Two.of ((Four.of q).hi.n + 0)).n + 1)).hi, .int .u64 (Two.of ((Two.of ((Four.of q).hi.n + 0)).n + 1)).lo, .int .u64 (Two.of ((Four.of q).lo.n + 1)).hi, .int .u64 (Two.of ((Four.of q).lo.n + 1)).lo]) else (.agg #[.int .u64 (Two.of ((Four.of q).hi.n + 0)).hi, .int .u64 (Two.of ((Four.of q).hi.n + 0)).lo, .int .u64 (Two.of ((Four.of q).lo.n + 1)).hi, .int .u64 (Two.of ((Four.of q).lo.n + 1)).lo])) = (Four.of (q + 1)).v := by
 have h0 := (Four.of q).n_eq
 have hn := Four.of_n q
 have hn1 := Four.of_n (q + 1)
 rw [Nat.mod_eq_of_lt (Nat.lt_trans hq (by decide))] at hn
 rw [Nat.mod_eq_of_lt (Nat.lt_of_le_of_lt hq (by decide))] at hn1
 rw [hn] at h0
 have hl := (Four.of q).lo.lt
 have hh := hi_small _ _ _ h0.symm hq
 have key : ∀ X Y : Two, X.n * 340282366920938463463374607431768211456 + Y.n = q + 1 → Value.agg #[.int .u64 X.hi, .int .u64 X.lo, .int .u64 Y.hi, .int .u64 Y.lo] = (Four.of (q + 1)).v := by
  intro X Y h
  have : (⟨X, Y⟩ : Four) = Four.of (q + 1) := by
   apply Four.ext_n
   rw [Four.n_eq ⟨X, Y⟩, hn1]
   exact h
  rw [← this]
 have hx1 := Two.of_n ((Four.of q).hi.n + 0)
 have hx2 := Two.of_n ((Two.of ((Four.of q).hi.n + 0)).n + 1)
 have hx3 := Two.of_n ((Four.of q).lo.n + 1)
 by_cases hc : 340282366920938463463374607431768211456 ≤ (Four.of q).lo.n + 1
 ·rw [if_pos hc]
  refine key _ _ ?_
  rw [hx2, hx3, hx1]
  exact parts1 _ _ _ _ h0.symm hl hh hc
 ·rw [if_neg hc]
  refine key _ _ ?_
  rw [hx1, hx3]
  exact parts2 _ _ _ _ h0.symm hh hc
set_option maxHeartbeats 8000000 in
theorem fdiv_pure (a b : Fx) : Pure Try.prog 139 #[a.v, b.v] (.tuple #[(fdiv a b).1.v, .int .i64 (fdiv a b).2]) := by
 have o1 := of_pure a
 have o2 := of_pure b
 have w1 := wide_pure a.mag
 have ma := a.mag.b
 have mb := b.mag.b
 have s1 := shl64_words (h := a.mag.hi) (l := a.mag.lo) ⟨ma.1, ma.2.1⟩ ⟨ma.2.2.1, ma.2.2.2⟩
 unfold fdiv
 have tt : true = true := rfl; have ff : false = false := rfl; have nt : (!true) = false := rfl; have nf : (!false) = true := rfl
 by_cases hz : b.mag.n = 0
 ·rw [if_pos hz]
  have hz1 : b.mag.hi = 0 ∧ b.mag.lo = 0 := by have := b.mag.n_int; omega
  have dz := div_zero (a := 0) (b := a.mag.hi) (c := a.mag.lo) (d := 0) rfl (by show IntKind.u64.wrap a.mag.hi = _; rw [IntKind.wrap_u64]; omega) (by show IntKind.u64.wrap a.mag.lo = _; rw [IntKind.wrap_u64]; omega) rfl
  have o2' : Pure Try.prog 65 #[b.v] (.agg #[.int .u64 0, .int .u64 0, .bool b.below]) := by rw [hz1.1, hz1.2] at o2; exact o2
  clear o2 hz hz1
  refine pure_q Try.func139 rfl Try.ntmps139 rfl rfl (fun w0 Q hQ => ?_)
  repeat' (
   first
    | refine j_seq_k (fun N hN => ?_)
    | refine j_text ?_
    | refine j_draw (id := 1) [] (by kernel_rfl) (by kernel_rfl) ?_
    | refine j_draw (id := 2) [] (by kernel_rfl) (by kernel_rfl) ?_
    | refine j_draw (id := 6) [] (by kernel_rfl) (by kernel_rfl) ?_
    | refine j_block ?_
    | refine j_skip ?_
    | refine j_ret ?_
    | refine j_exit ?_
    | refine s_nil (show X _ _ _ _ _ from ?_)
    | (refine x_next hN ?_; clear hN N)
    | (refine x_then_ret ?_; clear hN N)
    | (refine x_then_exit ?_; clear hN N)
    | refine x_block ?_
    | refine x_block_ret ?_
    | refine x_block_hit ?_
    | refine x_block_miss (by eq_refl) ?_
    | refine k_skip (h := ?_)
    | refine k_fieldAddr (h := ?_)
    | refine k_load_one (h := ?_)
    | refine k_load_agg (h := ?_)
    | refine k_bin (h := ?_)
    | refine k_move (h := ?_)
    | refine k_assign (h := ?_)
    | refine k_extract (h := ?_)
    | refine k_call (hp := o1) (h := ?_)
    | refine k_call (hp := o2') (h := ?_)
    | refine k_call (hp := w1) (h := ?_)
    | refine k_call (hp := s1) (h := ?_)
    | refine k_call (hp := dz) (h := ?_)
    | (refine k_box (h := ?_); intro g)
    | (refine k_alloc (h := ?_); intro g)
    | refine k_store (h := ?_)
    | refine k_field_agg (h := ?_)
    | refine k_build (h := ?_)
    | refine k_conv (h := ?_)
    | refine k_not (h := ?_)
    | refine k_eqb (h := ?_)
    | refine k_neb (h := ?_)
    | refine k_eqs (h := ?_)
    | refine k_nes (h := ?_)
    | refine k_pick_t (h := ?_)
    | refine k_pick_f (h := ?_)
    | refine k_shl (h := ?_)
    | refine k_shr (h := ?_)
    | refine k_len_slice (h := ?_)
    | refine k_quo (h := ?_)
    | refine k_rem (h := ?_)
    | (refine k_buildSlice (h := ?_); intro g)
    | refine k_indexAddr_arr (h := ?_)
    | refine c_true (h := ?_)
    | refine c_false (h := ?_)
    | (refine s_ask (by eq_refl) (by eq_refl) (evO_eq (by eq_refl)) (fun hask => ?_) (fun hask => ?_))
    | (refine c_split (by eq_refl) (fun hif => ?_) (fun hif => ?_))
   )
  all_goals refine hQ _ _ (ret2 rfl (by (first | exact v_tmp | exact v_agg)) (by (first | exact v_tmp | exact v_agg)) ?_)
  all_goals rfl
 ·rw [if_neg hz]
  have d1 := div_pure (up64 a.mag) b.mag hz
  rw [up64_n] at d1
  have hrl : a.mag.n * 18446744073709551616 % b.mag.n < b.mag.n := Nat.mod_lt _ (by omega)
  have hbl := b.mag.lt
  have hr := two_lt _ _ hbl hrl
  have hql : a.mag.n * 18446744073709551616 / b.mag.n < 57896044618658097711785492504343953926634992332820282019728792003956564819968 := by
   have := a.mag.lt
   exact Nat.lt_of_le_of_lt (Nat.div_le_self _ _) (by omega)
  have mr := more_run (Four.of (a.mag.n * 18446744073709551616 / b.mag.n))
  rw [four_parts _ hql] at mr
  have sb := sub_pure b.mag (Two.of (a.mag.n * 18446744073709551616 % b.mag.n))
  rw [hr] at sb
  have hre : (Two.of (b.mag.n + 340282366920938463463374607431768211456 - a.mag.n * 18446744073709551616 % b.mag.n)).n = b.mag.n - a.mag.n * 18446744073709551616 % b.mag.n := by rw [Two.of_n, rest_nat _ _ hbl hrl]
  have cm := cmp4_pure ⟨zTw, Two.of (a.mag.n * 18446744073709551616 % b.mag.n)⟩ ⟨zTw, Two.of (b.mag.n + 340282366920938463463374607431768211456 - a.mag.n * 18446744073709551616 % b.mag.n)⟩
  have cl := cmp_low (Two.of (a.mag.n * 18446744073709551616 % b.mag.n)) (Two.of (b.mag.n + 340282366920938463463374607431768211456 - a.mag.n * 18446744073709551616 % b.mag.n))
  rw [hr, hre] at cl
  have wr := wide_pure (Two.of (a.mag.n * 18446744073709551616 % b.mag.n))
  have ws := wide_pure (Two.of (b.mag.n + 340282366920938463463374607431768211456 - a.mag.n * 18446744073709551616 % b.mag.n))
  have tl1 := told_pure (Four.of (a.mag.n * 18446744073709551616 / b.mag.n)) (!(a.below == b.below))
  have tl2 := told_pure (Four.of (a.mag.n * 18446744073709551616 / b.mag.n + 1)) (!(a.below == b.below))
  unfold fdivN
  obtain ⟨g0, hg0⟩ : ∃ g0, decide (b.mag.n - a.mag.n * 18446744073709551616 % b.mag.n ≤ a.mag.n * 18446744073709551616 % b.mag.n) = g0 := ⟨_, rfl⟩
  rw [hg0] at cl
  have hgi : (b.mag.n - a.mag.n * 18446744073709551616 % b.mag.n ≤ a.mag.n * 18446744073709551616 % b.mag.n) ↔ g0 = true := by rw [← hg0]; exact decide_eq_true_iff.symm
  simp only [hgi]
  clear hgi hg0 hre hr hql hrl hbl ma mb
  have d2 : Pure Try.prog 142 #[.agg #[.int .u64 0, .int .u64 a.mag.hi, .int .u64 a.mag.lo, .int .u64 0], .agg #[.int .u64 b.mag.hi, .int .u64 b.mag.lo]] (.tuple #[(Four.of (a.mag.n * 18446744073709551616 / b.mag.n)).v, (Two.of (a.mag.n * 18446744073709551616 % b.mag.n)).v, .bool true]) := d1
  generalize Two.of (b.mag.n + 340282366920938463463374607431768211456 - a.mag.n * 18446744073709551616 % b.mag.n) = RS at *
  generalize Two.of (a.mag.n * 18446744073709551616 % b.mag.n) = RR at *
  have cm2 : Pure Try.prog 144 #[.agg #[.int .u64 0, .int .u64 0, .int .u64 RR.hi, .int .u64 RR.lo], .agg #[.int .u64 0, .int .u64 0, .int .u64 RS.hi, .int .u64 RS.lo]] (.int .i64 (orI (cmpI 0 0) (cmpI 0 0) (cmpI RR.hi RS.hi) (cmpI RR.lo RS.lo))) := cm
  clear cm d1
  generalize orI (cmpI 0 0) (cmpI 0 0) (cmpI RR.hi RS.hi) (cmpI RR.lo RS.lo) = cv at *
  have eg : arith .geq .i64 cv 0 = some (.bool g0) := by simp only [arith, cl]
  clear cl
  generalize hQ1 : Four.of (a.mag.n * 18446744073709551616 / b.mag.n + 1) = Q1 at *
  generalize hQ0 : Four.of (a.mag.n * 18446744073709551616 / b.mag.n) = Q0 at *
  cases g0 with
  | true =>
   rw [if_pos rfl, hQ1]
   refine pure_q Try.func139 rfl Try.ntmps139 rfl rfl (fun w0 Q hQ => ?_)
   repeat' (
    first
     | refine j_seq_k (fun N hN => ?_)
     | refine j_text ?_
     | refine j_draw (id := 1) [] (by kernel_rfl) (by kernel_rfl) ?_
     | refine j_draw (id := 2) [] (by kernel_rfl) (by kernel_rfl) ?_
     | refine j_draw (id := 6) [] (by kernel_rfl) (by kernel_rfl) ?_
     | refine j_block ?_
     | refine j_skip ?_
     | refine j_ret ?_
     | refine j_exit ?_
     | refine s_nil (show X _ _ _ _ _ from ?_)
     | (refine x_next hN ?_; clear hN N)
     | (refine x_then_ret ?_; clear hN N)
     | (refine x_then_exit ?_; clear hN N)
     | refine x_block ?_
     | refine x_block_ret ?_
     | refine x_block_hit ?_
     | refine x_block_miss (by eq_refl) ?_
     | refine k_skip (h := ?_)
     | refine k_fieldAddr (h := ?_)
     | refine k_load_one (h := ?_)
     | refine k_load_agg (h := ?_)
     | refine k_bin (h := ?_)
     | refine k_move (h := ?_)
     | refine k_assign (h := ?_)
     | refine k_extract (h := ?_)
     | refine k_call (hp := o1) (h := ?_)
     | refine k_call (hp := o2) (h := ?_)
     | refine k_call (hp := w1) (h := ?_)
     | refine k_call (hp := s1) (h := ?_)
     | refine k_call (hp := d2) (h := ?_)
     | refine k_call (hp := sb) (h := ?_)
     | refine k_call (hp := cm2) (h := ?_)
     | refine k_call (hp := wr) (h := ?_)
     | refine k_call (hp := ws) (h := ?_)
     | refine k_call (hp := mr) (h := ?_)
     | refine k_call (hp := tl1) (h := ?_)
     | refine k_call (hp := tl2) (h := ?_)
     | (refine k_box (h := ?_); intro g)
     | (refine k_alloc (h := ?_); intro g)
     | refine k_store (h := ?_)
     | refine k_field_agg (h := ?_)
     | refine k_build (h := ?_)
     | refine k_conv (h := ?_)
     | refine k_not (h := ?_)
     | refine k_eqb (h := ?_)
     | refine k_neb (h := ?_)
     | refine k_eqs (h := ?_)
     | refine k_nes (h := ?_)
     | refine k_pick_t (h := ?_)
     | refine k_pick_f (h := ?_)
     | refine k_shl (h := ?_)
     | refine k_shr (h := ?_)
     | refine k_len_slice (h := ?_)
     | refine k_quo (h := ?_)
     | refine k_rem (h := ?_)
     | (refine k_buildSlice (h := ?_); intro g)
     | refine k_indexAddr_arr (h := ?_)
     | refine c_true (h := ?_)
     | refine c_false (h := ?_)
     | (refine s_ask (by eq_refl) (by eq_refl) (evO_eq (by eq_refl)) (fun hask => ?_) (fun hask => ?_))
     | (refine c_split (by eq_refl) (fun hif => ?_) (fun hif => ?_))
    )
   all_goals refine hQ _ _ (ret2 rfl (by (first | exact v_tmp | exact v_agg)) (by (first | exact v_tmp | exact v_agg)) ?_)
   all_goals rfl
  | false =>
   rw [if_neg (by decide), hQ0]
   refine pure_q Try.func139 rfl Try.ntmps139 rfl rfl (fun w0 Q hQ => ?_)
   repeat' (
    first
     | refine j_seq_k (fun N hN => ?_)
     | refine j_text ?_
     | refine j_draw (id := 1) [] (by kernel_rfl) (by kernel_rfl) ?_
     | refine j_draw (id := 2) [] (by kernel_rfl) (by kernel_rfl) ?_
     | refine j_draw (id := 6) [] (by kernel_rfl) (by kernel_rfl) ?_
     | refine j_block ?_
     | refine j_skip ?_
     | refine j_ret ?_
     | refine j_exit ?_
     | refine s_nil (show X _ _ _ _ _ from ?_)
     | (refine x_next hN ?_; clear hN N)
     | (refine x_then_ret ?_; clear hN N)
     | (refine x_then_exit ?_; clear hN N)
     | refine x_block ?_
     | refine x_block_ret ?_
     | refine x_block_hit ?_
     | refine x_block_miss (by eq_refl) ?_
     | refine k_skip (h := ?_)
     | refine k_fieldAddr (h := ?_)
     | refine k_load_one (h := ?_)
     | refine k_load_agg (h := ?_)
     | refine k_bin (h := ?_)
     | refine k_move (h := ?_)
     | refine k_assign (h := ?_)
     | refine k_extract (h := ?_)
     | refine k_call (hp := o1) (h := ?_)
     | refine k_call (hp := o2) (h := ?_)
     | refine k_call (hp := w1) (h := ?_)
     | refine k_call (hp := s1) (h := ?_)
     | refine k_call (hp := d2) (h := ?_)
     | refine k_call (hp := sb) (h := ?_)
     | refine k_call (hp := cm2) (h := ?_)
     | refine k_call (hp := wr) (h := ?_)
     | refine k_call (hp := ws) (h := ?_)
     | refine k_call (hp := mr) (h := ?_)
     | refine k_call (hp := tl1) (h := ?_)
     | refine k_call (hp := tl2) (h := ?_)
     | (refine k_box (h := ?_); intro g)
     | (refine k_alloc (h := ?_); intro g)
     | refine k_store (h := ?_)
     | refine k_field_agg (h := ?_)
     | refine k_build (h := ?_)
     | refine k_conv (h := ?_)
     | refine k_not (h := ?_)
     | refine k_eqb (h := ?_)
     | refine k_neb (h := ?_)
     | refine k_eqs (h := ?_)
     | refine k_nes (h := ?_)
     | refine k_pick_t (h := ?_)
     | refine k_pick_f (h := ?_)
     | refine k_shl (h := ?_)
     | refine k_shr (h := ?_)
     | refine k_len_slice (h := ?_)
     | refine k_quo (h := ?_)
     | refine k_rem (h := ?_)
     | (refine k_buildSlice (h := ?_); intro g)
     | refine k_indexAddr_arr (h := ?_)
     | refine c_true (h := ?_)
     | refine c_false (h := ?_)
     | (refine s_ask (by eq_refl) (by eq_refl) (evO_eq (by eq_refl)) (fun hask => ?_) (fun hask => ?_))
     | (refine c_split (by eq_refl) (fun hif => ?_) (fun hif => ?_))
    )
   all_goals refine hQ _ _ (ret2 rfl (by (first | exact v_tmp | exact v_agg)) (by (first | exact v_tmp | exact v_agg)) ?_)
   all_goals rfl
end Go.Proofs.Ytedfbamihjnhhaa.Own
end
section
namespace Go.Proofs.Ytedfbamihjnhhaa.Own
open Go Go.RowKit Go.Proofs Go.Proofs.Ytedfbamihjnhhaa.Plain
set_option linter.unusedVariables false
set_option linter.unusedSimpArgs false
set_option maxRecDepth 100000
theorem fdiv_err (a b : Fx) : (fdiv a b).2 = 0 ∨ (fdiv a b).2 = 2 ∨ (fdiv a b).2 = 3 := by
 unfold fdiv
 split
 ·exact .inr (.inl rfl)
 ·rcases told_err (Four.of (fdivN a.mag.n b.mag.n)) (!(a.below == b.below)) with h | h
  ·exact .inl h
  ·exact .inr (.inr h)
theorem err_in3 {e : Int} (h : e = 0 ∨ e = 2 ∨ e = 3) : inK (some .i64) e := by
 rcases h with rfl | rfl | rfl <;> rfl
def gFdiv (xs : List Int) : List Int := let p := fdiv (fxW (xs.getD 0 0) (xs.getD 1 0)) (fxW (xs.getD 2 0) (xs.getD 3 0)); [p.1.hi, p.1.lo, p.2]
theorem gFdiv_eq (x0 x1 x2 x3 : Int) : gFdiv [x0, x1, x2, x3] = [(fdiv (fxW x0 x1) (fxW x2 x3)).1.hi, (fdiv (fxW x0 x1) (fxW x2 x3)).1.lo, (fdiv (fxW x0 x1) (fxW x2 x3)).2] := by
 unfold gFdiv
 simp only [List.getD_cons_zero, List.getD_cons_succ]
theorem res_fx3 {p : Fx × Int} (he : p.2 = 0 ∨ p.2 = 2 ∨ p.2 = 3) {f : FuncId} {args : Array Value} (hp : Pure Try.prog f args (.tuple #[p.1.v, .int .i64 p.2])) : InC [some .i64, some .u64, some .i64] [p.1.hi, p.1.lo, p.2] ∧ Pure Try.prog f args (mkRes (.tup [kFx, .one (some .i64)]) [p.1.hi, p.1.lo, p.2]) :=
 ⟨⟨(fx_in p.1).1, (fx_in p.1).2, err_in3 he, trivial⟩, hp⟩
theorem cte_fdiv : CTE Try.prog gFdiv 139 [kFx, kFx] (.tup [kFx, .one (some .i64)]) := fun xs h => by
 obtain ⟨x0, x1, x2, x3, rfl, h0, h1, h2, h3⟩ := in4 h
 have e1 := fxW_v h0 h1
 have e2 := fxW_v h2 h3
 have hp := fdiv_pure (fxW x0 x1) (fxW x2 x3)
 rw [e1, e2] at hp
 have he := fdiv_err (fxW x0 x1) (fxW x2 x3)
 rw [gFdiv_eq]
 have hq := res_fx3 he hp
 clear he hp e1 e2
 generalize fdiv (fxW x0 x1) (fxW x2 x3) = p at hq ⊢
 exact ⟨hq.1, hq.2⟩
def TbE_T : List Ent := ⟨139, [kFx, kFx], .tup [kFx, .one (some .i64)], fun _ => gFdiv, false⟩ :: TbD_T
theorem TbE_ok : TbOK Try.prog TbE_T := tb_cons TbD_ok rfl (by kernel_rfl) cte_fdiv
def TbE_L : List LEnt := []
theorem TbE_lb : LBs Try.prog TbE_L TbE_T := lbs_nil
end Go.Proofs.Ytedfbamihjnhhaa.Own
end
