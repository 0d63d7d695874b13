/- A quotient and the rest: what the code computes. -/
import Derived.Test.YtedfbamihjnhhaaLimbX
namespace Go.Proofs.Ytedfbamihjnhhaa.Own
open Go Go.RowKit Go.Proofs Go.Proofs.Ytedfbamihjnhhaa.Plain
open Go.Proofs.Ytedfbamihjnhhaa.Limb (DivNum divnum_start div_round double_words val2_mod div_in div_out quot_bit set_word div_end beyond_iff hi_word lo_word)
set_option linter.unusedVariables false
set_option linter.unusedSimpArgs false
set_option maxRecDepth 100000 in
set_option maxHeartbeats 16000000 in
theorem div_words {a b c d p q : Nat} (la : a < 18446744073709551616) (lb : b < 18446744073709551616) (lc : c < 18446744073709551616) (ld : d < 18446744073709551616) (lp : p < 18446744073709551616) (lq : q < 18446744073709551616) (hne : ¬ val2 p q = 0)
  (hlen : Pure Try.prog 97 #[.agg #[.int .u64 (a : Nat), .int .u64 (b : Nat), .int .u64 (c : Nat), .int .u64 (d : Nat)]] (.int .i64 (blen (val4 a b c d) : Nat)))
  (hlist : Pure Try.prog 148 #[.agg #[.int .u64 (a : Nat), .int .u64 (b : Nat), .int .u64 (c : Nat), .int .u64 (d : Nat)]] (.agg #[.int .u64 (d : Nat), .int .u64 (c : Nat), .int .u64 (b : Nat), .int .u64 (a : Nat)]))
  (hz : (((p : Nat) : Int) == 0 && (((q : Nat) : Int) == 0 && true)) = false) (hsub1 : IntKind.i64.wrap (((blen (val4 a b c d) : Nat) : Int) - 1) = ((blen (val4 a b c d) : Nat) : Int) - 1) :
  Pure Try.prog 142 #[.agg #[.int .u64 (a : Nat), .int .u64 (b : Nat), .int .u64 (c : Nat), .int .u64 (d : Nat)], .agg #[.int .u64 (p : Nat), .int .u64 (q : Nat)]]
   (.tuple #[.agg #[.int .u64 (wrd 3 (val4 a b c d / val2 p q) : Nat), .int .u64 (wrd 2 (val4 a b c d / val2 p q) : Nat), .int .u64 (wrd 1 (val4 a b c d / val2 p q) : Nat), .int .u64 (wrd 0 (val4 a b c d / val2 p q) : Nat)], .agg #[.int .u64 (wrd 1 (val4 a b c d % val2 p q) : Nat), .int .u64 (wrd 0 (val4 a b c d % val2 p q) : Nat)], .bool true]) := by
 refine pure_q Try.func142 rfl Try.ntmps142 rfl rfl (fun w0 Q hQ => ?_)
 repeat (
  first
   | refine j_seq_k (fun N hN => ?_)
   | refine j_text ?_
   | refine j_draw (id := 9) [(998, .eff)] (by kernel_rfl) (by kernel_rfl) ?_
   | refine j_block ?_
   | refine j_skip ?_
   | refine j_ret ?_
   | refine j_exit ?_
   | refine s_nil (show X _ _ _ _ _ from ?_)
   | (refine x_next hN ?_; clear hN N)
   | (refine x_then_ret ?_; clear hN N)
   | (refine x_then_exit ?_; clear hN N)
   | refine x_block ?_
   | refine x_block_ret ?_
   | refine x_block_hit ?_
   | refine x_block_miss (by eq_refl) ?_
   | refine k_skip (h := ?_)
   | refine k_fieldAddr (h := ?_)
   | refine k_load_one (h := ?_)
   | refine k_load_agg (h := ?_)
   | refine k_bin (h := ?_)
   | refine k_move (h := ?_)
   | refine k_assign (h := ?_)
   | refine k_extract (h := ?_)
   | refine k_call (hp := hlist) (h := ?_)
   | refine k_call (hp := hlen) (h := ?_)
   | (refine k_box (h := ?_); intro g)
   | (refine k_alloc (h := ?_); intro g)
   | refine k_store (h := ?_)
   | refine k_field_agg (h := ?_)
   | refine k_build (h := ?_)
   | refine k_conv (h := ?_)
   | refine k_not (h := ?_)
   | refine k_eqb (h := ?_)
   | refine k_neb (h := ?_)
   | refine k_eqs (h := ?_)
   | refine k_nes (h := ?_)
   | refine k_pick_t (h := ?_)
   | refine k_pick_f (h := ?_)
   | refine k_shl (h := ?_)
   | refine k_shr (h := ?_)
   | refine k_len_slice (h := ?_)
   | refine k_quo (h := ?_)
   | refine k_rem (h := ?_)
   | (refine k_buildSlice (h := ?_); intro g)
   | refine k_indexAddr_arr (h := ?_)
   | refine c_true (h := ?_)
   | refine c_false (h := ?_)
   | (refine s_ask (by eq_refl) (by eq_refl) (evO_eq (by eq_refl)) (fun hask => ?_) (fun hask => ?_))
   | (refine c_split (by eq_refl) (fun hif => ?_) (fun hif => ?_))
  )
 rename_i g2 g3 g4 g5 g7
 refine j_rem 2 rfl (j_rem 3 rfl (j_rem 4 rfl (j_rem 5 rfl (j_rem 7 rfl (j_rem 8 rfl (j_rem 9 rfl ?_))))))
 have h256 : blen (val4 a b c d) ≤ 256 := (blen_le _ _).2 (by have := val4_lt la lb lc ld; simpa using this)
 refine j_loop_k (fun m l L => ∃ (z : Int) (rest : List (Nat × Value)) (r1 r0 o3 o2 o1 o0 : Nat), z + 1 = (m : Int) ∧
  l = (9, .int .i64 z) :: (8, .pointer (some ⟨g, 0, none⟩)) :: (7, .pointer (some ⟨g7, 0, none⟩)) :: (5, .pointer (some ⟨g5, 0, none⟩)) :: (4, .pointer (some ⟨g4, 0, none⟩)) :: (3, .pointer (some ⟨g3, 0, none⟩)) :: (2, .pointer (some ⟨g2, 0, none⟩)) :: rest ∧
  L = [(g, [.int .u64 (o0 : Nat), .int .u64 (o1 : Nat), .int .u64 (o2 : Nat), .int .u64 (o3 : Nat)], 179), (g7, [.int .u64 (d : Nat), .int .u64 (c : Nat), .int .u64 (b : Nat), .int .u64 (a : Nat)], 179), (g5, [.int .u64 (r1 : Nat), .int .u64 (r0 : Nat)], 79), (g4, [.int .u64 0, .int .u64 0, .int .u64 0, .int .u64 0], 86),
   (g3, [.int .u64 (p : Nat), .int .u64 (q : Nat)], 79), (g2, [.int .u64 (a : Nat), .int .u64 (b : Nat), .int .u64 (c : Nat), .int .u64 (d : Nat)], 86)] ∧
  r1 < 18446744073709551616 ∧ r0 < 18446744073709551616 ∧ o3 < 18446744073709551616 ∧ o2 < 18446744073709551616 ∧ o1 < 18446744073709551616 ∧ o0 < 18446744073709551616 ∧ DivNum (val4 a b c d) (val2 p q) m (val2 r1 r0) (val4 o3 o2 o1 o0)) (blen (val4 a b c d)) ?_ ?_
 ·exact ⟨_, _, 0, 0, 0, 0, 0, 0, by omega, rfl, rfl, by decide, by decide, by decide, by decide, by decide, by decide, divnum_start _ _ h256⟩
 rintro m l L N ⟨z, rest, r1, r0, o3, o2, o1, o0, hzm, rfl, rfl, l1, l0, m3, m2, m1, m0, D⟩ hN
 cases m with
 | zero =>
  obtain rfl : z = -1 := by omega
  have hc : decide ((-1 : Int) ≥ 0) = false := by decide
  have hfour := four_pure (o0 : Nat) (o1 : Nat) (o2 : Nat) (o3 : Nat)
  obtain ⟨e3, e2, e1, e0, f1, f0⟩ := div_end D l1 l0 m3 m2 m1 m0
  clear hlen hlist hsub1 D
  repeat (
   first
    | refine j_drawB (id := 14) [(2005, .eff)] [(g, [.int .u64 (o0 : Nat), .int .u64 (o1 : Nat), .int .u64 (o2 : Nat), .int .u64 (o3 : Nat)], 179), (g5, [.int .u64 (r1 : Nat), .int .u64 (r0 : Nat)], 79)] (by kernel_rfl) (by kernel_rfl) ?_
    | refine j_seq_k (fun N hN => ?_)
    | refine j_text ?_
    | refine j_draw (id := 9) [(998, .eff)] (by kernel_rfl) (by kernel_rfl) ?_
    | refine j_block ?_
    | refine j_skip ?_
    | refine j_ret ?_
    | refine j_exit ?_
    | refine s_nil (show X _ _ _ _ _ from ?_)
    | (refine x_next hN ?_; clear hN N)
    | (refine x_then_ret ?_; clear hN N)
    | (refine x_then_exit ?_; clear hN N)
    | refine x_block ?_
    | refine x_block_ret ?_
    | refine x_block_hit ?_
    | refine x_block_miss (by eq_refl) ?_
    | refine k_skip (h := ?_)
    | refine k_fieldAddr (h := ?_)
    | refine k_load_one (h := ?_)
    | refine k_load_agg (h := ?_)
    | refine k_bin (h := ?_)
    | refine k_move (h := ?_)
    | refine k_assign (h := ?_)
    | refine k_extract (h := ?_)
    | refine k_call (hp := hfour) (h := ?_)
    | (refine k_box (h := ?_); intro g)
    | (refine k_alloc (h := ?_); intro g)
    | refine k_store (h := ?_)
    | refine k_field_agg (h := ?_)
    | refine k_build (h := ?_)
    | refine k_conv (h := ?_)
    | refine k_not (h := ?_)
    | refine k_eqb (h := ?_)
    | refine k_neb (h := ?_)
    | refine k_eqs (h := ?_)
    | refine k_nes (h := ?_)
    | refine k_pick_t (h := ?_)
    | refine k_pick_f (h := ?_)
    | refine k_shl (h := ?_)
    | refine k_shr (h := ?_)
    | refine k_len_slice (h := ?_)
    | refine k_quo (h := ?_)
    | refine k_rem (h := ?_)
    | (refine k_buildSlice (h := ?_); intro g)
    | refine k_indexAddr_arr (h := ?_)
    | refine c_true (h := ?_)
    | refine c_false (h := ?_)
    | (refine s_ask (by eq_refl) (by eq_refl) (evO_eq (by eq_refl)) (fun hask => ?_) (fun hask => ?_))
    | (refine c_split (by eq_refl) (fun hif => ?_) (fun hif => ?_))
   )
  refine hQ _ _ (ret3 rfl (by (first | exact v_tmp | exact v_agg)) (by (first | exact v_tmp | exact v_agg)) (by (first | exact v_tmp | exact v_agg)) ?_)
  rw [e3, e2, e1, e0, f1, f0]
 | succ k =>
  obtain rfl : z = (k : Int) := by omega
  have hk256 : k < 256 := by have := D.hm; omega
  have hc : decide ((k : Int) ≥ 0) = true := by simp
  obtain ⟨e, he⟩ : ∃ e, val4 a b c d / 2 ^ k % 2 = e := ⟨_, rfl⟩
  have he2 : e < 2 := by omega
  have hbit := bit_pure la lb lc ld hk256
  rw [he] at hbit
  obtain ⟨x1, hx1⟩ : ∃ x, (r1 * 2 % 18446744073709551616 ||| r0 / 9223372036854775808) = x := ⟨_, rfl⟩
  obtain ⟨x0, hx0⟩ : ∃ x, (r0 * 2 % 18446744073709551616 ||| e) = x := ⟨_, rfl⟩
  have dw := double_words r1 r0 e he2 l1 l0
  rw [hx1, hx0] at dw
  obtain ⟨b1, b0, bx⟩ := dw
  have hsub := subw_pure b1 b0 lp lq
  have hbb := beyond_iff r1 r0 e he2 l0
  have w1 : ((r1 : Nat) : Int).fdiv (2 ^ (min (63 : Int).toNat IntKind.u64.bits)) = (r1 : Int) / 9223372036854775808 := by
   rw [Int.fdiv_eq_ediv_of_nonneg _ (Int.pow_nonneg (by decide))]; rfl
  have w2 : IntKind.u64.wrap (((r1 : Nat) : Int) * 2 ^ (min (1 : Int).toNat IntKind.u64.bits)) = ((r1 * 2 % 18446744073709551616 : Nat) : Int) := by
   rw [IntKind.wrap_u64]; simp [IntKind.bits]
  have w3 : ((r0 : Nat) : Int).fdiv (2 ^ (min (63 : Int).toNat IntKind.u64.bits)) = ((r0 / 9223372036854775808 : Nat) : Int) := by
   rw [Int.fdiv_eq_ediv_of_nonneg _ (Int.pow_nonneg (by decide))]; rfl
  have w4 : arith .or .u64 ((r1 * 2 % 18446744073709551616 : Nat) : Int) ((r0 / 9223372036854775808 : Nat) : Int) = some (.int .u64 (x1 : Nat)) := by
   simp only [arith]; rw [u64_or_nat _ _ (Nat.mod_lt _ (by decide)) (by omega), hx1]
  have w5 : IntKind.u64.wrap (((r0 : Nat) : Int) * 2 ^ (min (1 : Int).toNat IntKind.u64.bits)) = ((r0 * 2 % 18446744073709551616 : Nat) : Int) := by
   rw [IntKind.wrap_u64]; simp [IntKind.bits]
  have w6 : arith .or .u64 ((r0 * 2 % 18446744073709551616 : Nat) : Int) ((e : Nat) : Int) = some (.int .u64 (x0 : Nat)) := by
   simp only [arith]; rw [u64_or_nat _ _ (Nat.mod_lt _ (by decide)) (by omega), hx0]
  have w7 : arith .sub .i64 ((k : Nat) : Int) 1 = some (.int .i64 ((k : Int) - 1)) := by
   simp only [arith, IntKind.wrap_i64, Option.some.injEq, Value.int.injEq, true_and]; omega
  obtain ⟨bb, hbb'⟩ : ∃ bb, decide ((r1 : Int) / 9223372036854775808 > 0) = bb := ⟨_, rfl⟩
  have w8 : arith .gtr .u64 ((r1 : Int) / 9223372036854775808) 0 = some (.bool bb) := by simp only [arith, hbb']
  obtain ⟨ls, hls⟩ : ∃ ls, decide (val2 x1 x0 < val2 p q) = ls := ⟨_, rfl⟩
  rw [hls] at hsub
  have hbb2 : bb = decide (340282366920938463463374607431768211456 ≤ 2 * val2 r1 r0 + e) := by rw [← hbb']; exact hbb
  obtain ⟨s, hs, hq⟩ : ∃ s, s < 64 ∧ (k = s ∨ k = 64 + s ∨ k = 128 + s ∨ k = 192 + s) := ⟨k % 64, by omega, by omega⟩
  have hst : ((k : Nat) : Int).tmod 64 = ((s : Nat) : Int) := by rw [Int.tmod_eq_emod_of_nonneg (by omega)]; omega
  have hsh : IntKind.u64.wrap (1 * 2 ^ (min ((s : Nat) : Int).toNat IntKind.u64.bits)) = ((2 ^ s : Nat) : Int) := by
   have : 2 ^ s < 18446744073709551616 := Nat.pow_lt_pow_right (by decide) hs
   rw [IntKind.wrap_u64, Int.toNat_natCast, show IntKind.u64.bits = 64 from rfl, Nat.min_eq_left (by omega), Int.one_mul, show (2 : Int) ^ s = ((2 ^ s : Nat) : Int) by rw [Int.natCast_pow]; rfl]
   generalize 2 ^ s = P2 at *
   omega
  have hsn : decide (((s : Nat) : Int) < 0) = false := by simp
  have hp2 : 2 ^ s < 18446744073709551616 := Nat.pow_lt_pow_right (by decide) hs
  have q3 : arith .or .u64 ((o3 : Nat) : Int) ((2 ^ s : Nat) : Int) = some (.int .u64 ((o3 ||| 2 ^ s : Nat) : Int)) := by simp only [arith]; rw [u64_or_nat _ _ m3 hp2]
  have q2 : arith .or .u64 ((o2 : Nat) : Int) ((2 ^ s : Nat) : Int) = some (.int .u64 ((o2 ||| 2 ^ s : Nat) : Int)) := by simp only [arith]; rw [u64_or_nat _ _ m2 hp2]
  have q1 : arith .or .u64 ((o1 : Nat) : Int) ((2 ^ s : Nat) : Int) = some (.int .u64 ((o1 ||| 2 ^ s : Nat) : Int)) := by simp only [arith]; rw [u64_or_nat _ _ m1 hp2]
  have q0 : arith .or .u64 ((o0 : Nat) : Int) ((2 ^ s : Nat) : Int) = some (.int .u64 ((o0 ||| 2 ^ s : Nat) : Int)) := by simp only [arith]; rw [u64_or_nat _ _ m0 hp2]
  have hA : ¬ val2 p q = 0 := hne
  have hB2 := val2_lt lp lq
  have hin : (bb || !ls) = true → DivNum (val4 a b c d) (val2 p q) k (val2 (wrd 1 (val2 x1 x0 + 340282366920938463463374607431768211456 - val2 p q)) (wrd 0 (val2 x1 x0 + 340282366920938463463374607431768211456 - val2 p q))) (val4 o3 o2 o1 o0 + 2 ^ k) ∧ val4 o3 o2 o1 o0 % 2 ^ (k + 1) = 0 :=
   fun h => div_in bb ls D hA hB2 he bx hbb2 hls h
  have hout : bb = false → ls = true → DivNum (val4 a b c d) (val2 p q) k (val2 x1 x0) (val4 o3 o2 o1 o0) := fun h1 h2 => div_out D hA he bx (h1.symm.trans hbb2) (hls.trans h2)
  clear hlen hlist hsub1 hz hx1 hx0 hbb hbb' he bx hbb2
  have hqd : ∃ i : Int, IntKind.i64.wrap (((k : Nat) : Int).tdiv 64) = i ∧ ((i = 0 ∧ k = s) ∨ (i = 1 ∧ k = 64 + s) ∨ (i = 2 ∧ k = 128 + s) ∨ (i = 3 ∧ k = 192 + s)) := by
   have e : IntKind.i64.wrap (((k : Nat) : Int).tdiv 64) = ((k / 64 : Nat) : Int) := by
    rw [Int.tdiv_eq_ediv_of_nonneg (by omega), IntKind.wrap_i64]
    omega
   rw [e]
   rcases hq with h | h | h | h
   ·exact ⟨0, by omega, .inl ⟨rfl, h⟩⟩
   ·exact ⟨1, by omega, .inr (.inl ⟨rfl, h⟩)⟩
   ·exact ⟨2, by omega, .inr (.inr (.inl ⟨rfl, h⟩))⟩
   ·exact ⟨3, by omega, .inr (.inr (.inr ⟨rfl, h⟩))⟩
  obtain ⟨i, hqi, hi⟩ := hqd
  have fin : ∀ (D' : DivNum (val4 a b c d) (val2 p q) k (val2 (wrd 1 (val2 x1 x0 + 340282366920938463463374607431768211456 - val2 p q)) (wrd 0 (val2 x1 x0 + 340282366920938463463374607431768211456 - val2 p q))) (val4 o3 o2 o1 o0 + 2 ^ k)) (hO : val4 o3 o2 o1 o0 % 2 ^ (k + 1) = 0), _ := fun D' hO => And.intro D' (quot_bit o3 o2 o1 o0 k s hs m3 m2 m1 m0 hO)
  have lw1 := wrd_lt 1 (val2 x1 x0 + 340282366920938463463374607431768211456 - val2 p q)
  have lw0 := wrd_lt 0 (val2 x1 x0 + 340282366920938463463374607431768211456 - val2 p q)
  clear hq D la lb lc ld lp lq hne hA hB2 hls
  repeat' (
   first
    | refine j_seq_k (fun N hN => ?_)
    | refine j_text ?_
    | refine j_draw (id := 9) [(998, .eff)] (by kernel_rfl) (by kernel_rfl) ?_
    | refine j_block ?_
    | refine j_skip ?_
    | refine j_ret ?_
    | refine j_exit ?_
    | refine s_nil (show X _ _ _ _ _ from ?_)
    | (refine x_next hN ?_; clear hN N)
    | (refine x_then_ret ?_; clear hN N)
    | (refine x_then_exit ?_; clear hN N)
    | refine x_block ?_
    | refine x_block_ret ?_
    | refine x_block_hit ?_
    | refine x_block_miss (by eq_refl) ?_
    | refine k_skip (h := ?_)
    | refine k_fieldAddr (h := ?_)
    | refine k_load_one (h := ?_)
    | refine k_load_agg (h := ?_)
    | refine k_bin (h := ?_)
    | refine k_move (h := ?_)
    | refine k_assign (h := ?_)
    | refine k_extract (h := ?_)
    | refine k_call (hp := hbit) (h := ?_)
    | refine k_call (hp := hsub) (h := ?_)
    | (refine k_box (h := ?_); intro g)
    | (refine k_alloc (h := ?_); intro g)
    | refine k_store (h := ?_)
    | refine k_field_agg (h := ?_)
    | refine k_build (h := ?_)
    | refine k_conv (h := ?_)
    | refine k_not (h := ?_)
    | refine k_eqb (h := ?_)
    | refine k_neb (h := ?_)
    | refine k_eqs (h := ?_)
    | refine k_nes (h := ?_)
    | refine k_pick_t (h := ?_)
    | refine k_pick_f (h := ?_)
    | refine k_shl (h := ?_)
    | refine k_shr (h := ?_)
    | refine k_len_slice (h := ?_)
    | refine k_quo (h := ?_)
    | refine k_rem (h := ?_)
    | (refine k_buildSlice (h := ?_); intro g)
    | refine k_indexAddr_arr (h := ?_)
    | refine c_true (h := ?_)
    | refine c_false (h := ?_)
    | (refine s_ask (by eq_refl) (by eq_refl) (evO_eq (by eq_refl)) (fun hask => ?_) (fun hask => ?_))
    | (refine c_split (by eq_refl) (fun hif => ?_) (fun hif => ?_))
   )
  ·obtain ⟨D', hO⟩ := hin (by rw [hask]; rfl)
   obtain ⟨_, Q0, Q1, Q2, Q3⟩ := fin D' hO
   clear fin hin hout
   rcases hi with ⟨rfl, hk⟩ | ⟨rfl, hk⟩ | ⟨rfl, hk⟩ | ⟨rfl, hk⟩
   ·obtain ⟨ho, hv⟩ := Q0 hk
    rw [← hv] at D'
    clear Q0 Q1 Q2 Q3
    repeat' (
     first
      | refine j_draw (id := 13) [(998, .eff)] (by kernel_rfl) (by kernel_rfl) ?_
      | refine j_seq_k (fun N hN => ?_)
      | refine j_text ?_
      | refine j_draw (id := 9) [(998, .eff)] (by kernel_rfl) (by kernel_rfl) ?_
      | refine j_block ?_
      | refine j_skip ?_
      | refine j_ret ?_
      | refine j_exit ?_
      | refine s_nil (show X _ _ _ _ _ from ?_)
      | (refine x_next hN ?_; clear hN N)
      | (refine x_then_ret ?_; clear hN N)
      | (refine x_then_exit ?_; clear hN N)
      | refine x_block ?_
      | refine x_block_ret ?_
      | refine x_block_hit ?_
      | refine x_block_miss (by eq_refl) ?_
      | refine k_skip (h := ?_)
      | refine k_fieldAddr (h := ?_)
      | refine k_load_one (h := ?_)
      | refine k_load_agg (h := ?_)
      | refine k_bin (h := ?_)
      | refine k_move (h := ?_)
      | refine k_assign (h := ?_)
      | refine k_extract (h := ?_)
      | (refine k_box (h := ?_); intro g)
      | (refine k_alloc (h := ?_); intro g)
      | refine k_store (h := ?_)
      | refine k_field_agg (h := ?_)
      | refine k_build (h := ?_)
      | refine k_conv (h := ?_)
      | refine k_not (h := ?_)
      | refine k_eqb (h := ?_)
      | refine k_neb (h := ?_)
      | refine k_eqs (h := ?_)
      | refine k_nes (h := ?_)
      | refine k_pick_t (h := ?_)
      | refine k_pick_f (h := ?_)
      | refine k_shl (h := ?_)
      | refine k_shr (h := ?_)
      | refine k_len_slice (h := ?_)
      | refine k_quo (h := ?_)
      | refine k_rem (h := ?_)
      | (refine k_buildSlice (h := ?_); intro g)
      | refine k_indexAddr_arr (h := ?_)
      | refine c_true (h := ?_)
      | refine c_false (h := ?_)
      | (refine s_ask (by eq_refl) (by eq_refl) (evO_eq (by eq_refl)) (fun hask => ?_) (fun hask => ?_))
      | (refine c_split (by eq_refl) (fun hif => ?_) (fun hif => ?_))
     )
    refine x_rem 2 (by eq_refl) (x_rem 3 (by eq_refl) (x_rem 4 (by eq_refl) (x_rem 5 (by eq_refl) (x_rem 7 (by eq_refl) (x_rem 8 (by eq_refl) (x_rem 9 (by eq_refl) (x_drop ?_)))))))
    exact hN k _ _ (Nat.lt_succ_self k) ⟨_, _, _, _, _, _, _, _, by omega, rfl, rfl, lw1, lw0, m3, m2, m1, ho, D'⟩
   ·obtain ⟨ho, hv⟩ := Q1 hk
    rw [← hv] at D'
    clear Q0 Q1 Q2 Q3
    repeat' (
     first
      | refine j_draw (id := 13) [(998, .eff)] (by kernel_rfl) (by kernel_rfl) ?_
      | refine j_seq_k (fun N hN => ?_)
      | refine j_text ?_
      | refine j_draw (id := 9) [(998, .eff)] (by kernel_rfl) (by kernel_rfl) ?_
      | refine j_block ?_
      | refine j_skip ?_
      | refine j_ret ?_
      | refine j_exit ?_
      | refine s_nil (show X _ _ _ _ _ from ?_)
      | (refine x_next hN ?_; clear hN N)
      | (refine x_then_ret ?_; clear hN N)
      | (refine x_then_exit ?_; clear hN N)
      | refine x_block ?_
      | refine x_block_ret ?_
      | refine x_block_hit ?_
      | refine x_block_miss (by eq_refl) ?_
      | refine k_skip (h := ?_)
      | refine k_fieldAddr (h := ?_)
      | refine k_load_one (h := ?_)
      | refine k_load_agg (h := ?_)
      | refine k_bin (h := ?_)
      | refine k_move (h := ?_)
      | refine k_assign (h := ?_)
      | refine k_extract (h := ?_)
      | (refine k_box (h := ?_); intro g)
      | (refine k_alloc (h := ?_); intro g)
      | refine k_store (h := ?_)
      | refine k_field_agg (h := ?_)
      | refine k_build (h := ?_)
      | refine k_conv (h := ?_)
      | refine k_not (h := ?_)
      | refine k_eqb (h := ?_)
      | refine k_neb (h := ?_)
      | refine k_eqs (h := ?_)
      | refine k_nes (h := ?_)
      | refine k_pick_t (h := ?_)
      | refine k_pick_f (h := ?_)
      | refine k_shl (h := ?_)
      | refine k_shr (h := ?_)
      | refine k_len_slice (h := ?_)
      | refine k_quo (h := ?_)
      | refine k_rem (h := ?_)
      | (refine k_buildSlice (h := ?_); intro g)
      | refine k_indexAddr_arr (h := ?_)
      | refine c_true (h := ?_)
      | refine c_false (h := ?_)
      | (refine s_ask (by eq_refl) (by eq_refl) (evO_eq (by eq_refl)) (fun hask => ?_) (fun hask => ?_))
      | (refine c_split (by eq_refl) (fun hif => ?_) (fun hif => ?_))
     )
    refine x_rem 2 (by eq_refl) (x_rem 3 (by eq_refl) (x_rem 4 (by eq_refl) (x_rem 5 (by eq_refl) (x_rem 7 (by eq_refl) (x_rem 8 (by eq_refl) (x_rem 9 (by eq_refl) (x_drop ?_)))))))
    exact hN k _ _ (Nat.lt_succ_self k) ⟨_, _, _, _, _, _, _, _, by omega, rfl, rfl, lw1, lw0, m3, m2, ho, m0, D'⟩
   ·obtain ⟨ho, hv⟩ := Q2 hk
    rw [← hv] at D'
    clear Q0 Q1 Q2 Q3
    repeat' (
     first
      | refine j_draw (id := 13) [(998, .eff)] (by kernel_rfl) (by kernel_rfl) ?_
      | refine j_seq_k (fun N hN => ?_)
      | refine j_text ?_
      | refine j_draw (id := 9) [(998, .eff)] (by kernel_rfl) (by kernel_rfl) ?_
      | refine j_block ?_
      | refine j_skip ?_
      | refine j_ret ?_
      | refine j_exit ?_
      | refine s_nil (show X _ _ _ _ _ from ?_)
      | (refine x_next hN ?_; clear hN N)
      | (refine x_then_ret ?_; clear hN N)
      | (refine x_then_exit ?_; clear hN N)
      | refine x_block ?_
      | refine x_block_ret ?_
      | refine x_block_hit ?_
      | refine x_block_miss (by eq_refl) ?_
      | refine k_skip (h := ?_)
      | refine k_fieldAddr (h := ?_)
      | refine k_load_one (h := ?_)
      | refine k_load_agg (h := ?_)
      | refine k_bin (h := ?_)
      | refine k_move (h := ?_)
      | refine k_assign (h := ?_)
      | refine k_extract (h := ?_)
      | (refine k_box (h := ?_); intro g)
      | (refine k_alloc (h := ?_); intro g)
      | refine k_store (h := ?_)
      | refine k_field_agg (h := ?_)
      | refine k_build (h := ?_)
      | refine k_conv (h := ?_)
      | refine k_not (h := ?_)
      | refine k_eqb (h := ?_)
      | refine k_neb (h := ?_)
      | refine k_eqs (h := ?_)
      | refine k_nes (h := ?_)
      | refine k_pick_t (h := ?_)
      | refine k_pick_f (h := ?_)
      | refine k_shl (h := ?_)
      | refine k_shr (h := ?_)
      | refine k_len_slice (h := ?_)
      | refine k_quo (h := ?_)
      | refine k_rem (h := ?_)
      | (refine k_buildSlice (h := ?_); intro g)
      | refine k_indexAddr_arr (h := ?_)
      | refine c_true (h := ?_)
      | refine c_false (h := ?_)
      | (refine s_ask (by eq_refl) (by eq_refl) (evO_eq (by eq_refl)) (fun hask => ?_) (fun hask => ?_))
      | (refine c_split (by eq_refl) (fun hif => ?_) (fun hif => ?_))
     )
    refine x_rem 2 (by eq_refl) (x_rem 3 (by eq_refl) (x_rem 4 (by eq_refl) (x_rem 5 (by eq_refl) (x_rem 7 (by eq_refl) (x_rem 8 (by eq_refl) (x_rem 9 (by eq_refl) (x_drop ?_)))))))
    exact hN k _ _ (Nat.lt_succ_self k) ⟨_, _, _, _, _, _, _, _, by omega, rfl, rfl, lw1, lw0, m3, ho, m1, m0, D'⟩
   ·obtain ⟨ho, hv⟩ := Q3 hk
    rw [← hv] at D'
    clear Q0 Q1 Q2 Q3
    repeat' (
     first
      | refine j_draw (id := 13) [(998, .eff)] (by kernel_rfl) (by kernel_rfl) ?_
      | refine j_seq_k (fun N hN => ?_)
      | refine j_text ?_
      | refine j_draw (id := 9) [(998, .eff)] (by kernel_rfl) (by kernel_rfl) ?_
      | refine j_block ?_
      | refine j_skip ?_
      | refine j_ret ?_
      | refine j_exit ?_
      | refine s_nil (show X _ _ _ _ _ from ?_)
      | (refine x_next hN ?_; clear hN N)
      | (refine x_then_ret ?_; clear hN N)
      | (refine x_then_exit ?_; clear hN N)
      | refine x_block ?_
      | refine x_block_ret ?_
      | refine x_block_hit ?_
      | refine x_block_miss (by eq_refl) ?_
      | refine k_skip (h := ?_)
      | refine k_fieldAddr (h := ?_)
      | refine k_load_one (h := ?_)
      | refine k_load_agg (h := ?_)
      | refine k_bin (h := ?_)
      | refine k_move (h := ?_)
      | refine k_assign (h := ?_)
      | refine k_extract (h := ?_)
      | (refine k_box (h := ?_); intro g)
      | (refine k_alloc (h := ?_); intro g)
      | refine k_store (h := ?_)
      | refine k_field_agg (h := ?_)
      | refine k_build (h := ?_)
      | refine k_conv (h := ?_)
      | refine k_not (h := ?_)
      | refine k_eqb (h := ?_)
      | refine k_neb (h := ?_)
      | refine k_eqs (h := ?_)
      | refine k_nes (h := ?_)
      | refine k_pick_t (h := ?_)
      | refine k_pick_f (h := ?_)
      | refine k_shl (h := ?_)
      | refine k_shr (h := ?_)
      | refine k_len_slice (h := ?_)
      | refine k_quo (h := ?_)
      | refine k_rem (h := ?_)
      | (refine k_buildSlice (h := ?_); intro g)
      | refine k_indexAddr_arr (h := ?_)
      | refine c_true (h := ?_)
      | refine c_false (h := ?_)
      | (refine s_ask (by eq_refl) (by eq_refl) (evO_eq (by eq_refl)) (fun hask => ?_) (fun hask => ?_))
      | (refine c_split (by eq_refl) (fun hif => ?_) (fun hif => ?_))
     )
    refine x_rem 2 (by eq_refl) (x_rem 3 (by eq_refl) (x_rem 4 (by eq_refl) (x_rem 5 (by eq_refl) (x_rem 7 (by eq_refl) (x_rem 8 (by eq_refl) (x_rem 9 (by eq_refl) (x_drop ?_)))))))
    exact hN k _ _ (Nat.lt_succ_self k) ⟨_, _, _, _, _, _, _, _, by omega, rfl, rfl, lw1, lw0, ho, m2, m1, m0, D'⟩
  ·obtain ⟨D', hO⟩ := hin (by rw [hask, hif]; rfl)
   obtain ⟨_, Q0, Q1, Q2, Q3⟩ := fin D' hO
   clear fin hin hout
   rcases hi with ⟨rfl, hk⟩ | ⟨rfl, hk⟩ | ⟨rfl, hk⟩ | ⟨rfl, hk⟩
   ·obtain ⟨ho, hv⟩ := Q0 hk
    rw [← hv] at D'
    clear Q0 Q1 Q2 Q3
    repeat' (
     first
      | refine j_draw (id := 13) [(998, .eff)] (by kernel_rfl) (by kernel_rfl) ?_
      | refine j_seq_k (fun N hN => ?_)
      | refine j_text ?_
      | refine j_draw (id := 9) [(998, .eff)] (by kernel_rfl) (by kernel_rfl) ?_
      | refine j_block ?_
      | refine j_skip ?_
      | refine j_ret ?_
      | refine j_exit ?_
      | refine s_nil (show X _ _ _ _ _ from ?_)
      | (refine x_next hN ?_; clear hN N)
      | (refine x_then_ret ?_; clear hN N)
      | (refine x_then_exit ?_; clear hN N)
      | refine x_block ?_
      | refine x_block_ret ?_
      | refine x_block_hit ?_
      | refine x_block_miss (by eq_refl) ?_
      | refine k_skip (h := ?_)
      | refine k_fieldAddr (h := ?_)
      | refine k_load_one (h := ?_)
      | refine k_load_agg (h := ?_)
      | refine k_bin (h := ?_)
      | refine k_move (h := ?_)
      | refine k_assign (h := ?_)
      | refine k_extract (h := ?_)
      | (refine k_box (h := ?_); intro g)
      | (refine k_alloc (h := ?_); intro g)
      | refine k_store (h := ?_)
      | refine k_field_agg (h := ?_)
      | refine k_build (h := ?_)
      | refine k_conv (h := ?_)
      | refine k_not (h := ?_)
      | refine k_eqb (h := ?_)
      | refine k_neb (h := ?_)
      | refine k_eqs (h := ?_)
      | refine k_nes (h := ?_)
      | refine k_pick_t (h := ?_)
      | refine k_pick_f (h := ?_)
      | refine k_shl (h := ?_)
      | refine k_shr (h := ?_)
      | refine k_len_slice (h := ?_)
      | refine k_quo (h := ?_)
      | refine k_rem (h := ?_)
      | (refine k_buildSlice (h := ?_); intro g)
      | refine k_indexAddr_arr (h := ?_)
      | refine c_true (h := ?_)
      | refine c_false (h := ?_)
      | (refine s_ask (by eq_refl) (by eq_refl) (evO_eq (by eq_refl)) (fun hask => ?_) (fun hask => ?_))
      | (refine c_split (by eq_refl) (fun hif => ?_) (fun hif => ?_))
     )
    refine x_rem 2 (by eq_refl) (x_rem 3 (by eq_refl) (x_rem 4 (by eq_refl) (x_rem 5 (by eq_refl) (x_rem 7 (by eq_refl) (x_rem 8 (by eq_refl) (x_rem 9 (by eq_refl) (x_drop ?_)))))))
    exact hN k _ _ (Nat.lt_succ_self k) ⟨_, _, _, _, _, _, _, _, by omega, rfl, rfl, lw1, lw0, m3, m2, m1, ho, D'⟩
   ·obtain ⟨ho, hv⟩ := Q1 hk
    rw [← hv] at D'
    clear Q0 Q1 Q2 Q3
    repeat' (
     first
      | refine j_draw (id := 13) [(998, .eff)] (by kernel_rfl) (by kernel_rfl) ?_
      | refine j_seq_k (fun N hN => ?_)
      | refine j_text ?_
      | refine j_draw (id := 9) [(998, .eff)] (by kernel_rfl) (by kernel_rfl) ?_
      | refine j_block ?_
      | refine j_skip ?_
      | refine j_ret ?_
      | refine j_exit ?_
      | refine s_nil (show X _ _ _ _ _ from ?_)
      | (refine x_next hN ?_; clear hN N)
      | (refine x_then_ret ?_; clear hN N)
      | (refine x_then_exit ?_; clear hN N)
      | refine x_block ?_
      | refine x_block_ret ?_
      | refine x_block_hit ?_
      | refine x_block_miss (by eq_refl) ?_
      | refine k_skip (h := ?_)
      | refine k_fieldAddr (h := ?_)
      | refine k_load_one (h := ?_)
      | refine k_load_agg (h := ?_)
      | refine k_bin (h := ?_)
      | refine k_move (h := ?_)
      | refine k_assign (h := ?_)
      | refine k_extract (h := ?_)
      | (refine k_box (h := ?_); intro g)
      | (refine k_alloc (h := ?_); intro g)
      | refine k_store (h := ?_)
      | refine k_field_agg (h := ?_)
      | refine k_build (h := ?_)
      | refine k_conv (h := ?_)
      | refine k_not (h := ?_)
      | refine k_eqb (h := ?_)
      | refine k_neb (h := ?_)
      | refine k_eqs (h := ?_)
      | refine k_nes (h := ?_)
      | refine k_pick_t (h := ?_)
      | refine k_pick_f (h := ?_)
      | refine k_shl (h := ?_)
      | refine k_shr (h := ?_)
      | refine k_len_slice (h := ?_)
      | refine k_quo (h := ?_)
      | refine k_rem (h := ?_)
      | (refine k_buildSlice (h := ?_); intro g)
      | refine k_indexAddr_arr (h := ?_)
      | refine c_true (h := ?_)
      | refine c_false (h := ?_)
      | (refine s_ask (by eq_refl) (by eq_refl) (evO_eq (by eq_refl)) (fun hask => ?_) (fun hask => ?_))
      | (refine c_split (by eq_refl) (fun hif => ?_) (fun hif => ?_))
     )
    refine x_rem 2 (by eq_refl) (x_rem 3 (by eq_refl) (x_rem 4 (by eq_refl) (x_rem 5 (by eq_refl) (x_rem 7 (by eq_refl) (x_rem 8 (by eq_refl) (x_rem 9 (by eq_refl) (x_drop ?_)))))))
    exact hN k _ _ (Nat.lt_succ_self k) ⟨_, _, _, _, _, _, _, _, by omega, rfl, rfl, lw1, lw0, m3, m2, ho, m0, D'⟩
   ·obtain ⟨ho, hv⟩ := Q2 hk
    rw [← hv] at D'
    clear Q0 Q1 Q2 Q3
    repeat' (
     first
      | refine j_draw (id := 13) [(998, .eff)] (by kernel_rfl) (by kernel_rfl) ?_
      | refine j_seq_k (fun N hN => ?_)
      | refine j_text ?_
      | refine j_draw (id := 9) [(998, .eff)] (by kernel_rfl) (by kernel_rfl) ?_
      | refine j_block ?_
      | refine j_skip ?_
      | refine j_ret ?_
      | refine j_exit ?_
      | refine s_nil (show X _ _ _ _ _ from ?_)
      | (refine x_next hN ?_; clear hN N)
      | (refine x_then_ret ?_; clear hN N)
      | (refine x_then_exit ?_; clear hN N)
      | refine x_block ?_
      | refine x_block_ret ?_
      | refine x_block_hit ?_
      | refine x_block_miss (by eq_refl) ?_
      | refine k_skip (h := ?_)
      | refine k_fieldAddr (h := ?_)
      | refine k_load_one (h := ?_)
      | refine k_load_agg (h := ?_)
      | refine k_bin (h := ?_)
      | refine k_move (h := ?_)
      | refine k_assign (h := ?_)
      | refine k_extract (h := ?_)
      | (refine k_box (h := ?_); intro g)
      | (refine k_alloc (h := ?_); intro g)
      | refine k_store (h := ?_)
      | refine k_field_agg (h := ?_)
      | refine k_build (h := ?_)
      | refine k_conv (h := ?_)
      | refine k_not (h := ?_)
      | refine k_eqb (h := ?_)
      | refine k_neb (h := ?_)
      | refine k_eqs (h := ?_)
      | refine k_nes (h := ?_)
      | refine k_pick_t (h := ?_)
      | refine k_pick_f (h := ?_)
      | refine k_shl (h := ?_)
      | refine k_shr (h := ?_)
      | refine k_len_slice (h := ?_)
      | refine k_quo (h := ?_)
      | refine k_rem (h := ?_)
      | (refine k_buildSlice (h := ?_); intro g)
      | refine k_indexAddr_arr (h := ?_)
      | refine c_true (h := ?_)
      | refine c_false (h := ?_)
      | (refine s_ask (by eq_refl) (by eq_refl) (evO_eq (by eq_refl)) (fun hask => ?_) (fun hask => ?_))
      | (refine c_split (by eq_refl) (fun hif => ?_) (fun hif => ?_))
     )
    refine x_rem 2 (by eq_refl) (x_rem 3 (by eq_refl) (x_rem 4 (by eq_refl) (x_rem 5 (by eq_refl) (x_rem 7 (by eq_refl) (x_rem 8 (by eq_refl) (x_rem 9 (by eq_refl) (x_drop ?_)))))))
    exact hN k _ _ (Nat.lt_succ_self k) ⟨_, _, _, _, _, _, _, _, by omega, rfl, rfl, lw1, lw0, m3, ho, m1, m0, D'⟩
   ·obtain ⟨ho, hv⟩ := Q3 hk
    rw [← hv] at D'
    clear Q0 Q1 Q2 Q3
    repeat' (
     first
      | refine j_draw (id := 13) [(998, .eff)] (by kernel_rfl) (by kernel_rfl) ?_
      | refine j_seq_k (fun N hN => ?_)
      | refine j_text ?_
      | refine j_draw (id := 9) [(998, .eff)] (by kernel_rfl) (by kernel_rfl) ?_
      | refine j_block ?_
      | refine j_skip ?_
      | refine j_ret ?_
      | refine j_exit ?_
      | refine s_nil (show X _ _ _ _ _ from ?_)
      | (refine x_next hN ?_; clear hN N)
      | (refine x_then_ret ?_; clear hN N)
      | (refine x_then_exit ?_; clear hN N)
      | refine x_block ?_
      | refine x_block_ret ?_
      | refine x_block_hit ?_
      | refine x_block_miss (by eq_refl) ?_
      | refine k_skip (h := ?_)
      | refine k_fieldAddr (h := ?_)
      | refine k_load_one (h := ?_)
      | refine k_load_agg (h := ?_)
      | refine k_bin (h := ?_)
      | refine k_move (h := ?_)
      | refine k_assign (h := ?_)
      | refine k_extract (h := ?_)
      | (refine k_box (h := ?_); intro g)
      | (refine k_alloc (h := ?_); intro g)
      | refine k_store (h := ?_)
      | refine k_field_agg (h := ?_)
      | refine k_build (h := ?_)
      | refine k_conv (h := ?_)
      | refine k_not (h := ?_)
      | refine k_eqb (h := ?_)
      | refine k_neb (h := ?_)
      | refine k_eqs (h := ?_)
      | refine k_nes (h := ?_)
      | refine k_pick_t (h := ?_)
      | refine k_pick_f (h := ?_)
      | refine k_shl (h := ?_)
      | refine k_shr (h := ?_)
      | refine k_len_slice (h := ?_)
      | refine k_quo (h := ?_)
      | refine k_rem (h := ?_)
      | (refine k_buildSlice (h := ?_); intro g)
      | refine k_indexAddr_arr (h := ?_)
      | refine c_true (h := ?_)
      | refine c_false (h := ?_)
      | (refine s_ask (by eq_refl) (by eq_refl) (evO_eq (by eq_refl)) (fun hask => ?_) (fun hask => ?_))
      | (refine c_split (by eq_refl) (fun hif => ?_) (fun hif => ?_))
     )
    refine x_rem 2 (by eq_refl) (x_rem 3 (by eq_refl) (x_rem 4 (by eq_refl) (x_rem 5 (by eq_refl) (x_rem 7 (by eq_refl) (x_rem 8 (by eq_refl) (x_rem 9 (by eq_refl) (x_drop ?_)))))))
    exact hN k _ _ (Nat.lt_succ_self k) ⟨_, _, _, _, _, _, _, _, by omega, rfl, rfl, lw1, lw0, ho, m2, m1, m0, D'⟩
  ·have D' := hout hask (by cases ls <;> simp_all)
   clear fin hin hout
   refine x_rem 2 (by eq_refl) (x_rem 3 (by eq_refl) (x_rem 4 (by eq_refl) (x_rem 5 (by eq_refl) (x_rem 7 (by eq_refl) (x_rem 8 (by eq_refl) (x_rem 9 (by eq_refl) (x_drop ?_)))))))
   exact hN k _ _ (Nat.lt_succ_self k) ⟨_, _, _, _, _, _, _, _, by omega, rfl, rfl, b1, b0, m3, m2, m1, m0, D'⟩
theorem div_pure (a : Four) (b : Two) (hb : b.n ≠ 0) : Pure Try.prog 142 #[a.v, b.v] (.tuple #[(Four.of (a.n / b.n)).v, (Two.of (a.n % b.n)).v, .bool true]) := by
 obtain ⟨⟨x3, x2, hx⟩, ⟨x1, x0, hx'⟩⟩ := a
 obtain ⟨y1, y0, hy⟩ := b
 obtain ⟨a3, rfl⟩ := Int.eq_ofNat_of_zero_le hx.1
 obtain ⟨a2, rfl⟩ := Int.eq_ofNat_of_zero_le hx.2.2.1
 obtain ⟨a1, rfl⟩ := Int.eq_ofNat_of_zero_le hx'.1
 obtain ⟨a0, rfl⟩ := Int.eq_ofNat_of_zero_le hx'.2.2.1
 obtain ⟨b1, rfl⟩ := Int.eq_ofNat_of_zero_le hy.1
 obtain ⟨b0, rfl⟩ := Int.eq_ofNat_of_zero_le hy.2.2.1
 have hne : ¬ val2 b1 b0 = 0 := hb
 refine div_words (by omega) (by omega) (by omega) (by omega) (by omega) (by omega) hne (len_pure ⟨⟨a3, a2, hx⟩, ⟨a1, a0, hx'⟩⟩) (list_pure ⟨⟨a3, a2, hx⟩, ⟨a1, a0, hx'⟩⟩) ?_ ?_
 ·rw [Bool.eq_false_iff]
  intro h
  simp only [Bool.and_eq_true, beq_iff_eq] at h
  apply hne
  unfold val2
  omega
 ·have : blen (val4 a3 a2 a1 a0) ≤ 256 := (blen_le _ _).2 (by have := val4_lt (a := a3) (b := a2) (c := a1) (d := a0) (by omega) (by omega) (by omega) (by omega); simpa using this)
  rw [IntKind.wrap_i64]; omega
end Go.Proofs.Ytedfbamihjnhhaa.Own
