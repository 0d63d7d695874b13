/- Numbers as text: what a text says, by the document. -/
import Derived.Test.YtmgfabfmnachoaaDoorHxF
namespace Go.Proofs.YtmgfabfmnachoaaDoor.Own
open Go Go.RowKit Go.Proofs Go.Proofs.YtmgfabfmnachoaaDoor.Plain Go.Proofs.YtmgfabfmnachoaaDoor.Hx
set_option linter.unusedVariables false
set_option linter.unusedSimpArgs false
set_option maxRecDepth 100000
set_option maxHeartbeats 4000000
theorem par_facts (n d : Nat) (hn : n < 340282366920938463463374607431768211456) (hd : d < 16) :
    IntKind.u64.wrap (((n / 18446744073709551616 : Nat) : Int) * 2 ^ (min (4 : Int).toNat IntKind.u64.bits)) = ((n / 18446744073709551616 * 16 % 18446744073709551616 : Nat) : Int) ∧
    ((n % 18446744073709551616 : Nat) : Int).fdiv (2 ^ (min (60 : Int).toNat IntKind.u64.bits)) = ((n % 18446744073709551616 / 1152921504606846976 : Nat) : Int) ∧
    arith .or .u64 ((n / 18446744073709551616 * 16 % 18446744073709551616 : Nat) : Int) ((n % 18446744073709551616 / 1152921504606846976 : Nat) : Int) = some (.int .u64 (((n * 16 + d) % 340282366920938463463374607431768211456 / 18446744073709551616 : Nat) : Int)) ∧
    IntKind.u64.wrap (((n % 18446744073709551616 : Nat) : Int) * 2 ^ (min (4 : Int).toNat IntKind.u64.bits)) = ((n % 18446744073709551616 * 16 % 18446744073709551616 : Nat) : Int) ∧
    arith .or .u64 ((n % 18446744073709551616 * 16 % 18446744073709551616 : Nat) : Int) (d : Int) = some (.int .u64 (((n * 16 + d) % 340282366920938463463374607431768211456 % 18446744073709551616 : Nat) : Int)) := by
  refine ⟨shl4_nat _, shr_nat _ 60 (by decide), ?_, shl4_nat _, ?_⟩
  · rw [or_dig _ _ (by omega)]
    congr 3; omega
  · rw [or_dig _ _ hd]
    congr 3; omega
def mD (s : List UInt8) : Nat := numD 340282366920938463463374607431768211456 s 0
def zTwo : Two := ⟨0, 0, by decide⟩
def twoOf (n : Nat) (h : n < 340282366920938463463374607431768211456) : Two := ⟨(n / 18446744073709551616 : Nat), (n % 18446744073709551616 : Nat), by omega⟩
def candR (s : List UInt8) : Fx × Int := told ⟨zTwo, twoOf (mD s) (numD_lt _ _ _ (by decide))⟩ (cutSign s).1
def okR (s : List UInt8) : Bool := decide (s.length ≤ 40) && (decide ((candR s).2 = 0) && decide (textF (candR s).1 = s))
theorem take_step (s : List UInt8) (k : Nat) (h : k < s.length) : numD 340282366920938463463374607431768211456 (s.take (k + 1)) 0 = if isd s[k] = true then (numD 340282366920938463463374607431768211456 (s.take k) 0 * 16 + dv s[k]) % 340282366920938463463374607431768211456 else numD 340282366920938463463374607431768211456 (s.take k) 0 := by
  rw [List.take_add_one, List.getElem?_eq_getElem h, numD_app]; rfl
theorem wrap8 (x : Int) (h : 0 ≤ x ∧ x < 256) : IntKind.u8.wrap x = x := by rw [IntKind.wrap_u8]; omega
theorem rparse_pure (s : List UInt8) : Pure Tryd.prog 9 #[.string (B s)] (.agg #[.int .i64 (if okR s = true then (candR s).1 else zFx).hi, .int .u64 (if okR s = true then (candR s).1 else zFx).lo, .bool (okR s)]) := by
  have tt : true = true := rfl; have ff : false = false := rfl; have nt : (!true) = false := rfl; have nf : (!false) = true := rfl
  by_cases h40 : s.length ≤ 40
  rotate_left
  · have e1 : arith .gtr .i64 (s.length : Int) 40 = some (.bool true) := by simp only [arith, Option.some.injEq, Value.bool.injEq, decide_eq_true_eq]; omega
    have ho : okR s = false := by unfold okR; rw [decide_eq_false h40, Bool.false_and]
    rw [ho]
    refine pure_q Tryd.func9 rfl Tryd.ntmps9 rfl rfl (fun w0 Q hQ => ?_)
    repeat' (
      first
        | refine j_seq_k (fun N hN => ?_)
        | refine j_text ?_
        | refine j_draw (id := 14) [] (by kernel_rfl) (by kernel_rfl) ?_
        | refine j_block ?_
        | refine j_skip ?_
        | refine j_ret ?_
        | refine j_exit ?_
        | refine s_nil (show X _ _ _ _ _ from ?_)
        | (refine x_next hN ?_; clear hN N)
        | (refine x_then_ret ?_; clear hN N)
        | (refine x_then_exit ?_; clear hN N)
        | refine x_block ?_
        | refine x_block_ret ?_
        | refine x_block_hit ?_
        | refine x_block_miss (by eq_refl) ?_
        | refine k_skip (h := ?_)
        | refine k_skip0 (h := ?_)
        | refine k_fieldAddr (h := ?_)
        | refine k_load_one (h := ?_)
        | refine k_load_agg (h := ?_)
        | refine k_bin (h := ?_)
        | refine k_move (h := ?_)
        | refine k_assign (h := ?_)
        | refine k_extract (h := ?_)
        | (refine k_box (h := ?_); intro g)
        | (refine k_alloc (h := ?_); intro g)
        | refine k_store (h := ?_)
        | refine k_field_agg (h := ?_)
        | refine k_field_one (h := ?_)
        | refine k_build (h := ?_)
        | refine k_conv (h := ?_)
        | refine k_not (h := ?_)
        | refine k_eqb (h := ?_)
        | refine k_neb (h := ?_)
        | refine k_eqs (h := ?_)
        | refine k_nes (h := ?_)
        | refine k_pick_t (h := ?_)
        | refine k_pick_f (h := ?_)
        | refine k_nilCheck (h := ?_)
        | refine k_makeFunc (h := ?_)
        | refine k_shl (h := ?_)
        | refine k_shr (h := ?_)
        | refine k_neg (h := ?_)
        | refine k_index_arr (h := ?_)
        | refine k_len_slice (h := ?_)
        | refine k_quo (h := ?_)
        | refine k_rem (h := ?_)
        | (refine k_buildSlice (h := ?_); intro g)
        | refine k_indexAddr_arr (h := ?_)
        | refine c_true (h := ?_)
        | refine c_false (h := ?_)
        | refine k_len_str (h := ?_)
        | refine k_str_add (h := ?_)
        | refine k_str_eq (h := ?_)
        | refine k_str_ne (h := ?_)
        | refine k_index_str (h := ?_)
        | refine k_slice_hi (h := ?_)
        | refine k_slice_lo (h := ?_)
        | refine k_slice_lh (h := ?_)
        | refine k_slice_all (h := ?_)
        | refine k_max (h := ?_)
        | (refine s_ask (by eq_refl) (by eq_refl) (evO_eq (by eq_refl)) (fun hask => ?_) (fun hask => ?_))
        | (refine c_split (by eq_refl) (fun hif => ?_) (fun hif => ?_))
      )
    all_goals refine hQ _ _ (ret1 rfl (by (first | exact v_tmp | exact v_one | exact v_agg)) ?_)
    all_goals rfl
  have e1 : arith .gtr .i64 (s.length : Int) 40 = some (.bool false) := by simp only [arith, Option.some.injEq, Value.bool.injEq, decide_eq_false_iff_not]; omega
  have hex : ∀ sg, (cutSign s).1 = sg → ∀ a : Fx, (candR s).1 = a → ∀ b c, decide ((candR s).2 = 0) = b → decide (textF a = s) = c → okR s = (b && c) := by
    rintro sg - a rfl b c rfl rfl
    unfold okR; rw [decide_eq_true h40, Bool.true_and]
  generalize hok : okR s = ok at *
  refine pure_q Tryd.func9 rfl Tryd.ntmps9 rfl rfl (fun w0 Q hQ => ?_)
  repeat (
    first
      | refine j_seq_k (fun N hN => ?_)
      | refine j_text ?_
      | refine j_draw (id := 14) [] (by kernel_rfl) (by kernel_rfl) ?_
      | refine j_block ?_
      | refine j_skip ?_
      | refine j_ret ?_
      | refine j_exit ?_
      | refine s_nil (show X _ _ _ _ _ from ?_)
      | (refine x_next hN ?_; clear hN N)
      | (refine x_then_ret ?_; clear hN N)
      | (refine x_then_exit ?_; clear hN N)
      | refine x_block ?_
      | refine x_block_ret ?_
      | refine x_block_hit ?_
      | refine x_block_miss (by eq_refl) ?_
      | refine k_skip (h := ?_)
      | refine k_skip0 (h := ?_)
      | refine k_fieldAddr (h := ?_)
      | refine k_load_one (h := ?_)
      | refine k_load_agg (h := ?_)
      | refine k_bin (h := ?_)
      | refine k_move (h := ?_)
      | refine k_assign (h := ?_)
      | refine k_extract (h := ?_)
      | (refine k_box (h := ?_); intro g)
      | (refine k_alloc (h := ?_); intro g)
      | refine k_store (h := ?_)
      | refine k_field_agg (h := ?_)
      | refine k_field_one (h := ?_)
      | refine k_build (h := ?_)
      | refine k_conv (h := ?_)
      | refine k_not (h := ?_)
      | refine k_eqb (h := ?_)
      | refine k_neb (h := ?_)
      | refine k_eqs (h := ?_)
      | refine k_nes (h := ?_)
      | refine k_pick_t (h := ?_)
      | refine k_pick_f (h := ?_)
      | refine k_nilCheck (h := ?_)
      | refine k_makeFunc (h := ?_)
      | refine k_shl (h := ?_)
      | refine k_shr (h := ?_)
      | refine k_neg (h := ?_)
      | refine k_index_arr (h := ?_)
      | refine k_len_slice (h := ?_)
      | refine k_quo (h := ?_)
      | refine k_rem (h := ?_)
      | (refine k_buildSlice (h := ?_); intro g)
      | refine k_indexAddr_arr (h := ?_)
      | refine c_true (h := ?_)
      | refine c_false (h := ?_)
      | refine k_len_str (h := ?_)
      | refine k_str_add (h := ?_)
      | refine k_str_eq (h := ?_)
      | refine k_str_ne (h := ?_)
      | refine k_index_str (h := ?_)
      | refine k_slice_hi (h := ?_)
      | refine k_slice_lo (h := ?_)
      | refine k_slice_lh (h := ?_)
      | refine k_slice_all (h := ?_)
      | refine k_max (h := ?_)
      | (refine s_ask (by eq_refl) (by eq_refl) (evO_eq (by eq_refl)) (fun hask => ?_) (fun hask => ?_))
      | (refine c_split (by eq_refl) (fun hif => ?_) (fun hif => ?_))
    )
  rename_i g_1
  refine j_rem 0 rfl (j_rem 2 rfl (j_rem 3 rfl (j_rem 4 rfl ?_)))
  refine j_loop_k (fun m l L => ∃ (k : Nat) (rest : List (Nat × Value)), k + m = s.length ∧ l = (4, .int .i64 (k : Int)) :: (3, .pointer (some ⟨g, 0, none⟩)) :: (2, .pointer (some ⟨g_1, 0, none⟩)) :: (0, .string (B s)) :: rest ∧
    L = [(g, [.int .u64 (numD 340282366920938463463374607431768211456 (s.take k) 0 / 18446744073709551616 : Nat), .int .u64 (numD 340282366920938463463374607431768211456 (s.take k) 0 % 18446744073709551616 : Nat)], 47), (g_1, [.int .i64 0, .int .u64 0, .bool false], 29)]) s.length ?_ ?_
  · have z : numD 340282366920938463463374607431768211456 (s.take 0) 0 = 0 := rfl
    refine ⟨0, _, Nat.zero_add _, rfl, ?_⟩
    rw [z]; rfl
  rintro m l L N ⟨k, rest, hk, rfl, rfl⟩ hN
  by_cases h : k < s.length
  · have e2 : arith .lss .i64 (k : Int) (s.length : Int) = some (.bool true) := by simp only [arith, Option.some.injEq, Value.bool.injEq, decide_eq_true_eq]; omega
    have e3 : idxS s (k : Int) = some ((s[k]).toNat : Int) := by
      unfold idxS; rw [if_pos (by omega), Int.toNat_natCast, List.getElem?_eq_getElem h]
    have e7 : arith .add .i64 (k : Int) 1 = some (.int .i64 ((k + 1 : Nat) : Int)) := by simp only [arith, IntKind.wrap_i64, Option.some.injEq, Value.int.injEq, true_and]; omega
    have hst := take_step s k h
    have hlt := numD_lt (s.take k) 0 340282366920938463463374607431768211456 (by decide)
    obtain ⟨n, hnn⟩ : ∃ n, numD 340282366920938463463374607431768211456 (s.take k) 0 = n := ⟨_, rfl⟩
    rw [hnn] at hst hlt
    rw [hnn]
    clear hex hok hnn
    generalize s[k] = c at *
    have hc256 : c.toNat < 256 := UInt8.toNat_lt c
    have hnd : isd c = false → arith .lss .u64 16 16 = some (.bool false) := fun _ => rfl
    have e16 : arith .lss .u64 16 16 = some (.bool false) := rfl
    have hcase : c.toNat < 48 ∨ (48 ≤ c.toNat ∧ c.toNat ≤ 57) ∨ (57 < c.toNat ∧ c.toNat < 97) ∨ (97 ≤ c.toNat ∧ c.toNat ≤ 102) ∨ 102 < c.toNat := by omega
    have hw : IntKind.u64.wrap ((dv c : Nat) : Int) = ((dv c : Nat) : Int) := by have := dv_lt c; rw [IntKind.wrap_u64]; omega
    have pf := par_facts n (dv c) hlt (dv_lt _)
    clear hnd
    rcases hcase with hc | hc | hc | hc | hc
    · have hi : isd c = false := by unfold isd; simp; omega
      rw [hi, if_neg (by decide)] at hst
      clear pf
      have c1 : arith .geq .u8 (c.toNat : Int) 48 = some (.bool false) := by simp only [arith, Option.some.injEq, Value.bool.injEq, decide_eq_false_iff_not]; omega
      have c3 : arith .geq .u8 (c.toNat : Int) 97 = some (.bool false) := by simp only [arith, Option.some.injEq, Value.bool.injEq, decide_eq_false_iff_not]; omega
      repeat (
        first
          | (refine k_conv (h := ?_); rw [hw])
          | refine j_seq_k (fun N hN => ?_)
          | refine j_text ?_
          | refine j_draw (id := 14) [] (by kernel_rfl) (by kernel_rfl) ?_
          | refine j_block ?_
          | refine j_skip ?_
          | refine j_ret ?_
          | refine j_exit ?_
          | refine s_nil (show X _ _ _ _ _ from ?_)
          | (refine x_next hN ?_; clear hN N)
          | (refine x_then_ret ?_; clear hN N)
          | (refine x_then_exit ?_; clear hN N)
          | refine x_block ?_
          | refine x_block_ret ?_
          | refine x_block_hit ?_
          | refine x_block_miss (by eq_refl) ?_
          | refine k_skip (h := ?_)
          | refine k_skip0 (h := ?_)
          | refine k_fieldAddr (h := ?_)
          | refine k_load_one (h := ?_)
          | refine k_load_agg (h := ?_)
          | refine k_bin (h := ?_)
          | refine k_move (h := ?_)
          | refine k_assign (h := ?_)
          | refine k_extract (h := ?_)
          | (refine k_box (h := ?_); intro g)
          | (refine k_alloc (h := ?_); intro g)
          | refine k_store (h := ?_)
          | refine k_field_agg (h := ?_)
          | refine k_field_one (h := ?_)
          | refine k_build (h := ?_)
          | refine k_conv (h := ?_)
          | refine k_not (h := ?_)
          | refine k_eqb (h := ?_)
          | refine k_neb (h := ?_)
          | refine k_eqs (h := ?_)
          | refine k_nes (h := ?_)
          | refine k_pick_t (h := ?_)
          | refine k_pick_f (h := ?_)
          | refine k_nilCheck (h := ?_)
          | refine k_makeFunc (h := ?_)
          | refine k_shl (h := ?_)
          | refine k_shr (h := ?_)
          | refine k_neg (h := ?_)
          | refine k_index_arr (h := ?_)
          | refine k_len_slice (h := ?_)
          | refine k_quo (h := ?_)
          | refine k_rem (h := ?_)
          | (refine k_buildSlice (h := ?_); intro g)
          | refine k_indexAddr_arr (h := ?_)
          | refine c_true (h := ?_)
          | refine c_false (h := ?_)
          | refine k_len_str (h := ?_)
          | refine k_str_add (h := ?_)
          | refine k_str_eq (h := ?_)
          | refine k_str_ne (h := ?_)
          | refine k_index_str (h := ?_)
          | refine k_slice_hi (h := ?_)
          | refine k_slice_lo (h := ?_)
          | refine k_slice_lh (h := ?_)
          | refine k_slice_all (h := ?_)
          | refine k_max (h := ?_)
          | (refine s_ask (by eq_refl) (by eq_refl) (evO_eq (by eq_refl)) (fun hask => ?_) (fun hask => ?_))
          | (refine c_split (by eq_refl) (fun hif => ?_) (fun hif => ?_))
        )
      refine x_rem 0 rfl (x_rem 2 rfl (x_rem 3 rfl (x_rem 4 rfl ?_)))
      exact hN (m - 1) _ _ (by omega) ⟨k + 1, _, by omega, rfl, by rw [hst]⟩
    · have hi : isd c = true := by unfold isd; simp; omega
      rw [hi, if_pos rfl] at hst
      obtain ⟨p1, p2, p3, p4, p5⟩ := pf
      have hd : dv c = c.toNat - 48 := by unfold dv; rw [if_pos hc]
      have s1 : arith .sub .u8 (c.toNat : Int) 48 = some (.int .u8 ((dv c : Nat) : Int)) := by simp only [arith, Option.some.injEq, Value.int.injEq, true_and]; rw [wrap8 _ (by omega), hd]; omega
      have l16 : arith .lss .u64 ((dv c : Nat) : Int) 16 = some (.bool true) := by have := dv_lt c; simp only [arith, Option.some.injEq, Value.bool.injEq, decide_eq_true_eq]; omega
      have c1 : arith .geq .u8 (c.toNat : Int) 48 = some (.bool true) := by simp only [arith, Option.some.injEq, Value.bool.injEq, decide_eq_true_eq]; omega
      have c2 : arith .leq .u8 (c.toNat : Int) 57 = some (.bool true) := by simp only [arith, Option.some.injEq, Value.bool.injEq, decide_eq_true_eq]; omega
      have c3 : arith .geq .u8 (c.toNat : Int) 97 = some (.bool false) := by simp only [arith, Option.some.injEq, Value.bool.injEq, decide_eq_false_iff_not]; omega
      rw [← hst] at p3 p5
      clear hd hc hst
      obtain ⟨n', hn'⟩ : ∃ n', numD 340282366920938463463374607431768211456 (s.take (k + 1)) 0 = n' := ⟨_, rfl⟩
      rw [hn'] at p3 p5
      generalize dv c = D at *
      repeat (
        first
          | (refine k_conv (h := ?_); rw [hw])
          | refine j_seq_k (fun N hN => ?_)
          | refine j_text ?_
          | refine j_draw (id := 14) [] (by kernel_rfl) (by kernel_rfl) ?_
          | refine j_block ?_
          | refine j_skip ?_
          | refine j_ret ?_
          | refine j_exit ?_
          | refine s_nil (show X _ _ _ _ _ from ?_)
          | (refine x_next hN ?_; clear hN N)
          | (refine x_then_ret ?_; clear hN N)
          | (refine x_then_exit ?_; clear hN N)
          | refine x_block ?_
          | refine x_block_ret ?_
          | refine x_block_hit ?_
          | refine x_block_miss (by eq_refl) ?_
          | refine k_skip (h := ?_)
          | refine k_skip0 (h := ?_)
          | refine k_fieldAddr (h := ?_)
          | refine k_load_one (h := ?_)
          | refine k_load_agg (h := ?_)
          | refine k_bin (h := ?_)
          | refine k_move (h := ?_)
          | refine k_assign (h := ?_)
          | refine k_extract (h := ?_)
          | (refine k_box (h := ?_); intro g)
          | (refine k_alloc (h := ?_); intro g)
          | refine k_store (h := ?_)
          | refine k_field_agg (h := ?_)
          | refine k_field_one (h := ?_)
          | refine k_build (h := ?_)
          | refine k_conv (h := ?_)
          | refine k_not (h := ?_)
          | refine k_eqb (h := ?_)
          | refine k_neb (h := ?_)
          | refine k_eqs (h := ?_)
          | refine k_nes (h := ?_)
          | refine k_pick_t (h := ?_)
          | refine k_pick_f (h := ?_)
          | refine k_nilCheck (h := ?_)
          | refine k_makeFunc (h := ?_)
          | refine k_shl (h := ?_)
          | refine k_shr (h := ?_)
          | refine k_neg (h := ?_)
          | refine k_index_arr (h := ?_)
          | refine k_len_slice (h := ?_)
          | refine k_quo (h := ?_)
          | refine k_rem (h := ?_)
          | (refine k_buildSlice (h := ?_); intro g)
          | refine k_indexAddr_arr (h := ?_)
          | refine c_true (h := ?_)
          | refine c_false (h := ?_)
          | refine k_len_str (h := ?_)
          | refine k_str_add (h := ?_)
          | refine k_str_eq (h := ?_)
          | refine k_str_ne (h := ?_)
          | refine k_index_str (h := ?_)
          | refine k_slice_hi (h := ?_)
          | refine k_slice_lo (h := ?_)
          | refine k_slice_lh (h := ?_)
          | refine k_slice_all (h := ?_)
          | refine k_max (h := ?_)
          | (refine s_ask (by eq_refl) (by eq_refl) (evO_eq (by eq_refl)) (fun hask => ?_) (fun hask => ?_))
          | (refine c_split (by eq_refl) (fun hif => ?_) (fun hif => ?_))
        )
      refine x_rem 0 rfl (x_rem 2 rfl (x_rem 3 rfl (x_rem 4 rfl ?_)))
      exact hN (m - 1) _ _ (by omega) ⟨k + 1, _, by omega, rfl, by rw [hn']⟩
    · have hi : isd c = false := by unfold isd; simp; omega
      rw [hi, if_neg (by decide)] at hst
      clear pf
      have c1 : arith .geq .u8 (c.toNat : Int) 48 = some (.bool true) := by simp only [arith, Option.some.injEq, Value.bool.injEq, decide_eq_true_eq]; omega
      have c2 : arith .leq .u8 (c.toNat : Int) 57 = some (.bool false) := by simp only [arith, Option.some.injEq, Value.bool.injEq, decide_eq_false_iff_not]; omega
      have c3 : arith .geq .u8 (c.toNat : Int) 97 = some (.bool false) := by simp only [arith, Option.some.injEq, Value.bool.injEq, decide_eq_false_iff_not]; omega
      repeat (
        first
          | (refine k_conv (h := ?_); rw [hw])
          | refine j_seq_k (fun N hN => ?_)
          | refine j_text ?_
          | refine j_draw (id := 14) [] (by kernel_rfl) (by kernel_rfl) ?_
          | refine j_block ?_
          | refine j_skip ?_
          | refine j_ret ?_
          | refine j_exit ?_
          | refine s_nil (show X _ _ _ _ _ from ?_)
          | (refine x_next hN ?_; clear hN N)
          | (refine x_then_ret ?_; clear hN N)
          | (refine x_then_exit ?_; clear hN N)
          | refine x_block ?_
          | refine x_block_ret ?_
          | refine x_block_hit ?_
          | refine x_block_miss (by eq_refl) ?_
          | refine k_skip (h := ?_)
          | refine k_skip0 (h := ?_)
          | refine k_fieldAddr (h := ?_)
          | refine k_load_one (h := ?_)
          | refine k_load_agg (h := ?_)
          | refine k_bin (h := ?_)
          | refine k_move (h := ?_)
          | refine k_assign (h := ?_)
          | refine k_extract (h := ?_)
          | (refine k_box (h := ?_); intro g)
          | (refine k_alloc (h := ?_); intro g)
          | refine k_store (h := ?_)
          | refine k_field_agg (h := ?_)
          | refine k_field_one (h := ?_)
          | refine k_build (h := ?_)
          | refine k_conv (h := ?_)
          | refine k_not (h := ?_)
          | refine k_eqb (h := ?_)
          | refine k_neb (h := ?_)
          | refine k_eqs (h := ?_)
          | refine k_nes (h := ?_)
          | refine k_pick_t (h := ?_)
          | refine k_pick_f (h := ?_)
          | refine k_nilCheck (h := ?_)
          | refine k_makeFunc (h := ?_)
          | refine k_shl (h := ?_)
          | refine k_shr (h := ?_)
          | refine k_neg (h := ?_)
          | refine k_index_arr (h := ?_)
          | refine k_len_slice (h := ?_)
          | refine k_quo (h := ?_)
          | refine k_rem (h := ?_)
          | (refine k_buildSlice (h := ?_); intro g)
          | refine k_indexAddr_arr (h := ?_)
          | refine c_true (h := ?_)
          | refine c_false (h := ?_)
          | refine k_len_str (h := ?_)
          | refine k_str_add (h := ?_)
          | refine k_str_eq (h := ?_)
          | refine k_str_ne (h := ?_)
          | refine k_index_str (h := ?_)
          | refine k_slice_hi (h := ?_)
          | refine k_slice_lo (h := ?_)
          | refine k_slice_lh (h := ?_)
          | refine k_slice_all (h := ?_)
          | refine k_max (h := ?_)
          | (refine s_ask (by eq_refl) (by eq_refl) (evO_eq (by eq_refl)) (fun hask => ?_) (fun hask => ?_))
          | (refine c_split (by eq_refl) (fun hif => ?_) (fun hif => ?_))
        )
      refine x_rem 0 rfl (x_rem 2 rfl (x_rem 3 rfl (x_rem 4 rfl ?_)))
      exact hN (m - 1) _ _ (by omega) ⟨k + 1, _, by omega, rfl, by rw [hst]⟩
    · have hi : isd c = true := by unfold isd; simp; omega
      rw [hi, if_pos rfl] at hst
      obtain ⟨p1, p2, p3, p4, p5⟩ := pf
      have hd : dv c = c.toNat - 87 := by unfold dv; rw [if_neg (by omega), if_pos hc]
      have s1 : arith .sub .u8 (c.toNat : Int) 97 = some (.int .u8 ((dv c - 10 : Nat) : Int)) := by simp only [arith, Option.some.injEq, Value.int.injEq, true_and]; rw [wrap8 _ (by omega), hd]; omega
      clear hw
      have hw : IntKind.u64.wrap ((dv c - 10 : Nat) : Int) = ((dv c - 10 : Nat) : Int) := by have := dv_lt c; rw [IntKind.wrap_u64]; omega
      have a10 : arith .add .u64 ((dv c - 10 : Nat) : Int) 10 = some (.int .u64 ((dv c : Nat) : Int)) := by have := dv_lt c; simp only [arith, IntKind.wrap_u64, Option.some.injEq, Value.int.injEq, true_and]; omega
      have l16 : arith .lss .u64 ((dv c : Nat) : Int) 16 = some (.bool true) := by have := dv_lt c; simp only [arith, Option.some.injEq, Value.bool.injEq, decide_eq_true_eq]; omega
      have c1 : arith .geq .u8 (c.toNat : Int) 48 = some (.bool true) := by simp only [arith, Option.some.injEq, Value.bool.injEq, decide_eq_true_eq]; omega
      have c2 : arith .leq .u8 (c.toNat : Int) 57 = some (.bool false) := by simp only [arith, Option.some.injEq, Value.bool.injEq, decide_eq_false_iff_not]; omega
      have c3 : arith .geq .u8 (c.toNat : Int) 97 = some (.bool true) := by simp only [arith, Option.some.injEq, Value.bool.injEq, decide_eq_true_eq]; omega
      have c4 : arith .leq .u8 (c.toNat : Int) 102 = some (.bool true) := by simp only [arith, Option.some.injEq, Value.bool.injEq, decide_eq_true_eq]; omega
      rw [← hst] at p3 p5
      clear hd hc hst
      obtain ⟨n', hn'⟩ : ∃ n', numD 340282366920938463463374607431768211456 (s.take (k + 1)) 0 = n' := ⟨_, rfl⟩
      rw [hn'] at p3 p5
      generalize dv c = D at *
      generalize D - 10 = D1 at *
      repeat (
        first
          | (refine k_conv (h := ?_); rw [hw])
          | refine j_seq_k (fun N hN => ?_)
          | refine j_text ?_
          | refine j_draw (id := 14) [] (by kernel_rfl) (by kernel_rfl) ?_
          | refine j_block ?_
          | refine j_skip ?_
          | refine j_ret ?_
          | refine j_exit ?_
          | refine s_nil (show X _ _ _ _ _ from ?_)
          | (refine x_next hN ?_; clear hN N)
          | (refine x_then_ret ?_; clear hN N)
          | (refine x_then_exit ?_; clear hN N)
          | refine x_block ?_
          | refine x_block_ret ?_
          | refine x_block_hit ?_
          | refine x_block_miss (by eq_refl) ?_
          | refine k_skip (h := ?_)
          | refine k_skip0 (h := ?_)
          | refine k_fieldAddr (h := ?_)
          | refine k_load_one (h := ?_)
          | refine k_load_agg (h := ?_)
          | refine k_bin (h := ?_)
          | refine k_move (h := ?_)
          | refine k_assign (h := ?_)
          | refine k_extract (h := ?_)
          | (refine k_box (h := ?_); intro g)
          | (refine k_alloc (h := ?_); intro g)
          | refine k_store (h := ?_)
          | refine k_field_agg (h := ?_)
          | refine k_field_one (h := ?_)
          | refine k_build (h := ?_)
          | refine k_conv (h := ?_)
          | refine k_not (h := ?_)
          | refine k_eqb (h := ?_)
          | refine k_neb (h := ?_)
          | refine k_eqs (h := ?_)
          | refine k_nes (h := ?_)
          | refine k_pick_t (h := ?_)
          | refine k_pick_f (h := ?_)
          | refine k_nilCheck (h := ?_)
          | refine k_makeFunc (h := ?_)
          | refine k_shl (h := ?_)
          | refine k_shr (h := ?_)
          | refine k_neg (h := ?_)
          | refine k_index_arr (h := ?_)
          | refine k_len_slice (h := ?_)
          | refine k_quo (h := ?_)
          | refine k_rem (h := ?_)
          | (refine k_buildSlice (h := ?_); intro g)
          | refine k_indexAddr_arr (h := ?_)
          | refine c_true (h := ?_)
          | refine c_false (h := ?_)
          | refine k_len_str (h := ?_)
          | refine k_str_add (h := ?_)
          | refine k_str_eq (h := ?_)
          | refine k_str_ne (h := ?_)
          | refine k_index_str (h := ?_)
          | refine k_slice_hi (h := ?_)
          | refine k_slice_lo (h := ?_)
          | refine k_slice_lh (h := ?_)
          | refine k_slice_all (h := ?_)
          | refine k_max (h := ?_)
          | (refine s_ask (by eq_refl) (by eq_refl) (evO_eq (by eq_refl)) (fun hask => ?_) (fun hask => ?_))
          | (refine c_split (by eq_refl) (fun hif => ?_) (fun hif => ?_))
        )
      refine x_rem 0 rfl (x_rem 2 rfl (x_rem 3 rfl (x_rem 4 rfl ?_)))
      exact hN (m - 1) _ _ (by omega) ⟨k + 1, _, by omega, rfl, by rw [hn']⟩
    · have hi : isd c = false := by unfold isd; simp; omega
      rw [hi, if_neg (by decide)] at hst
      clear pf
      have c1 : arith .geq .u8 (c.toNat : Int) 48 = some (.bool true) := by simp only [arith, Option.some.injEq, Value.bool.injEq, decide_eq_true_eq]; omega
      have c2 : arith .leq .u8 (c.toNat : Int) 57 = some (.bool false) := by simp only [arith, Option.some.injEq, Value.bool.injEq, decide_eq_false_iff_not]; omega
      have c3 : arith .geq .u8 (c.toNat : Int) 97 = some (.bool true) := by simp only [arith, Option.some.injEq, Value.bool.injEq, decide_eq_true_eq]; omega
      have c4 : arith .leq .u8 (c.toNat : Int) 102 = some (.bool false) := by simp only [arith, Option.some.injEq, Value.bool.injEq, decide_eq_false_iff_not]; omega
      repeat (
        first
          | (refine k_conv (h := ?_); rw [hw])
          | refine j_seq_k (fun N hN => ?_)
          | refine j_text ?_
          | refine j_draw (id := 14) [] (by kernel_rfl) (by kernel_rfl) ?_
          | refine j_block ?_
          | refine j_skip ?_
          | refine j_ret ?_
          | refine j_exit ?_
          | refine s_nil (show X _ _ _ _ _ from ?_)
          | (refine x_next hN ?_; clear hN N)
          | (refine x_then_ret ?_; clear hN N)
          | (refine x_then_exit ?_; clear hN N)
          | refine x_block ?_
          | refine x_block_ret ?_
          | refine x_block_hit ?_
          | refine x_block_miss (by eq_refl) ?_
          | refine k_skip (h := ?_)
          | refine k_skip0 (h := ?_)
          | refine k_fieldAddr (h := ?_)
          | refine k_load_one (h := ?_)
          | refine k_load_agg (h := ?_)
          | refine k_bin (h := ?_)
          | refine k_move (h := ?_)
          | refine k_assign (h := ?_)
          | refine k_extract (h := ?_)
          | (refine k_box (h := ?_); intro g)
          | (refine k_alloc (h := ?_); intro g)
          | refine k_store (h := ?_)
          | refine k_field_agg (h := ?_)
          | refine k_field_one (h := ?_)
          | refine k_build (h := ?_)
          | refine k_conv (h := ?_)
          | refine k_not (h := ?_)
          | refine k_eqb (h := ?_)
          | refine k_neb (h := ?_)
          | refine k_eqs (h := ?_)
          | refine k_nes (h := ?_)
          | refine k_pick_t (h := ?_)
          | refine k_pick_f (h := ?_)
          | refine k_nilCheck (h := ?_)
          | refine k_makeFunc (h := ?_)
          | refine k_shl (h := ?_)
          | refine k_shr (h := ?_)
          | refine k_neg (h := ?_)
          | refine k_index_arr (h := ?_)
          | refine k_len_slice (h := ?_)
          | refine k_quo (h := ?_)
          | refine k_rem (h := ?_)
          | (refine k_buildSlice (h := ?_); intro g)
          | refine k_indexAddr_arr (h := ?_)
          | refine c_true (h := ?_)
          | refine c_false (h := ?_)
          | refine k_len_str (h := ?_)
          | refine k_str_add (h := ?_)
          | refine k_str_eq (h := ?_)
          | refine k_str_ne (h := ?_)
          | refine k_index_str (h := ?_)
          | refine k_slice_hi (h := ?_)
          | refine k_slice_lo (h := ?_)
          | refine k_slice_lh (h := ?_)
          | refine k_slice_all (h := ?_)
          | refine k_max (h := ?_)
          | (refine s_ask (by eq_refl) (by eq_refl) (evO_eq (by eq_refl)) (fun hask => ?_) (fun hask => ?_))
          | (refine c_split (by eq_refl) (fun hif => ?_) (fun hif => ?_))
        )
      refine x_rem 0 rfl (x_rem 2 rfl (x_rem 3 rfl (x_rem 4 rfl ?_)))
      exact hN (m - 1) _ _ (by omega) ⟨k + 1, _, by omega, rfl, by rw [hst]⟩
  · have hk2 : k = s.length := by omega
    subst hk2
    have e2 : arith .lss .i64 (s.length : Int) (s.length : Int) = some (.bool false) := by simp [arith]
    rw [List.take_length]
    obtain ⟨T, hT⟩ : ∃ T, twoOf (mD s) (numD_lt _ _ _ (by decide)) = T := ⟨_, rfl⟩
    have t1 : ((numD 340282366920938463463374607431768211456 s 0 / 18446744073709551616 : Nat) : Int) = T.hi := by rw [← hT]; rfl
    have t2 : ((numD 340282366920938463463374607431768211456 s 0 % 18446744073709551616 : Nat) : Int) = T.lo := by rw [← hT]; rfl
    rw [t1, t2]
    clear t1 t2
    obtain ⟨sg, hsg⟩ : ∃ sg, (cutSign s).1 = sg := ⟨_, rfl⟩
    have hsd := signed_pure sg ⟨zTwo, T⟩
    have hc : candR s = told ⟨zTwo, T⟩ sg := by unfold candR; rw [hT, hsg]
    rw [← hc] at hsd
    have hr := rtext_pure (candR s).1
    have hex' := hex sg hsg (candR s).1 rfl
    clear hc hT hok hex
    generalize candR s = C at *
    obtain ⟨a, er⟩ := C
    dsimp only at *
    obtain ⟨b, hb⟩ : ∃ b, decide (er = 0) = b := ⟨_, rfl⟩
    obtain ⟨c, hc⟩ : ∃ c, decide (textF a = s) = c := ⟨_, rfl⟩
    have hx' := hex' b c hb hc
    clear hex'
    have e3 : arith .neq .i64 er 0 = some (.bool (!b)) := by simp only [arith, ← hb]; rfl
    generalize textF a = TF at *
    have z1 : zTwo.hi = 0 := rfl
    have z2 : zTwo.lo = 0 := rfl
    cases s with
    | nil =>
      have hsg0 : sg = false := hsg.symm
      subst hsg0
      have e4 : arith .gtr .i64 ((([] : List UInt8).length : Nat) : Int) 0 = some (.bool false) := rfl
      clear hsg
      repeat' (
        first
          | refine j_seq_k (fun N hN => ?_)
          | refine j_text ?_
          | refine j_draw (id := 14) [] (by kernel_rfl) (by kernel_rfl) ?_
          | refine j_block ?_
          | refine j_skip ?_
          | refine j_ret ?_
          | refine j_exit ?_
          | refine s_nil (show X _ _ _ _ _ from ?_)
          | (refine x_next hN ?_; clear hN N)
          | (refine x_then_ret ?_; clear hN N)
          | (refine x_then_exit ?_; clear hN N)
          | refine x_block ?_
          | refine x_block_ret ?_
          | refine x_block_hit ?_
          | refine x_block_miss (by eq_refl) ?_
          | refine k_skip (h := ?_)
          | refine k_skip0 (h := ?_)
          | refine k_fieldAddr (h := ?_)
          | refine k_load_one (h := ?_)
          | refine k_load_agg (h := ?_)
          | refine k_bin (h := ?_)
          | refine k_move (h := ?_)
          | refine k_assign (h := ?_)
          | refine k_extract (h := ?_)
          | refine k_call (hp := hsd) (h := ?_)
          | refine k_call (hp := hr) (h := ?_)
          | (refine k_box (h := ?_); intro g)
          | (refine k_alloc (h := ?_); intro g)
          | refine k_store (h := ?_)
          | refine k_field_agg (h := ?_)
          | refine k_field_one (h := ?_)
          | refine k_build (h := ?_)
          | refine k_conv (h := ?_)
          | refine k_not (h := ?_)
          | refine k_eqb (h := ?_)
          | refine k_neb (h := ?_)
          | refine k_eqs (h := ?_)
          | refine k_nes (h := ?_)
          | refine k_pick_t (h := ?_)
          | refine k_pick_f (h := ?_)
          | refine k_nilCheck (h := ?_)
          | refine k_makeFunc (h := ?_)
          | refine k_shl (h := ?_)
          | refine k_shr (h := ?_)
          | refine k_neg (h := ?_)
          | refine k_index_arr (h := ?_)
          | refine k_len_slice (h := ?_)
          | refine k_quo (h := ?_)
          | refine k_rem (h := ?_)
          | (refine k_buildSlice (h := ?_); intro g)
          | refine k_indexAddr_arr (h := ?_)
          | refine c_true (h := ?_)
          | refine c_false (h := ?_)
          | refine k_len_str (h := ?_)
          | refine k_str_add (h := ?_)
          | refine k_str_eq (h := ?_)
          | refine k_str_ne (h := ?_)
          | refine k_index_str (h := ?_)
          | refine k_slice_hi (h := ?_)
          | refine k_slice_lo (h := ?_)
          | refine k_slice_lh (h := ?_)
          | refine k_slice_all (h := ?_)
          | refine k_max (h := ?_)
          | (refine s_ask (by eq_refl) (by eq_refl) (evO_eq (by eq_refl)) (fun hask => ?_) (fun hask => ?_))
          | (refine c_split (by eq_refl) (fun hif => ?_) (fun hif => ?_))
        )
      all_goals refine hQ _ _ (ret1 rfl (by (first | exact v_tmp | exact v_one | exact v_agg)) ?_)
      all_goals (clear hQ hsd hr hb hc e3; subst hx'; cases b <;> cases c <;> first | rfl | (exfalso; revert hask; decide) | (exfalso; revert hif; decide))
    | cons c0 r =>
      have e4 : arith .gtr .i64 (((c0 :: r : List UInt8).length : Nat) : Int) 0 = some (.bool true) := by
        simp only [arith, Option.some.injEq, Value.bool.injEq, decide_eq_true_eq, List.length_cons]; omega
      have e5 : idxS (c0 :: r) 0 = some (c0.toNat : Int) := rfl
      have e6 : arith .eql .u8 ((c0.toNat : Nat) : Int) 45 = some (.bool sg) := by
        simp only [arith, Option.some.injEq, Value.bool.injEq]
        rw [← hsg]
        by_cases h : c0 = 45
        · subst h; rfl
        · have h1 : (c0 == 45) = false := by simpa using h
          have h2 : (((c0.toNat : Nat) : Int) == 45) = false := by
            rw [beq_eq_false_iff_ne]; intro q; exact h (UInt8.toNat_inj.1 (show c0.toNat = 45 by omega))
          rw [h2]; show false = (if (c0 == 45) = true then (true, r) else (false, c0 :: r)).1
          rw [h1]; rfl
      clear hsg
      repeat' (
        first
          | refine j_seq_k (fun N hN => ?_)
          | refine j_text ?_
          | refine j_draw (id := 14) [] (by kernel_rfl) (by kernel_rfl) ?_
          | refine j_block ?_
          | refine j_skip ?_
          | refine j_ret ?_
          | refine j_exit ?_
          | refine s_nil (show X _ _ _ _ _ from ?_)
          | (refine x_next hN ?_; clear hN N)
          | (refine x_then_ret ?_; clear hN N)
          | (refine x_then_exit ?_; clear hN N)
          | refine x_block ?_
          | refine x_block_ret ?_
          | refine x_block_hit ?_
          | refine x_block_miss (by eq_refl) ?_
          | refine k_skip (h := ?_)
          | refine k_skip0 (h := ?_)
          | refine k_fieldAddr (h := ?_)
          | refine k_load_one (h := ?_)
          | refine k_load_agg (h := ?_)
          | refine k_bin (h := ?_)
          | refine k_move (h := ?_)
          | refine k_assign (h := ?_)
          | refine k_extract (h := ?_)
          | refine k_call (hp := hsd) (h := ?_)
          | refine k_call (hp := hr) (h := ?_)
          | (refine k_box (h := ?_); intro g)
          | (refine k_alloc (h := ?_); intro g)
          | refine k_store (h := ?_)
          | refine k_field_agg (h := ?_)
          | refine k_field_one (h := ?_)
          | refine k_build (h := ?_)
          | refine k_conv (h := ?_)
          | refine k_not (h := ?_)
          | refine k_eqb (h := ?_)
          | refine k_neb (h := ?_)
          | refine k_eqs (h := ?_)
          | refine k_nes (h := ?_)
          | refine k_pick_t (h := ?_)
          | refine k_pick_f (h := ?_)
          | refine k_nilCheck (h := ?_)
          | refine k_makeFunc (h := ?_)
          | refine k_shl (h := ?_)
          | refine k_shr (h := ?_)
          | refine k_neg (h := ?_)
          | refine k_index_arr (h := ?_)
          | refine k_len_slice (h := ?_)
          | refine k_quo (h := ?_)
          | refine k_rem (h := ?_)
          | (refine k_buildSlice (h := ?_); intro g)
          | refine k_indexAddr_arr (h := ?_)
          | refine c_true (h := ?_)
          | refine c_false (h := ?_)
          | refine k_len_str (h := ?_)
          | refine k_str_add (h := ?_)
          | refine k_str_eq (h := ?_)
          | refine k_str_ne (h := ?_)
          | refine k_index_str (h := ?_)
          | refine k_slice_hi (h := ?_)
          | refine k_slice_lo (h := ?_)
          | refine k_slice_lh (h := ?_)
          | refine k_slice_all (h := ?_)
          | refine k_max (h := ?_)
          | (refine s_ask (by eq_refl) (by eq_refl) (evO_eq (by eq_refl)) (fun hask => ?_) (fun hask => ?_))
          | (refine c_split (by eq_refl) (fun hif => ?_) (fun hif => ?_))
        )
      all_goals refine hQ _ _ (ret1 rfl (by (first | exact v_tmp | exact v_one | exact v_agg)) ?_)
      all_goals (clear hQ hsd hr hb hc e3; subst hx'; cases b <;> cases c <;> first | rfl | (exfalso; revert hask; decide) | (exfalso; revert hif; decide))
end Go.Proofs.YtmgfabfmnachoaaDoor.Own
