/- Numbers as text: the law HexaBack, as the code goes. -/
import Derived.Test.YtmgfabfmnachoaaDoorHxJ
namespace Go.Proofs.YtmgfabfmnachoaaDoor.Own
open Go Go.RowKit Go.Proofs Go.Proofs.YtmgfabfmnachoaaDoor.Plain Go.Proofs.YtmgfabfmnachoaaDoor.Hx
set_option linter.unusedVariables false
set_option linter.unusedSimpArgs false
set_option maxRecDepth 100000
set_option maxHeartbeats 4000000
theorem no_more_said (a : Fx) (h : mayF a = true) : saysF (textF a ++ [48]) (candF (textF a ++ [48])) = false :=
  (says_no fun b hb e => by rw [textF_may a h, textF_may b hb] at e; exact no_more _ _ _ _ _ _ e.symm).1
theorem no_zero_said (a : Fx) (h : mayF a = true) : saysF ([48] ++ textF a) (candF ([48] ++ textF a)) = false :=
  (says_no fun b hb e => by rw [textF_may a h, textF_may b hb] at e; exact no_zero _ _ _ _ _ _ e.symm).1
/-- another text says another number -/
theorem other_said (a : Fx) (t : List UInt8) (h : ¬ t = textF a) (hs : saysF t (candF t) = true) : ((parseF t).hi == a.hi && ((parseF t).lo == a.lo && true)) = false := by
  obtain ⟨b, hb, e, e2⟩ := says_iff hs
  rw [e2, Bool.and_true]
  apply Bool.eq_false_iff.2
  intro q
  rw [Bool.and_eq_true, beq_iff_eq, beq_iff_eq] at q
  have : b = a := by
    apply Fx.n_ext
    unfold Fx.n
    rw [q.1, q.2]
  subst this
  exact h e.symm
theorem set_bytes (s : List UInt8) (i : Nat) (c : UInt8) (z : Nat) (h : i < s.length) : (((bytesV s ++ List.replicate z (Value.int .u8 0)).set i (.int .u8 (c.toNat : Int))).drop 0).take s.length = bytesV (s.set i c) := by
  have hl : (bytesV s).length = s.length := by simp [bytesV]
  rw [List.drop_zero, List.set_append_left _ _ (by omega), List.take_left' (by rw [List.length_set, hl])]
  unfold bytesV
  rw [List.map_set]
theorem hexaBack_pure (a : Fx) (at_ by_ : Int) (h1 : 0 ≤ at_ ∧ at_ ≤ 255) (h2 : 0 ≤ by_ ∧ by_ ≤ 255) : Pure Tryd.prog 4 #[a.v, .int .u8 at_, .int .u8 by_] (.bool true) := by
  have hwk := awake_pure
  have hm := rmay_pure a
  obtain ⟨e, he⟩ : ∃ e, mayF a = e := ⟨_, rfl⟩
  rw [he] at hm
  have ht := text_pure a
  have tt : true = true := rfl; have ff : false = false := rfl; have nt : (!true) = false := rfl; have nf : (!false) = true := rfl
  cases e with
  | false =>
    rw [textF_not a (by rw [he]; decide)] at ht
    have d0 : decide (([] : List UInt8) = []) = true := rfl
    refine pure_q Tryd.func4 rfl Tryd.ntmps4 rfl rfl (fun w0 Q hQ => ?_)
    repeat' (
      first
        | refine j_seq_k (fun N hN => ?_)
        | refine j_text ?_
        | refine j_block ?_
        | refine j_skip ?_
        | refine j_ret ?_
        | refine j_exit ?_
        | refine s_nil (show X _ _ _ _ _ from ?_)
        | (refine x_next hN ?_; clear hN N)
        | (refine x_then_ret ?_; clear hN N)
        | (refine x_then_exit ?_; clear hN N)
        | refine x_block ?_
        | refine x_block_ret ?_
        | refine x_block_hit ?_
        | refine x_block_miss (by eq_refl) ?_
        | refine k_skip (h := ?_)
        | refine k_skip0 (h := ?_)
        | refine k_fieldAddr (h := ?_)
        | refine k_load_one (h := ?_)
        | refine k_load_agg (h := ?_)
        | refine k_bin (h := ?_)
        | refine k_move (h := ?_)
        | refine k_assign (h := ?_)
        | refine k_extract (h := ?_)
        | refine k_call (hp := hm) (h := ?_)
        | refine k_call (hp := hwk) (h := ?_)
        | refine k_call (hp := ht) (h := ?_)
        | (refine k_box (h := ?_); intro g)
        | (refine k_alloc (h := ?_); intro g)
        | refine k_store (h := ?_)
        | refine k_field_agg (h := ?_)
        | refine k_field_one (h := ?_)
        | refine k_build (h := ?_)
        | refine k_conv (h := ?_)
        | refine k_not (h := ?_)
        | refine k_eqb (h := ?_)
        | refine k_neb (h := ?_)
        | refine k_eqs (h := ?_)
        | refine k_nes (h := ?_)
        | refine k_pick_t (h := ?_)
        | refine k_pick_f (h := ?_)
        | refine k_nilCheck (h := ?_)
        | refine k_makeFunc (h := ?_)
        | refine k_shl (h := ?_)
        | refine k_shr (h := ?_)
        | refine k_neg (h := ?_)
        | refine k_index_arr (h := ?_)
        | refine k_len_slice (h := ?_)
        | refine k_quo (h := ?_)
        | refine k_rem (h := ?_)
        | (refine k_buildSlice (h := ?_); intro g)
        | refine k_indexAddr_arr (h := ?_)
        | refine c_true (h := ?_)
        | refine c_false (h := ?_)
        | refine k_len_str (h := ?_)
        | refine k_str_add (h := ?_)
        | refine k_str_eq (h := ?_)
        | refine k_str_ne (h := ?_)
        | refine k_index_str (h := ?_)
        | refine k_slice_hi (h := ?_)
        | refine k_slice_lo (h := ?_)
        | refine k_slice_lh (h := ?_)
        | refine k_slice_all (h := ?_)
        | refine k_max (h := ?_)
        | (refine s_ask (by eq_refl) (by eq_refl) (evO_eq (by eq_refl)) (fun hask => ?_) (fun hask => ?_))
        | (refine c_split (by eq_refl) (fun hif => ?_) (fun hif => ?_))
      )
    all_goals refine hQ _ _ (ret1 rfl (by (first | exact v_tmp | exact v_one | exact v_agg)) ?_)
    all_goals rfl
  | true =>
    obtain ⟨h18, h34⟩ := textF_len a he
    have hne : decide (textF a = []) = false := decide_eq_false (textF_ne a he)
    obtain ⟨p1, p2⟩ := parse_text a he
    have hp := fparse_pure (textF a) (by omega)
    rw [p1, p2] at hp
    have hmo := no_more_said a he
    have hzo := no_zero_said a he
    have hp1 := fparse_pure (textF a ++ [48]) (by simp; omega)
    have hp2 := fparse_pure ([48] ++ textF a) (by simp; omega)
    rw [hmo] at hp1
    rw [hzo] at hp2
    obtain ⟨i, hi, hrem⟩ : ∃ i : Nat, i < (textF a).length ∧ (IntKind.i64.wrap at_).tmod (((textF a).length : Nat) : Int) = (i : Int) := by
      refine ⟨at_.toNat % (textF a).length, Nat.mod_lt _ (by omega), ?_⟩
      have hww : IntKind.i64.wrap at_ = at_ := by rw [IntKind.wrap_i64]; omega
      rw [hww, Int.tmod_eq_emod_of_nonneg h1.1, Int.natCast_emod, Int.toNat_of_nonneg h1.1]
    have hz : ((((textF a).length : Nat) : Int) == 0) = false := by rw [beq_eq_false_iff_ne]; omega
    have hbi : 0 ≤ ((i : Nat) : Int) ∧ ((i : Nat) : Int) < (((textF a).length : Nat) : Int) := by omega
    have a1 := addS_ok (textF a) [48] (by simp; omega)
    have a2 := addS_ok [48] (textF a) (by simp; omega)
    obtain ⟨c, hc⟩ : ∃ c : UInt8, by_ = (c.toNat : Int) := ⟨UInt8.ofNat by_.toNat, by rw [UInt8.toNat_ofNat']; omega⟩
    subst hc
    have hset := fun z => set_bytes (textF a) i c z hi
    have hspl : ∀ z, Spl (bytesV (textF a) ++ List.replicate z (Value.int .u8 0)) (0 + ((i : Nat) : Int).toNat * 1) [Value.int .u8 (c.toNat : Int)] ((bytesV (textF a) ++ List.replicate z (Value.int .u8 0)).set i (.int .u8 (c.toNat : Int))) := fun z => by
      rw [show 0 + ((i : Nat) : Int).toNat * 1 = i by omega]
      exact spl_set _ _ _ (by simp [bytesV]; omega)
    have hlt : ((textF a).set i c).length = (textF a).length := List.length_set
    have hp3 := fparse_pure ((textF a).set i c) (by omega)
    have q1 : ((a.hi == a.hi) && ((a.lo == a.lo) && true)) = true := by simp
    have q2 : (!((a.hi == a.hi) && ((a.lo == a.lo) && true))) = false := by rw [q1]; rfl
    obtain ⟨e1, he1⟩ : ∃ e1, decide ((textF a).set i c = textF a) = e1 := ⟨_, rfl⟩
    obtain ⟨e2, he2⟩ : ∃ e2, saysF ((textF a).set i c) (candF ((textF a).set i c)) = e2 := ⟨_, rfl⟩
    rw [he2] at hp3
    have hot : e1 = false → e2 = true → ((parseF ((textF a).set i c)).hi == a.hi && ((parseF ((textF a).set i c)).lo == a.lo && true)) = false := by
      rintro rfl rfl
      exact other_said a _ (of_decide_eq_false he1) he2
    clear p1 p2 hmo hzo he2 he hi h1 h2
    generalize (textF a).set i c = t at *
    generalize textF a = s at *
    generalize parseF t = y at *
    generalize parseF (s ++ [48]) = y1 at *
    generalize parseF ([48] ++ s) = y2 at *
    cases e1 with
    | true =>
      refine pure_q Tryd.func4 rfl Tryd.ntmps4 rfl rfl (fun w0 Q hQ => ?_)
      repeat' (
        first
          | (refine k_str_bytes (h := ?_); intro g c2 z)
          | refine k_indexAddr (hb := hbi) (h := ?_)
          | refine k_store (hc := hspl _) (h := ?_)
          | refine k_bytes_str (hl := hlt) (hv := hset _) (h := ?_)
          | refine j_seq_k (fun N hN => ?_)
          | refine j_text ?_
          | refine j_block ?_
          | refine j_skip ?_
          | refine j_ret ?_
          | refine j_exit ?_
          | refine s_nil (show X _ _ _ _ _ from ?_)
          | (refine x_next hN ?_; clear hN N)
          | (refine x_then_ret ?_; clear hN N)
          | (refine x_then_exit ?_; clear hN N)
          | refine x_block ?_
          | refine x_block_ret ?_
          | refine x_block_hit ?_
          | refine x_block_miss (by eq_refl) ?_
          | refine k_skip (h := ?_)
          | refine k_skip0 (h := ?_)
          | refine k_fieldAddr (h := ?_)
          | refine k_load_one (h := ?_)
          | refine k_load_agg (h := ?_)
          | refine k_bin (h := ?_)
          | refine k_move (h := ?_)
          | refine k_assign (h := ?_)
          | refine k_extract (h := ?_)
          | refine k_call (hp := hm) (h := ?_)
          | refine k_call (hp := hwk) (h := ?_)
          | refine k_call (hp := ht) (h := ?_)
          | refine k_call (hp := hp) (h := ?_)
          | refine k_call (hp := hp1) (h := ?_)
          | refine k_call (hp := hp2) (h := ?_)
          | refine k_call (hp := hp3) (h := ?_)
          | (refine k_box (h := ?_); intro g)
          | (refine k_alloc (h := ?_); intro g)
          | refine k_store (h := ?_)
          | refine k_field_agg (h := ?_)
          | refine k_field_one (h := ?_)
          | refine k_build (h := ?_)
          | refine k_conv (h := ?_)
          | refine k_not (h := ?_)
          | refine k_eqb (h := ?_)
          | refine k_neb (h := ?_)
          | refine k_eqs (h := ?_)
          | refine k_nes (h := ?_)
          | refine k_pick_t (h := ?_)
          | refine k_pick_f (h := ?_)
          | refine k_nilCheck (h := ?_)
          | refine k_makeFunc (h := ?_)
          | refine k_shl (h := ?_)
          | refine k_shr (h := ?_)
          | refine k_neg (h := ?_)
          | refine k_index_arr (h := ?_)
          | refine k_len_slice (h := ?_)
          | refine k_quo (h := ?_)
          | refine k_rem (h := ?_)
          | (refine k_buildSlice (h := ?_); intro g)
          | refine k_indexAddr_arr (h := ?_)
          | refine c_true (h := ?_)
          | refine c_false (h := ?_)
          | refine k_len_str (h := ?_)
          | refine k_str_add (h := ?_)
          | refine k_str_eq (h := ?_)
          | refine k_str_ne (h := ?_)
          | refine k_index_str (h := ?_)
          | refine k_slice_hi (h := ?_)
          | refine k_slice_lo (h := ?_)
          | refine k_slice_lh (h := ?_)
          | refine k_slice_all (h := ?_)
          | refine k_max (h := ?_)
          | (refine s_ask (by eq_refl) (by eq_refl) (evO_eq (by eq_refl)) (fun hask => ?_) (fun hask => ?_))
          | (refine c_split (by eq_refl) (fun hif => ?_) (fun hif => ?_))
        )
      all_goals refine hQ _ _ (ret1 rfl (by (first | exact v_tmp | exact v_one | exact v_agg)) ?_)
      all_goals rfl
    | false =>
      cases e2 with
      | false =>
        clear hot
        refine pure_q Tryd.func4 rfl Tryd.ntmps4 rfl rfl (fun w0 Q hQ => ?_)
        repeat' (
          first
            | (refine k_str_bytes (h := ?_); intro g c2 z)
            | refine k_indexAddr (hb := hbi) (h := ?_)
            | refine k_store (hc := hspl _) (h := ?_)
            | refine k_bytes_str (hl := hlt) (hv := hset _) (h := ?_)
            | refine j_seq_k (fun N hN => ?_)
            | refine j_text ?_
            | refine j_block ?_
            | refine j_skip ?_
            | refine j_ret ?_
            | refine j_exit ?_
            | refine s_nil (show X _ _ _ _ _ from ?_)
            | (refine x_next hN ?_; clear hN N)
            | (refine x_then_ret ?_; clear hN N)
            | (refine x_then_exit ?_; clear hN N)
            | refine x_block ?_
            | refine x_block_ret ?_
            | refine x_block_hit ?_
            | refine x_block_miss (by eq_refl) ?_
            | refine k_skip (h := ?_)
            | refine k_skip0 (h := ?_)
            | refine k_fieldAddr (h := ?_)
            | refine k_load_one (h := ?_)
            | refine k_load_agg (h := ?_)
            | refine k_bin (h := ?_)
            | refine k_move (h := ?_)
            | refine k_assign (h := ?_)
            | refine k_extract (h := ?_)
            | refine k_call (hp := hm) (h := ?_)
            | refine k_call (hp := hwk) (h := ?_)
            | refine k_call (hp := ht) (h := ?_)
            | refine k_call (hp := hp) (h := ?_)
            | refine k_call (hp := hp1) (h := ?_)
            | refine k_call (hp := hp2) (h := ?_)
            | refine k_call (hp := hp3) (h := ?_)
            | (refine k_box (h := ?_); intro g)
            | (refine k_alloc (h := ?_); intro g)
            | refine k_store (h := ?_)
            | refine k_field_agg (h := ?_)
            | refine k_field_one (h := ?_)
            | refine k_build (h := ?_)
            | refine k_conv (h := ?_)
            | refine k_not (h := ?_)
            | refine k_eqb (h := ?_)
            | refine k_neb (h := ?_)
            | refine k_eqs (h := ?_)
            | refine k_nes (h := ?_)
            | refine k_pick_t (h := ?_)
            | refine k_pick_f (h := ?_)
            | refine k_nilCheck (h := ?_)
            | refine k_makeFunc (h := ?_)
            | refine k_shl (h := ?_)
            | refine k_shr (h := ?_)
            | refine k_neg (h := ?_)
            | refine k_index_arr (h := ?_)
            | refine k_len_slice (h := ?_)
            | refine k_quo (h := ?_)
            | refine k_rem (h := ?_)
            | (refine k_buildSlice (h := ?_); intro g)
            | refine k_indexAddr_arr (h := ?_)
            | refine c_true (h := ?_)
            | refine c_false (h := ?_)
            | refine k_len_str (h := ?_)
            | refine k_str_add (h := ?_)
            | refine k_str_eq (h := ?_)
            | refine k_str_ne (h := ?_)
            | refine k_index_str (h := ?_)
            | refine k_slice_hi (h := ?_)
            | refine k_slice_lo (h := ?_)
            | refine k_slice_lh (h := ?_)
            | refine k_slice_all (h := ?_)
            | refine k_max (h := ?_)
            | (refine s_ask (by eq_refl) (by eq_refl) (evO_eq (by eq_refl)) (fun hask => ?_) (fun hask => ?_))
            | (refine c_split (by eq_refl) (fun hif => ?_) (fun hif => ?_))
          )
        all_goals refine hQ _ _ (ret1 rfl (by (first | exact v_tmp | exact v_one | exact v_agg)) ?_)
        all_goals rfl
      | true =>
        have hot' := hot rfl rfl
        have hot2 : (!((y.hi == a.hi && (y.lo == a.lo && true)))) = true := by rw [hot']; rfl
        clear hot
        refine pure_q Tryd.func4 rfl Tryd.ntmps4 rfl rfl (fun w0 Q hQ => ?_)
        repeat' (
          first
            | (refine k_str_bytes (h := ?_); intro g c2 z)
            | refine k_indexAddr (hb := hbi) (h := ?_)
            | refine k_store (hc := hspl _) (h := ?_)
            | refine k_bytes_str (hl := hlt) (hv := hset _) (h := ?_)
            | refine j_seq_k (fun N hN => ?_)
            | refine j_text ?_
            | refine j_block ?_
            | refine j_skip ?_
            | refine j_ret ?_
            | refine j_exit ?_
            | refine s_nil (show X _ _ _ _ _ from ?_)
            | (refine x_next hN ?_; clear hN N)
            | (refine x_then_ret ?_; clear hN N)
            | (refine x_then_exit ?_; clear hN N)
            | refine x_block ?_
            | refine x_block_ret ?_
            | refine x_block_hit ?_
            | refine x_block_miss (by eq_refl) ?_
            | refine k_skip (h := ?_)
            | refine k_skip0 (h := ?_)
            | refine k_fieldAddr (h := ?_)
            | refine k_load_one (h := ?_)
            | refine k_load_agg (h := ?_)
            | refine k_bin (h := ?_)
            | refine k_move (h := ?_)
            | refine k_assign (h := ?_)
            | refine k_extract (h := ?_)
            | refine k_call (hp := hm) (h := ?_)
            | refine k_call (hp := hwk) (h := ?_)
            | refine k_call (hp := ht) (h := ?_)
            | refine k_call (hp := hp) (h := ?_)
            | refine k_call (hp := hp1) (h := ?_)
            | refine k_call (hp := hp2) (h := ?_)
            | refine k_call (hp := hp3) (h := ?_)
            | (refine k_box (h := ?_); intro g)
            | (refine k_alloc (h := ?_); intro g)
            | refine k_store (h := ?_)
            | refine k_field_agg (h := ?_)
            | refine k_field_one (h := ?_)
            | refine k_build (h := ?_)
            | refine k_conv (h := ?_)
            | refine k_not (h := ?_)
            | refine k_eqb (h := ?_)
            | refine k_neb (h := ?_)
            | refine k_eqs (h := ?_)
            | refine k_nes (h := ?_)
            | refine k_pick_t (h := ?_)
            | refine k_pick_f (h := ?_)
            | refine k_nilCheck (h := ?_)
            | refine k_makeFunc (h := ?_)
            | refine k_shl (h := ?_)
            | refine k_shr (h := ?_)
            | refine k_neg (h := ?_)
            | refine k_index_arr (h := ?_)
            | refine k_len_slice (h := ?_)
            | refine k_quo (h := ?_)
            | refine k_rem (h := ?_)
            | (refine k_buildSlice (h := ?_); intro g)
            | refine k_indexAddr_arr (h := ?_)
            | refine c_true (h := ?_)
            | refine c_false (h := ?_)
            | refine k_len_str (h := ?_)
            | refine k_str_add (h := ?_)
            | refine k_str_eq (h := ?_)
            | refine k_str_ne (h := ?_)
            | refine k_index_str (h := ?_)
            | refine k_slice_hi (h := ?_)
            | refine k_slice_lo (h := ?_)
            | refine k_slice_lh (h := ?_)
            | refine k_slice_all (h := ?_)
            | refine k_max (h := ?_)
            | (refine s_ask (by eq_refl) (by eq_refl) (evO_eq (by eq_refl)) (fun hask => ?_) (fun hask => ?_))
            | (refine c_split (by eq_refl) (fun hif => ?_) (fun hif => ?_))
          )
        all_goals refine hQ _ _ (ret1 rfl (by (first | exact v_tmp | exact v_one | exact v_agg)) ?_)
        all_goals rfl
end Go.Proofs.YtmgfabfmnachoaaDoor.Own
