/- Numbers as text: the law HexaRefuses, as the code goes. -/
import Derived.Test.YtmgfabfmnachoaaDoorHxJ
namespace Go.Proofs.YtmgfabfmnachoaaDoor.Own
open Go Go.RowKit Go.Proofs Go.Proofs.YtmgfabfmnachoaaDoor.Plain Go.Proofs.YtmgfabfmnachoaaDoor.Hx
set_option linter.unusedVariables false
set_option linter.unusedSimpArgs false
set_option maxRecDepth 100000
set_option maxHeartbeats 4000000
section
variable {P : Program} {w0 : World} {L0 : List Blk} {ops : List Oper} {q : Bool} {E : List (Nat × Kind)} {K : Act → List Blk → Prop} {n : Nat} {l : List (Nat × Value)} {L : List Blk} {o : Oper} {rest : List Oper} {d : Tmp}
/-- an element of a block, wherever it stands -/
theorem k_load_at (hw : wantL ops n l o = true := by exact want_none (by eq_refl)) (hd : o.dst = some d := by eq_refl) {t : TypeId} {m : Nat} {x : Operand} {g off : Nat} {cs : List Value} {T : TypeId} {v : Value} (hk : kf q E o = .quiet ∨ kf q E o = .eff := by first | exact Or.inl (by eq_refl) | exact Or.inr (by eq_refl) | fail) (ho : o.op = .load t x := by eq_refl) (hi : tinfo P t = some (false, m) := by exact ti (by eq_refl)) (hx : evO n l x = some (.pointer (some ⟨g, off, none⟩)) := by eq_refl)
    (hm : HasB L g cs T := by (repeat (first | apply HasB.here | apply HasB.next)); first | done | fail) (hv : cs[off]? = some v)
    (h : lexO P w0 L0 ops q E K rest (frm n ((d, v) :: l)) L) : lexO P w0 L0 ops q E K (o :: rest) (frm n l) L :=
  have hq : QV P w0 o (evL n l) L v := q_load_one (hi := hi) ho (evO_eq hx) hm hv
  s_val hw (by rcases hk with hk | hk <;> rw [hk] <;> simp [Kind.val]) (fun _ => by rcases hk with hk | hk <;> rw [hk] <;> exact hq) hq (by rw [hd]; exact h)
end
/-- what no number's text is -/
def NoTxt (l : List UInt8) : Prop := ∀ a, mayF a = true → textF a ≠ l
theorem notxt_len {l : List UInt8} (h : l.length < 18) : NoTxt l := fun a ha e => by have := textF_len a ha; rw [e] at this; omega
theorem notxt_bad {l : List UInt8} (h : ∃ c ∈ l, okc c = false) : NoTxt l := fun a ha e => by rw [textF_may a ha] at e; exact no_bad l _ _ _ h e.symm
theorem notxt_point {l : List UInt8} (h : ∀ c ∈ l, (c == 46) = false) : NoTxt l := fun a ha e => by rw [textF_may a ha] at e; exact no_point l _ _ _ h e.symm
theorem notxt_cut (b : Fx) (hb : mayF b = true) : NoTxt ((textF b).take ((textF b).length - 1)) := fun a ha e => by
  rw [textF_may a ha, textF_may b hb] at e; exact no_less _ _ _ _ _ _ e.symm
/-- a text, by its cand -/
theorem notxt_cand (l : List UInt8) (c : Fx) (h : candF l = c) (h2 : textF c ≠ l) : NoTxt l := fun a ha e => by
  have := candF_text a ha
  rw [e, h] at this
  exact h2 (this ▸ e)
theorem txt_parts (neg : Bool) (W F : Nat) : (txt neg W F).take ((txt neg W F).length - 17) = (if neg then [45] else []) ++ hexS W ∧ (txt neg W F).drop ((txt neg W F).length - 16) = hexL 16 F := by
  have h1 := txt_split neg W F
  have h2 := hexL_len 16 F
  generalize hexL 16 F = Z at *
  generalize (if neg = true then ([45] : List UInt8) else []) ++ hexS W = Y at *
  rw [h1]
  constructor
  · rw [List.take_left' (by simp; omega)]
  · rw [show Y ++ 46 :: Z = (Y ++ [46]) ++ Z by simp, List.drop_left' (by simp; omega)]
theorem notxt_point2 (b : Fx) (hb : mayF b = true) : NoTxt ((textF b).take ((textF b).length - 17) ++ (textF b).drop ((textF b).length - 16)) := by
  refine notxt_point ?_
  rw [textF_may b hb, (txt_parts _ _ _).1, (txt_parts _ _ _).2]
  intro c hc
  rw [List.mem_append, List.mem_append] at hc
  rcases hc with (h | h) | h
  · split at h
    · simp at h; subst h; rfl
    · cases h
  · exact hexS_dot _ c h
  · exact hexL_dot _ _ c h
def tneg0 : List UInt8 := [45, 48, 46, 48, 48, 48, 48, 48, 48, 48, 48, 48, 48, 48, 48, 48, 48, 48, 48]
def tbig : List UInt8 := [56, 48, 48, 48, 48, 48, 48, 48, 48, 48, 48, 48, 48, 48, 48, 48, 46, 48, 48, 48, 48, 48, 48, 48, 48, 48, 48, 48, 48, 48, 48, 48, 48]
def tA : List UInt8 := [65, 46, 48, 48, 48, 48, 48, 48, 48, 48, 48, 48, 48, 48, 48, 48, 48, 48]
def tcomma : List UInt8 := [44, 48, 48, 48, 48, 48, 48, 48, 48, 48, 48, 48, 48, 48, 48, 48, 48]
theorem notxt_neg0 : NoTxt tneg0 := fun a ha e => by
  have h1 := candF_text a ha
  rw [e] at h1
  have h2 : candF tneg0 = zFx := by rw [candF_eq tneg0 true 0 0 (by decide) (by decide +kernel)]; rfl
  rw [h2] at h1
  subst h1
  rw [textF_may zFx ha] at e
  have h3 : zFx.n = 0 := by decide
  rw [h3] at e
  have h4 : txt false 0 0 = tneg0 := e
  unfold txt at h4
  rw [hexS_eq 0] at h4
  exact absurd h4 (by decide)
theorem notxt_big : NoTxt tbig := fun a ha e => by
  have h1 := candF_text a ha
  rw [e, candF_eq tbig false 9223372036854775808 0 (by decide) (by decide +kernel)] at h1
  have h2 := (mayF_iff a).1 ha
  rw [← h1] at h2
  exact h2 (by decide)
/-- all that the law tries -/
def bads (s : List UInt8) : List (List UInt8) := [s.take (s.length - 1), [43] ++ s, [32] ++ s, s ++ [32], tneg0, [48, 120] ++ s, s.take (s.length - 17) ++ s.drop (s.length - 16), [], [45], [46], s.take (s.length - 17) ++ tcomma, tbig, tA]
theorem bads_no (a : Fx) (ha : mayF a = true) : ∀ l ∈ bads (textF a), NoTxt l := by
  intro l hl
  simp only [bads, List.mem_cons, List.mem_nil_iff, or_false] at hl
  rcases hl with rfl | rfl | rfl | rfl | rfl | rfl | rfl | rfl | rfl | rfl | rfl | rfl | rfl
  · exact notxt_cut a ha
  · exact notxt_bad ⟨43, by simp, by decide⟩
  · exact notxt_bad ⟨32, by simp, by decide⟩
  · exact notxt_bad ⟨32, by simp, by decide⟩
  · exact notxt_neg0
  · exact notxt_bad ⟨120, by simp, by decide⟩
  · exact notxt_point2 a ha
  · exact notxt_len (by decide)
  · exact notxt_len (by decide)
  · exact notxt_len (by decide)
  · exact notxt_bad ⟨44, by simp [tcomma], by decide⟩
  · exact notxt_big
  · exact notxt_bad ⟨65, by decide, by decide⟩
theorem notxt_parse {l : List UInt8} (h : NoTxt l) : saysF l (candF l) = false ∧ parseF l = zFx := says_no h
theorem sub_nat (k m : Nat) (h : m ≤ k) (hk : k < 1000) : arith .sub .i64 (k : Int) (m : Int) = some (.int .i64 ((k - m : Nat) : Int)) := by
  simp only [arith, IntKind.wrap_i64, Option.some.injEq, Value.int.injEq, true_and]; omega
theorem bads_len (s : List UInt8) (h : s.length ≤ 34) : ∀ l ∈ bads s, l.length ≤ 1000 := by
  intro l hl
  simp only [bads, List.mem_cons, List.mem_nil_iff, or_false] at hl
  rcases hl with rfl | rfl | rfl | rfl | rfl | rfl | rfl | rfl | rfl | rfl | rfl | rfl | rfl <;> simp [tneg0, tbig, tA, tcomma] <;> omega
theorem hexaRefuses_pure (a : Fx) (w : Int) (hw : 0 ≤ w ∧ w ≤ 255) : Pure Tryd.prog 6 #[a.v, .int .u8 w] (.bool true) := by
  have hwk := awake_pure
  have hm := rmay_pure a
  obtain ⟨e, he⟩ : ∃ e, mayF a = e := ⟨_, rfl⟩
  rw [he] at hm
  have tt : true = true := rfl; have ff : false = false := rfl; have nt : (!true) = false := rfl; have nf : (!false) = true := rfl
  cases e with
  | false =>
    refine pure_q Tryd.func6 rfl Tryd.ntmps6 rfl rfl (fun w0 Q hQ => ?_)
    repeat' (
      first
        | refine j_seq_k (fun N hN => ?_)
        | refine j_text ?_
        | refine j_draw (id := 6) [] (by kernel_rfl) (by kernel_rfl) ?_
        | refine j_block ?_
        | refine j_skip ?_
        | refine j_ret ?_
        | refine j_exit ?_
        | refine s_nil (show X _ _ _ _ _ from ?_)
        | (refine x_next hN ?_; clear hN N)
        | (refine x_then_ret ?_; clear hN N)
        | (refine x_then_exit ?_; clear hN N)
        | refine x_block ?_
        | refine x_block_ret ?_
        | refine x_block_hit ?_
        | refine x_block_miss (by eq_refl) ?_
        | refine k_skip (h := ?_)
        | refine k_skip0 (h := ?_)
        | refine k_fieldAddr (h := ?_)
        | refine k_load_one (h := ?_)
        | refine k_load_agg (h := ?_)
        | refine k_bin (h := ?_)
        | refine k_move (h := ?_)
        | refine k_assign (h := ?_)
        | refine k_extract (h := ?_)
        | refine k_call (hp := hm) (h := ?_)
        | refine k_call (hp := hwk) (h := ?_)
        | (refine k_box (h := ?_); intro g)
        | (refine k_alloc (h := ?_); intro g)
        | refine k_store (h := ?_)
        | refine k_field_agg (h := ?_)
        | refine k_field_one (h := ?_)
        | refine k_build (h := ?_)
        | refine k_conv (h := ?_)
        | refine k_not (h := ?_)
        | refine k_eqb (h := ?_)
        | refine k_neb (h := ?_)
        | refine k_eqs (h := ?_)
        | refine k_nes (h := ?_)
        | refine k_pick_t (h := ?_)
        | refine k_pick_f (h := ?_)
        | refine k_nilCheck (h := ?_)
        | refine k_makeFunc (h := ?_)
        | refine k_shl (h := ?_)
        | refine k_shr (h := ?_)
        | refine k_neg (h := ?_)
        | refine k_index_arr (h := ?_)
        | refine k_len_slice (h := ?_)
        | refine k_quo (h := ?_)
        | refine k_rem (h := ?_)
        | (refine k_buildSlice (h := ?_); intro g)
        | refine k_indexAddr_arr (h := ?_)
        | refine c_true (h := ?_)
        | refine c_false (h := ?_)
        | refine k_len_str (h := ?_)
        | refine k_str_add (h := ?_)
        | refine k_str_eq (h := ?_)
        | refine k_str_ne (h := ?_)
        | refine k_index_str (h := ?_)
        | refine k_slice_hi (h := ?_)
        | refine k_slice_lo (h := ?_)
        | refine k_slice_lh (h := ?_)
        | refine k_slice_all (h := ?_)
        | refine k_max (h := ?_)
        | (refine s_ask (by eq_refl) (by eq_refl) (evO_eq (by eq_refl)) (fun hask => ?_) (fun hask => ?_))
        | (refine c_split (by eq_refl) (fun hif => ?_) (fun hif => ?_))
      )
    all_goals refine hQ _ _ (ret1 rfl (by (first | exact v_tmp | exact v_one | exact v_agg)) ?_)
    all_goals rfl
  | true =>
    have ht := text_pure a
    obtain ⟨h18, h34⟩ := textF_len a he
    have hno := bads_no a he
    have hle := bads_len (textF a) h34
    generalize textF a = s at *
    have e1 : arith .lss .i64 (s.length : Int) 18 = some (.bool false) := by simp only [arith, Option.some.injEq, Value.bool.injEq, decide_eq_false_iff_not]; omega
    have s1 : arith .sub .i64 (s.length : Int) 1 = some (.int .i64 ((s.length - 1 : Nat) : Int)) := sub_nat s.length 1 (by omega) (by omega)
    have s17 : arith .sub .i64 (s.length : Int) 17 = some (.int .i64 ((s.length - 17 : Nat) : Int)) := sub_nat s.length 17 (by omega) (by omega)
    have s16 : arith .sub .i64 (s.length : Int) 16 = some (.int .i64 ((s.length - 16 : Nat) : Int)) := sub_nat s.length 16 (by omega) (by omega)
    have u1 : subS s 0 ((s.length - 1 : Nat) : Int) = some (s.take (s.length - 1)) := by unfold subS; rw [if_pos ⟨by omega, by omega, by omega⟩]; simp
    have u17 : subS s 0 ((s.length - 17 : Nat) : Int) = some (s.take (s.length - 17)) := by unfold subS; rw [if_pos ⟨by omega, by omega, by omega⟩]; simp
    have u16 : subS s ((s.length - 16 : Nat) : Int) s.length = some (s.drop (s.length - 16)) := by unfold subS; rw [if_pos ⟨by omega, by omega, by omega⟩]; simp
    have a1 := addS_ok [43] s (by simp; omega)
    have a2 := addS_ok [32] s (by simp; omega)
    have a3 := addS_ok s [32] (by simp; omega)
    have a4 := addS_ok [48, 120] s (by simp; omega)
    have a5 := addS_ok (s.take (s.length - 17)) (s.drop (s.length - 16)) (by simp; omega)
    have a6 : addS (s.take (s.length - 17)) [44, 48, 48, 48, 48, 48, 48, 48, 48, 48, 48, 48, 48, 48, 48, 48, 48] = some (s.take (s.length - 17) ++ tcomma) := addS_ok (s.take (s.length - 17)) tcomma (by simp [tcomma]; omega)
    obtain ⟨i, hi13, hrem⟩ : ∃ i : Nat, i < 13 ∧ (IntKind.i64.wrap w).tmod ((13 : Nat) : Int) = (i : Int) := by
      refine ⟨(w % 13).toNat, by omega, ?_⟩
      have hww : IntKind.i64.wrap w = w := by rw [IntKind.wrap_i64]; omega
      rw [hww, Int.tmod_eq_emod_of_nonneg hw.1]; omega
    have hz : (((13 : Nat) : Int) == 0) = false := rfl
    have hb13 : 0 ≤ ((i : Nat) : Int) ∧ ((i : Nat) : Int) < ((13 : Nat) : Int) := by omega
    have hlen : (bads s).length = 13 := rfl
    obtain ⟨r, hr⟩ : ∃ r, (bads s)[i]? = some r := ⟨_, List.getElem?_eq_getElem (by rw [hlen]; exact hi13)⟩
    have hmem := List.mem_of_getElem? hr
    have hv : ((bads s).map fun l => Value.string (B l))[0 + ((i : Nat) : Int).toNat * 1]? = some (Value.string (B r)) := by
      rw [show 0 + ((i : Nat) : Int).toNat * 1 = i by omega, List.getElem?_map, hr]; rfl
    obtain ⟨n1, n2⟩ := notxt_parse (hno r hmem)
    have hp0 := fparse_pure r (by have := hle r hmem; omega)
    rw [n1, n2] at hp0
    have hp : Pure Tryd.prog 8 #[.string (B r)] (.tuple #[.agg #[.int .i64 0, .int .u64 0], .bool false]) := hp0
    have q0 : (((0 : Int) == 0) && (((0 : Int) == 0) && true)) = true := rfl
    clear hp0 n1 n2 hr hno hle hlen hmem he
    refine pure_q Tryd.func6 rfl Tryd.ntmps6 rfl rfl (fun w0 Q hQ => ?_)
    repeat' (
      first
        | refine k_indexAddr (hb := hb13) (h := ?_)
        | refine k_load_at (hv := hv) (h := ?_)
        | refine j_seq_k (fun N hN => ?_)
        | refine j_text ?_
        | refine j_draw (id := 6) [] (by kernel_rfl) (by kernel_rfl) ?_
        | refine j_block ?_
        | refine j_skip ?_
        | refine j_ret ?_
        | refine j_exit ?_
        | refine s_nil (show X _ _ _ _ _ from ?_)
        | (refine x_next hN ?_; clear hN N)
        | (refine x_then_ret ?_; clear hN N)
        | (refine x_then_exit ?_; clear hN N)
        | refine x_block ?_
        | refine x_block_ret ?_
        | refine x_block_hit ?_
        | refine x_block_miss (by eq_refl) ?_
        | refine k_skip (h := ?_)
        | refine k_skip0 (h := ?_)
        | refine k_fieldAddr (h := ?_)
        | refine k_load_one (h := ?_)
        | refine k_load_agg (h := ?_)
        | refine k_bin (h := ?_)
        | refine k_move (h := ?_)
        | refine k_assign (h := ?_)
        | refine k_extract (h := ?_)
        | refine k_call (hp := hm) (h := ?_)
        | refine k_call (hp := hwk) (h := ?_)
        | refine k_call (hp := ht) (h := ?_)
        | refine k_call (hp := hp) (h := ?_)
        | (refine k_box (h := ?_); intro g)
        | (refine k_alloc (h := ?_); intro g)
        | refine k_store (h := ?_)
        | refine k_field_agg (h := ?_)
        | refine k_field_one (h := ?_)
        | refine k_build (h := ?_)
        | refine k_conv (h := ?_)
        | refine k_not (h := ?_)
        | refine k_eqb (h := ?_)
        | refine k_neb (h := ?_)
        | refine k_eqs (h := ?_)
        | refine k_nes (h := ?_)
        | refine k_pick_t (h := ?_)
        | refine k_pick_f (h := ?_)
        | refine k_nilCheck (h := ?_)
        | refine k_makeFunc (h := ?_)
        | refine k_shl (h := ?_)
        | refine k_shr (h := ?_)
        | refine k_neg (h := ?_)
        | refine k_index_arr (h := ?_)
        | refine k_len_slice (h := ?_)
        | refine k_quo (h := ?_)
        | refine k_rem (h := ?_)
        | (refine k_buildSlice (h := ?_); intro g)
        | refine k_indexAddr_arr (h := ?_)
        | refine c_true (h := ?_)
        | refine c_false (h := ?_)
        | refine k_len_str (h := ?_)
        | refine k_str_add (h := ?_)
        | refine k_str_eq (h := ?_)
        | refine k_str_ne (h := ?_)
        | refine k_index_str (h := ?_)
        | refine k_slice_hi (h := ?_)
        | refine k_slice_lo (h := ?_)
        | refine k_slice_lh (h := ?_)
        | refine k_slice_all (h := ?_)
        | refine k_max (h := ?_)
        | (refine s_ask (by eq_refl) (by eq_refl) (evO_eq (by eq_refl)) (fun hask => ?_) (fun hask => ?_))
        | (refine c_split (by eq_refl) (fun hif => ?_) (fun hif => ?_))
      )
    all_goals refine hQ _ _ (ret1 rfl (by (first | exact v_tmp | exact v_one | exact v_agg)) ?_)
    all_goals rfl
end Go.Proofs.YtmgfabfmnachoaaDoor.Own
