/- Contracts of loops that go through lists: found by program, checked by the kernel. -/
import Derived.Test.YtedfbamihjnhhaaLm3
import Derived.Test.YtedfbamihjnhhaaFvJ
namespace Go.Proofs.Ytedfbamihjnhhaa.Own
open Go Go.RowKit Go.Proofs
set_option linter.unusedVariables false
set_option maxRecDepth 100000
def clS : List (Nat × V) := [(7, (.one (.ptr 0 0))), (8, (.one (.opq (.ivar .i64 9)))), (0, (.any 0)), (1, (.any 1)), (2, (.any 2)), (6, (.any 6)), (9, (.any 9)), (10, (.any 10)), (11, (.any 11)), (12, (.any 12)), (13, (.any 13)), (14, (.any 14))]
def clM : MB := [(0, [(.int .i64 0), (.int .i64 0), (.int .u64 1152921504606846976), (.opq (.ivar .i64 0)), (.opq (.ivar .u64 1)), (.int .i64 0), (.int .u64 4611686018427387904), (.int .i64 0), (.opq (.ivar .u64 2)), (.int .i64 0), (.opq (.ivar .u64 3)), (.opq (.ivar .i64 4)), (.opq (.ivar .i64 5)), (.sli 1 (.lvar 6)), .nils, .nils, (.sli 2 (.lvar 7)), (.int .i64 0), (.int .u64 0), (.int .i64 0), (.int .u64 0), (.int .i64 0), (.int .u64 0), .nils], 33, false), (1, [(.big (.lvar 8) [some .i64, some .u64, some .i64, some .u64, some .i64, some .u64, some .i64, some .u64, some .i64, some .u64, some .i64, some .u64, some .i64, some .u64, some .i64, some .u64, some .i64, some .u64, some .i64, some .i64])], 53, true), (2, [(.big (.lvar 7) [some .i64])], 3, true)]
def clF : MB := []
def clT : RT := (.ask (.cmp .lss (.ivar .i64 9) (.len (.lvar 6))) (.know (.cmp .geq (.ivar .i64 9) (.lit .i64 0)) true (.know (.cmp .lss (.ivar .i64 9) (.len (.lvar 8))) true (.know (.cmp .leq (.len (.lvar 7)) (.lit .i64 1000000)) true (.next [(.ivar .i64 0), (.ivar .u64 1), (.ivar .u64 2), (.ivar .u64 3), (.ivar .i64 4), (.ivar .i64 5), (.lvar 6), (.lcat (.lvar 7) (.lone (.cons (.lit .i64 (-1)) .nil))), (.lset (.lset (.lvar 8) (.ivar .i64 9) 4 (.cons (.bin .rem .i64 (.el (some .i64) (.lvar 8) (.ivar .i64 9) 4) (.lit .i64 4)) .nil)) (.ivar .i64 9) 6 (.cons (.bin .rem .i64 (.el (some .i64) (.lset (.lvar 8) (.ivar .i64 9) 4 (.cons (.bin .rem .i64 (.el (some .i64) (.lvar 8) (.ivar .i64 9) 4) (.lit .i64 4)) .nil)) (.ivar .i64 9) 6) (.lit .i64 4)) .nil)), (.bin .add .i64 (.ivar .i64 9) (.lit .i64 1))]))))
  (.out 0 [(.ivar .i64 0), (.ivar .u64 1), (.ivar .u64 2), (.ivar .u64 3), (.ivar .i64 4), (.ivar .i64 5), (.lvar 6), (.lvar 7), (.lvar 8)]))
def clL : LEnt := { f := 74, id := 4, num := 20053, nx := 3, S := [(7, (.one (.ptr 0 0))), (8, (.one (.int .i64 0))), (0, (.any 0)), (1, (.any 1)), (2, (.any 2)), (6, (.any 6)), (9, (.any 9)), (10, (.any 10)), (11, (.any 11)), (12, (.any 12)), (13, (.any 13)), (14, (.any 14))], M := [(0, [(.int .i64 0), (.int .i64 0), (.int .u64 1152921504606846976), (.opq (.ivar .i64 0)), (.opq (.ivar .u64 1)), (.int .i64 0), (.int .u64 4611686018427387904), (.int .i64 0), (.opq (.ivar .u64 2)), (.int .i64 0), (.opq (.ivar .u64 3)), (.opq (.ivar .i64 4)), (.opq (.ivar .i64 5)), (.sli 1 (.lvar 6)), .nils, .nils, (.sli 2 (.lvar 7)), (.int .i64 0), (.int .u64 0), (.int .i64 0), (.int .u64 0), (.int .i64 0), (.int .u64 0), .nils], 33, false), (1, [(.big (.lvar 6) [some .i64, some .u64, some .i64, some .u64, some .i64, some .u64, some .i64, some .u64, some .i64, some .u64, some .i64, some .u64, some .i64, some .u64, some .i64, some .u64, some .i64, some .u64, some .i64, some .i64])], 53, true), (2, [(.big (.lvar 7) [some .i64])], 3, true)], F := clF, kk := [0, 1], outs := [{ x := (.exit 0), S := [(7, (.one (.ptr 0 0))), (0, (.any 0)), (1, (.any 1)), (2, (.any 2)), (6, (.any 6)), (9, (.any 9)), (10, (.any 10)), (11, (.any 11)), (12, (.any 12)), (13, (.any 13)), (14, (.any 14))], M := [(0, [(.int .i64 0), (.int .i64 0), (.int .u64 1152921504606846976), (.opq (.ivar .i64 0)), (.opq (.ivar .u64 1)), (.int .i64 0), (.int .u64 4611686018427387904), (.int .i64 0), (.opq (.ivar .u64 2)), (.int .i64 0), (.opq (.ivar .u64 3)), (.opq (.ivar .i64 4)), (.opq (.ivar .i64 5)), (.sli 1 (.lvar 6)), .nils, .nils, (.sli 2 (.lvar 7)), (.int .i64 0), (.int .u64 0), (.int .i64 0), (.int .u64 0), (.int .i64 0), (.int .u64 0), .nils], 33, false), (1, [(.big (.lvar 8) [some .i64, some .u64, some .i64, some .u64, some .i64, some .u64, some .i64, some .u64, some .i64, some .u64, some .i64, some .u64, some .i64, some .u64, some .i64, some .u64, some .i64, some .u64, some .i64, some .i64])], 53, true), (2, [(.big (.lvar 7) [some .i64])], 3, true)], cv := [(0, 0, (some (some .i64))), (1, 1, (some (some .u64))), (2, 2, (some (some .u64))), (3, 3, (some (some .u64))), (4, 4, (some (some .i64))), (5, 5, (some (some .i64))), (6, 6, none)] }], lv := [(1, 6), (2, 7)], sm := [6], pre := [(.cmp .eql (.len (.lvar 7)) (.lit .i64 0), true)] }
def clI : List SE := [(.ivar .i64 0), (.ivar .u64 1), (.ivar .u64 2), (.ivar .u64 3), (.ivar .i64 4), (.ivar .i64 5), (.lvar 6), (.lvar 7), (.lvar 6), (.lit .i64 0)]
def clC : List (Nat × Nat × Option (Option IntKind)) := [(0, 0, (some (some .i64))), (1, 1, (some (some .u64))), (2, 2, (some (some .u64))), (3, 3, (some (some .u64))), (4, 4, (some (some .i64))), (5, 5, (some (some .i64))), (6, 6, none)]
def cln : Nat := 60
def m4 (x : Int) : Int := IntKind.i64.wrap ((IntKind.i64.wrap x).tmod (IntKind.i64.wrap 4))
def nearB (el : List Int) : List Int := setRow (setRow el 4 [m4 (el.getD 4 0)]) 6 [m4 ((setRow el 4 [m4 (el.getD 4 0)]).getD 6 0)]
def clJ (l6 : Int) (t : Nat) (xs : List Int) : Prop := xs.getD 6 0 = l6 ∧ (dec l6).length ≤ 1000000 ∧ xs.getD 9 0 = (t : Int) ∧ dec (xs.getD 7 0) = List.replicate t [-1] ∧ dec (xs.getD 8 0) = ((dec l6).take t).map nearB ++ (dec l6).drop t
noncomputable def clU (xs : List Int) : Nat := (dec (xs.getD 6 0)).length + 1
noncomputable def clG : (Nat → List Int → List Int) → List Int → List Int := lpFn clI (fun _ => clT) clU
theorem cl_J0 (F : Nat → List Int → List Int) (xs : List Int) (hp : Pre clL F xs) : clJ (xs.getD 6 0) 0 (clI.map (SE.val (envOf F xs))) := by
 have h1 : (dec (xs.getD 6 0)).length ≤ 1000000 := hp.sm 6 (by decide)
 have h7 : (dec (xs.getD 7 0)).length ≤ maxLen := hp.lv (2, 7) (by decide)
 have h3 := hp.pre _ (by show _ ∈ [((SE.cmp .eql (.len (.lvar 7)) (.lit .i64 0)), true)]; exact .head _)
 have l7 := len_at (F := F) (lv := 7) (xs := xs) rfl h7
 simp only [SE.val, b2i_ne, valCmp] at h3 l7
 rw [l7] at h3
 have h4 : (dec (xs.getD 7 0)).length = 0 := by
  have := beq_iff_eq.1 h3
  rw [show IntKind.i64.wrap 0 = 0 from rfl] at this
  omega
 have h5 : dec (xs.getD 7 0) = [] := List.eq_nil_of_length_eq_zero h4
 refine ⟨lvar_at, h1, ?_, ?_, ?_⟩
 ·show (SE.lit .i64 0).val (envOf F xs) = _
  simp only [SE.val]; rfl
 ·show dec ((SE.lvar 7).val (envOf F xs)) = _
  rw [lvar_at, h5]; rfl
 ·show dec ((SE.lvar 6).val (envOf F xs)) = _
  rw [lvar_at]; simp
theorem cl_ok1 (F : Nat → List Int → List Int) (l6 : Int) (t : Nat) (xs : List Int) (ht : t ≤ (dec l6).length) (h : clJ l6 t xs) : clT.ok (envOf F xs) := by
 obtain ⟨h0, hm, h2, h3, h4⟩ := h
 have i0 := iv_at (F := F) h2 (by omega)
 have l := len_at (F := F) (lv := 6) (n := (dec l6).length) (xs := xs) (by rw [h0]) (by unfold maxLen; omega)
 have l8 := len_at (F := F) (lv := 8) (n := (dec l6).length) (xs := xs) (by rw [h4, map_len _ _ ht]) (by unfold maxLen; omega)
 have l1 := len_at (F := F) (lv := 7) (n := t) (xs := xs) (by rw [h3, List.length_replicate]) (by unfold maxLen; omega)
 refine ok_ask fun g1 => ?_
 have k1 := of_lss g1 i0 l
 exact ⟨(geq_at i0 (lit_at (k := 0) (by omega))).trans (decide_eq_true (by omega)), (lss_at i0 l8).trans (decide_eq_true (by omega)), (leq_at l1 (lit_at (k := 1000000) (by omega))).trans (decide_eq_true (by omega)), trivial⟩
theorem cl_nx (F : Nat → List Int → List Int) (l6 : Int) : ∀ (t : Nat) (xs ys : List Int), t ≤ (dec l6).length → clJ l6 t xs → clT.get (envOf F xs) = (none, ys) → t < (dec l6).length ∧ clJ l6 (t + 1) ys := fun t xs ys ht h hy => by
 obtain ⟨h0, hm, h2, h3, h4⟩ := h
 have i0 := iv_at (F := F) h2 (by omega)
 have i1 := add_at (F := F) (k := 1) h2 (by omega)
 have l := len_at (F := F) (lv := 6) (n := (dec l6).length) (xs := xs) (by rw [h0]) (by unfold maxLen; omega)
 obtain ⟨g1, hy⟩ := ask_next hy
 have hy := next_next hy
 have k1 := of_lss g1 i0 l
 have hlen : (dec (xs.getD 8 0)).length = (dec l6).length := by rw [h4, map_len _ _ ht]
 subst hy
 refine ⟨k1, ?_, hm, i1, ?_, ?_⟩
 ·show (SE.lvar 6).val (envOf F xs) = _
  rw [lvar_at]; exact h0
 ·show dec ((SE.lcat (.lvar 7) (.lone _)).val (envOf F xs)) = _
  rw [lcat_at, dec_enc, h3, List.replicate_succ']
  simp only [SE.vals, SE.val]; rfl
 ·show dec ((SE.lset (.lset (.lvar 8) (.ivar .i64 9) 4 _) (.ivar .i64 9) 6 _).val (envOf F xs)) = _
  rw [lset_at i0, lset_at i0, dec_enc, dec_enc, lvar_at]
  have v1 : (SE.cons (.bin .rem .i64 (.el (some .i64) (.lvar 8) (.ivar .i64 9) 4) (.lit .i64 4)) .nil).vals (envOf F xs) = [m4 (((dec (xs.getD 8 0)).getD t []).getD 4 0)] := by
   have e2 : (envOf F xs).iv 8 = xs.getD 8 0 := rfl
   simp only [SE.val] at i0
   simp only [SE.vals, SE.val, valBin, i0, e2, wrK, Int.toNat_natCast]; rfl
  have v2 : (SE.cons (.bin .rem .i64 (.el (some .i64) (.lset (.lvar 8) (.ivar .i64 9) 4 (.cons (.bin .rem .i64 (.el (some .i64) (.lvar 8) (.ivar .i64 9) 4) (.lit .i64 4)) .nil)) (.ivar .i64 9) 6) (.lit .i64 4)) .nil).vals (envOf F xs) = [m4 (((setL (dec (xs.getD 8 0)) t 4 [m4 (((dec (xs.getD 8 0)).getD t []).getD 4 0)]).getD t []).getD 6 0)] := by
   have e3 : ∀ x : SE, (SE.cons (.bin .rem .i64 (.el (some .i64) x (.ivar .i64 9) 6) (.lit .i64 4)) .nil).vals (envOf F xs) = [m4 (((dec (x.val (envOf F xs))).getD t []).getD 6 0)] := fun x => by
    simp only [SE.val] at i0
    simp only [SE.vals, SE.val, valBin, i0, wrK, Int.toNat_natCast]; rfl
   rw [e3, lset_at i0, dec_enc, lvar_at, v1]
  rw [v1, v2, setL_at (by omega), setL_two (by omega), h4]
  exact map_step (f := nearB) _ t k1
theorem cl_run (F : Nat → List Int → List Int) (xs : List Int) (hp : Pre clL F xs) : RunOK (fun _ => clT) F 0 (clU xs) (clI.map (SE.val (envOf F xs))) :=
 inv_ok (fun t ys => clJ (xs.getD 6 0) t ys) (dec (xs.getD 6 0)).length (fun t ys ht hj => cl_ok1 F _ t ys ht hj) (cl_nx F _) _ 0 0 _ (Nat.zero_add _) (Nat.succ_pos _) (cl_J0 F xs hp)
theorem cl_val (F : Nat → List Int → List Int) (xs : List Int) (hp : Pre clL F xs) : ∃ ys, clG F xs = 0 :: ys ∧ dec (ys.getD 7 0) = List.replicate (dec (xs.getD 6 0)).length [-1] ∧ dec (ys.getD 8 0) = (dec (xs.getD 6 0)).map nearB := by
 obtain ⟨e, ys, h1, h2⟩ := inv_run (F := F) (T := clT) (fun t ys => clJ (xs.getD 6 0) t ys) (dec (xs.getD 6 0)).length (fun e ys => e = 0 ∧ dec (ys.getD 7 0) = List.replicate (dec (xs.getD 6 0)).length [-1] ∧ dec (ys.getD 8 0) = (dec (xs.getD 6 0)).map nearB) (cl_nx F _) (fun t zs e ys ht hj hy => by
  obtain ⟨h0, hm, h2, h3, h4⟩ := hj
  have i0 := iv_at (F := F) h2 (by omega)
  have l := len_at (F := F) (lv := 6) (n := (dec (xs.getD 6 0)).length) (xs := zs) (by rw [h0]) (by unfold maxLen; omega)
  rcases ask_out hy with ⟨g, rfl, hz⟩ | ⟨_, hy⟩
  ·rw [lss_at i0 l] at g
   have g := of_decide_eq_false g
   subst hz
   refine ⟨rfl, ?_, ?_⟩
   ·show dec ((SE.lvar 7).val (envOf F zs)) = _
    rw [lvar_at, h3, show t = (dec (xs.getD 6 0)).length by omega]
   ·show dec ((SE.lvar 8).val (envOf F zs)) = _
    rw [lvar_at, h4, List.take_of_length_le (by omega), List.drop_eq_nil_of_le (by omega), List.append_nil]
  ·exact (next_out hy).elim) _ 0 0 (clI.map (SE.val (envOf F xs))) (Nat.zero_add _) (Nat.succ_pos _) (cl_J0 F xs hp)
 obtain ⟨rfl, h2⟩ := h2
 refine ⟨ys, ?_, h2⟩
 unfold clG lpFn clU
 rw [h1]; rfl
set_option maxHeartbeats 4000000 in
theorem cl_chk : checkR (bW.loops Lm3_L) Lm3_T 300 clL.f cln (bodyOf Try.prog clL.f clL.id) clS clM clL.F clL.nx clS clL.outs clL.kk clT [] = true := by kernel_rfl
theorem cl_ok : LCT Try.prog clL (FT Lm3_T) (clG (FT Lm3_T)) :=
 lct_of (b := bW.loops Lm3_L) (Tb := Lm3_T) (y := clL) (M := clM) (T := fun _ => clT) (S := fun _ => clS) (init := clI) (loops_ok bW_ok _) (lb_of Lm3_lb) Lm3_ok (d := 300) (n := cln) (by kernel_rfl) (by kernel_rfl) (by kernel_rfl) (by kernel_rfl) (fun _ _ _ => cl_chk) (fun xs hp => cl_run _ xs hp)
theorem cl_cst (F : Nat → List Int → List Int) : Cst clL (clG F) := cst_of clC (by kernel_rfl) (fun _ _ _ => by kernel_rfl)
noncomputable def Lm4_Tcl : List Ent := ⟨20053, [], .tup [], clG, true⟩ :: Lm3_T
def Lm4_Lcl : List LEnt := clL :: Lm3_L
theorem Lm4_okcl : TbOK Try.prog Lm4_Tcl := tb_loop Lm3_ok rfl (by kernel_rfl)
theorem Lm4_lbcl : LBs Try.prog Lm4_Lcl Lm4_Tcl := lbs_loop (y := clL) Lm3_lb (by kernel_rfl) (by kernel_rfl) (by kernel_rfl) cl_ok (cl_cst _)
noncomputable def Lm4_T : List Ent := Lm4_Tcl
def Lm4_L : List LEnt := Lm4_Lcl
theorem Lm4_ok : TbOK Try.prog Lm4_T := Lm4_okcl
theorem Lm4_lb : LBs Try.prog Lm4_L Lm4_T := Lm4_lbcl
end Go.Proofs.Ytedfbamihjnhhaa.Own
