/- Lists as long as they may: closed values. -/
import Derived.Test.YtedfbamihjnhhaaFvX
import Derived.Test.YtedfbamihjnhhaaFvE
import Derived.Test.YtedfbamihjnhhaaFvI
namespace Go.Proofs.Ytedfbamihjnhhaa.Own
open Go Go.RowKit Go.Proofs Go.Proofs.Ytedfbamihjnhhaa.Plain
set_option linter.unusedVariables false
set_option maxRecDepth 100000
noncomputable def Z_T : List Ent := []
def Z_X : List Ent := []
def Z_L : List LEnt := []
theorem Z_ok : TbOK Try.prog Z_T := tb_nil
theorem Z_lb : LBs Try.prog Z_L Z_T := fun y hy => by cases hy
/-- a body of mass one at a whole place -/
def mbB (x : C) : V := .agg [.int .i64 1, .int .u64 0, .int .i64 0, .int .u64 0, x, .int .u64 0, .int .i64 0, .int .u64 0, .int .i64 0, .int .u64 0, .int .i64 0, .int .u64 0, .int .i64 0, .int .u64 0, .int .i64 0, .int .u64 0, .int .i64 0, .int .u64 0, .int .i64 0, .int .i64 0]
def mbD : List (SE × Bool) := [(.not (.and (.cmp .eql (.ivar .i64 0) (.lit .i64 (-9223372036854775808))) (.and (.cmp .eql (.lit .u64 0) (.lit .u64 0)) (.cmp .eql (.lit .i64 1) (.lit .i64 1)))), true), (.cmp .neq (.ivar .i64 0) (.ivar .i64 0), false), (.cmp .lss (.ivar .i64 0) (.lit .i64 1073741824), true), (.cmp .lss (.ivar .i64 0) (.lit .i64 (-1073741824)), false), (.cmp .gtr (.ivar .i64 0) (.lit .i64 (-1073741824)), true)]
def mbK : Hook := fun (f : Nat) (vs : List V) => bif Nat.beq f 45 then (match vs with
  | [.agg cs] => (match (cs[4]? : Option C) with
    | some (.int .i64 i) => bif eqvB (.agg cs) (mbB (.int .i64 i)) && decide (0 ≤ i ∧ i < 1000) then some (.one (.bool true)) else none
    | _ => none)
  | _ => none) else none
set_option maxHeartbeats 4000000 in
theorem mb_run : (evF (cfT bW [] mbD) 300 45 [mbB (.opq (.ivar .i64 0))] [] [] 0).map (·.1) = some (.one (.bool true)) := by kernel_rfl
theorem mb_pure (i : Int) (h : 0 ≤ i ∧ i < 1000) : Pure Try.prog 45 #[.agg #[.int .i64 1, .int .u64 0, .int .i64 0, .int .u64 0, .int .i64 i, .int .u64 0, .int .i64 0, .int .u64 0, .int .i64 0, .int .u64 0, .int .i64 0, .int .u64 0, .int .i64 0, .int .u64 0, .int .i64 0, .int .u64 0, .int .i64 0, .int .u64 0, .int .i64 0, .int .i64 0]] (.bool true) := by
  have hw : IntKind.i64.wrap i = i := by simp only [IntKind.wrap_i64]; omega
  have hi : ∀ x : Int, (envOf (FT []) [i]).iv 0 = i := fun _ => rfl
  have hk : Knows (envOf (FT []) [i]) mbD := by
    have g : ∀ (x : SE) (b : Bool) {ds}, isBool x = true → (x.val (envOf (FT []) [i]) != 0) = b → Knows (envOf (FT []) [i]) ds → Knows (envOf (FT []) [i]) ((x, b) :: ds) := fun x b ds h1 h2 h3 => .cons (by rw [eS_k (isBool_ty h1)]; show Value.bool _ = _; rw [h2]) h3
    have v0 : (SE.ivar .i64 0).val (envOf (FT []) [i]) = i := hw
    refine g _ _ rfl ?_ (g _ _ rfl ?_ (g _ _ rfl ?_ (g _ _ rfl ?_ (g _ _ rfl ?_ .nil))))
    · simp only [SE.val, valCmp, b2i_ne]
      rw [show IntKind.i64.wrap ((envOf (FT []) [i]).iv 0) = i from hw]
      have : (i == IntKind.i64.wrap (-9223372036854775808)) = false := by rw [show IntKind.i64.wrap (-9223372036854775808) = -9223372036854775808 from rfl]; simp; omega
      rw [this]; rfl
    · simp only [SE.val, valCmp, b2i_ne]; simp
    · simp only [SE.val, valCmp, b2i_ne]
      exact decide_eq_true (show IntKind.i64.wrap i < 1073741824 by rw [hw]; omega)
    · simp only [SE.val, valCmp, b2i_ne]
      exact decide_eq_false (show ¬ IntKind.i64.wrap i < -1073741824 by rw [hw]; omega)
    · simp only [SE.val, valCmp, b2i_ne]
      exact decide_eq_true (show IntKind.i64.wrap i > -1073741824 by rw [hw]; omega)
  have hr : RelC (eV (envOf (FT []) [i])) [] (.opq (.ivar .i64 0)) (.int .i64 i) := by
    have := rel_opq (e := envOf (FT []) [i]) (σ := []) (.ivar .i64 0)
    rw [eS_k (k := some .i64) rfl] at this
    have e : cellV (some .i64) ((SE.ivar .i64 0).val (envOf (FT []) [i])) = .int .i64 i := by
      show Value.int .i64 (IntKind.i64.wrap i) = _
      rw [hw]
    rwa [e] at this
  refine pure_ev (c := cfT bW [] mbD) (d := 300) (vs := [mbB (.opq (.ivar .i64 0))]) (v := .one (.bool true)) (okT bW_ok bW_l tb_nil rfl hk) mb_run (.cons (.agg ?_) .nil) (.one .bool)
  exact .cons .int (.cons .int (.cons .int (.cons .int (.cons hr (.cons .int (.cons .int (.cons .int (.cons .int (.cons .int (.cons .int (.cons .int (.cons .int (.cons .int (.cons .int (.cons .int (.cons .int (.cons .int (.cons .int (.cons .int .nil)))))))))))))))))))
theorem mbK_ok : KOK Try.prog mbK := fun e σ f vs v us h hr => by
  unfold mbK at h
  cases hf : Nat.beq f 45 with
  | false => rw [hf] at h; cases h
  | true =>
    rw [hf, cond_true] at h
    have := Nat.eq_of_beq_eq_true hf
    subst this
    split at h
    · rename_i cs
      split at h
      · rename_i i hi
        cases hb : (eqvB (.agg cs) (mbB (.int .i64 i)) && decide (0 ≤ i ∧ i < 1000)) with
        | false => rw [hb] at h; cases h
        | true =>
          rw [hb, cond_true] at h
          cases h
          simp only [Bool.and_eq_true] at hb
          have e1 := eqvB_eq hb.1
          rw [e1] at hr
          rw [litVs_rel (xs := [mbB (.int .i64 i)]) rfl hr]
          exact ⟨by kernel_rfl, _, .one .bool, mb_pure i (of_decide_eq_true hb.2)⟩
      · cases h
    · cases h
end Go.Proofs.Ytedfbamihjnhhaa.Own
