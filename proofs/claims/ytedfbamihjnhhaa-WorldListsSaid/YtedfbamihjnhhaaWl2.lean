/- Contracts of loops that go through lists: found by program, checked by the kernel. -/
import Derived.Test.YtedfbamihjnhhaaWlZ
namespace Go.Proofs.Ytedfbamihjnhhaa.Own
open Go Go.RowKit Go.Proofs
set_option linter.unusedVariables false
set_option maxRecDepth 100000
def meS : List (Nat × V) := [(8, (.one (.sli 0 (.lvar 0)))), (1, (.one (.opq (.ivar .i64 1)))), (4, (.one (.bool false))), (5, (.one (.opq (.ivar .i64 2)))), (10, (.one (.opq (.ivar .i64 3)))), (9, (.one (.opq (.len (.lvar 0))))), (0, (.any 0))]
def meM : MB := []
def meF : MB := [(0, [(.big (.lvar 0) [some .i64, some .i64, some .i64, some .i64])], 68, false)]
def meT : RT := (.ask (.cmp .lss (.ivar .i64 3) (.len (.lvar 0))) (.know (.cmp .geq (.ivar .i64 3) (.lit .i64 0)) true (.ask (.cmp .geq (.el (some .i64) (.lvar 0) (.ivar .i64 3) 0) (.ivar .i64 2)) (.ask (.not (.cmp .leq (.el (some .i64) (.lvar 0) (.ivar .i64 3) 0) (.ivar .i64 1))) (.out 0 [])
    (.ask (.cmp .geq (.el (some .i64) (.lvar 0) (.ivar .i64 3) 1) (.lit .i64 1)) (.ask (.not (.cmp .leq (.el (some .i64) (.lvar 0) (.ivar .i64 3) 1) (.lit .i64 8))) (.out 0 [])
    (.ask (.cmp .geq (.el (some .i64) (.lvar 0) (.ivar .i64 3) 2) (.lit .i64 (-1))) (.ask (.not (.cmp .leq (.el (some .i64) (.lvar 0) (.ivar .i64 3) 2) (.lit .i64 65535))) (.out 0 [])
    (.ask (.cmp .geq (.el (some .i64) (.lvar 0) (.ivar .i64 3) 3) (.lit .i64 (-1))) (.ask (.not (.cmp .leq (.el (some .i64) (.lvar 0) (.ivar .i64 3) 3) (.lit .i64 65535))) (.out 0 [])
    (.next [(.lvar 0), (.ivar .i64 1), (.el (some .i64) (.lvar 0) (.ivar .i64 3) 0), (.bin .add .i64 (.ivar .i64 3) (.lit .i64 1))]))
    (.out 0 [])))
    (.out 0 [])))
    (.out 0 [])))
    (.out 0 [])))
    (.out 1 [(.lvar 0)]))
def meL : LEnt := { f := 52, id := 3, num := 20022, nx := 1, S := [(8, (.one (.sli 0 (.lvar 0)))), (1, (.one (.opq (.ivar .i64 1)))), (4, (.one (.bool false))), (5, (.one (.int .i64 0))), (10, (.one (.int .i64 0))), (9, (.one (.opq (.len (.lvar 0))))), (0, (.any 0))], M := [], F := meF, kk := [0], outs := [{ x := .ret, S := [(4, (.one (.bool false)))], M := [], cv := [] }, { x := (.exit 0), S := [(8, (.one (.sli 0 (.lvar 0)))), (0, (.any 0)), (4, (.one (.bool false)))], M := [], cv := [(0, 0, none)] }], lv := [(0, 0)], sm := [], pre := [] }
def meI : List SE := [(.lvar 0), (.ivar .i64 1), (.lit .i64 0), (.lit .i64 0)]
def meC : List (Nat × Nat × Option (Option IntKind)) := [(0, 0, none), (1, 1, (some (some .i64)))]
def men : Nat := 44
noncomputable def meU (xs : List Int) : Nat := (dec (xs.getD 0 0)).length + 1
noncomputable def meG : (Nat → List Int → List Int) → List Int → List Int := lpFn meI (fun _ => meT) meU
theorem me_run (F : Nat → List Int → List Int) (xs : List Int) (hp : Pre meL F xs) : RunOK (fun _ => meT) F 0 (meU xs) (meI.map (SE.val (envOf F xs))) :=
  range_ok (T := meT) (c := 3) (lv := 0) (ex := []) (by kernel_rfl) (fun _ => True) (fun _ _ _ _ => trivial) (fun _ _ _ _ _ _ q hq => by cases hq) _ 0 0 _ (at_lit (I := meI) (by kernel_rfl)) (by rw [at_lvar (I := meI) (j0 := 0) (by kernel_rfl)]; unfold meU; omega) (Nat.succ_pos _) (by rw [at_lvar (I := meI) (j0 := 0) (by kernel_rfl)]; exact hp.lv (0, 0) (by decide)) trivial
set_option maxHeartbeats 4000000 in
theorem me_chk : checkR (bW.loops Z_L) Z_T 300 meL.f men (bodyOf Try.prog meL.f meL.id) meS meM meL.F meL.nx meS meL.outs meL.kk meT [] = true := by kernel_rfl
theorem me_ok : LCT Try.prog meL (FT Z_T) (meG (FT Z_T)) :=
  lct_of (b := bW.loops Z_L) (Tb := Z_T) (y := meL) (M := meM) (T := fun _ => meT) (S := fun _ => meS) (init := meI) (loops_ok bW_ok _) (lb_of Z_lb) Z_ok (d := 300) (n := men) (by kernel_rfl) (by kernel_rfl) (by kernel_rfl) (by kernel_rfl) (fun _ _ _ => me_chk) (fun xs hp => me_run _ xs hp)
theorem me_cst (F : Nat → List Int → List Int) : Cst meL (meG F) := cst_of meC (by kernel_rfl) (fun _ _ _ => by kernel_rfl)
noncomputable def Wl2_Tme : List Ent := ⟨20022, [], .tup [], meG, true⟩ :: Z_T
def Wl2_Xme : List Ent := ⟨20022, [], .tup [], fun _ _ => [], true⟩ :: Z_X
def Wl2_Lme : List LEnt := meL :: Z_L
theorem Wl2_okme : TbOK Try.prog Wl2_Tme := tb_loop Z_ok rfl (by kernel_rfl)
theorem Wl2_lbme : LBs Try.prog Wl2_Lme Wl2_Tme := lbs_loop (y := meL) Z_lb (by kernel_rfl) (by kernel_rfl) (by kernel_rfl) me_ok (me_cst _)
noncomputable def Wl2_T : List Ent := Wl2_Tme
def Wl2_X : List Ent := Wl2_Xme
def Wl2_L : List LEnt := Wl2_Lme
theorem Wl2_ok : TbOK Try.prog Wl2_T := Wl2_okme
theorem Wl2_lb : LBs Try.prog Wl2_L Wl2_T := Wl2_lbme
end Go.Proofs.Ytedfbamihjnhhaa.Own
