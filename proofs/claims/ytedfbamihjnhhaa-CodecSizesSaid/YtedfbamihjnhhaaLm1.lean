/- Contracts of loops that go through lists: found by program, checked by the kernel. -/
import Derived.Test.YtedfbamihjnhhaaTr5
namespace Go.Proofs.Ytedfbamihjnhhaa.Own
open Go Go.RowKit Go.Proofs
set_option linter.unusedVariables false
set_option maxRecDepth 100000
def mrS : List (Nat × V) := [(39, (.one (.sli 0 (.lvar 0)))), (2, (.one (.bool false))), (41, (.one (.opq (.ivar .i64 1)))), (40, (.one (.opq (.len (.lvar 0))))), (0, (.any 0)), (1, (.any 1)), (3, (.any 3)), (4, (.any 4)), (8, (.any 8)), (9, (.any 9)), (10, (.any 10)), (11, (.any 11)), (12, (.any 12)), (13, (.any 13)), (14, (.any 14)), (15, (.any 15)), (16, (.any 16)), (17, (.any 17)), (18, (.any 18)), (19, (.any 19)), (20, (.any 20)), (21, (.any 21)), (22, (.any 22)), (23, (.any 23)), (24, (.any 24)), (25, (.any 25)), (26, (.any 26)), (27, (.any 27)), (28, (.any 28)), (29, (.any 29)), (30, (.any 30)), (31, (.any 31)), (32, (.any 32)), (33, (.any 33)), (34, (.any 34)), (35, (.any 35)), (36, (.any 36)), (37, (.any 37)), (38, (.any 38))]
def mrM : MB := []
def mrF : MB := [(0, [(.big (.lvar 0) [some .i64, some .i64, some .u64, some .i64, some .u64, some .i64, some .i64, some .i64, some .i64, some .u64])], 62, false)]
def mrT : RT := (.ask (.cmp .lss (.ivar .i64 1) (.len (.lvar 0))) (.know (.cmp .geq (.ivar .i64 1) (.lit .i64 0)) true (.ask (.not (.app 42 0 none (.cons (.el (some .i64) (.lvar 0) (.ivar .i64 1) 0) (.cons (.el (some .i64) (.lvar 0) (.ivar .i64 1) 1) (.cons (.el (some .u64) (.lvar 0) (.ivar .i64 1) 2) (.cons (.el (some .i64) (.lvar 0) (.ivar .i64 1) 3) (.cons (.el (some .u64) (.lvar 0) (.ivar .i64 1) 4) (.cons (.el (some .i64) (.lvar 0) (.ivar .i64 1) 5) (.cons (.el (some .i64) (.lvar 0) (.ivar .i64 1) 6) (.cons (.el (some .i64) (.lvar 0) (.ivar .i64 1) 7) (.cons (.el (some .i64) (.lvar 0) (.ivar .i64 1) 8) (.cons (.el (some .u64) (.lvar 0) (.ivar .i64 1) 9) (.cons (.ivar .i64 1) .nil))))))))))))) (.out 0 [])
  (.next [(.lvar 0), (.bin .add .i64 (.ivar .i64 1) (.lit .i64 1))])))
  (.out 1 [(.lvar 0)]))
def mrL : LEnt := { f := 23, id := 5, num := 20031, nx := 1, S := [(39, (.one (.sli 0 (.lvar 0)))), (2, (.one (.bool false))), (41, (.one (.int .i64 0))), (40, (.one (.opq (.len (.lvar 0))))), (0, (.any 0)), (1, (.any 1)), (3, (.any 3)), (4, (.any 4)), (8, (.any 8)), (9, (.any 9)), (10, (.any 10)), (11, (.any 11)), (12, (.any 12)), (13, (.any 13)), (14, (.any 14)), (15, (.any 15)), (16, (.any 16)), (17, (.any 17)), (18, (.any 18)), (19, (.any 19)), (20, (.any 20)), (21, (.any 21)), (22, (.any 22)), (23, (.any 23)), (24, (.any 24)), (25, (.any 25)), (26, (.any 26)), (27, (.any 27)), (28, (.any 28)), (29, (.any 29)), (30, (.any 30)), (31, (.any 31)), (32, (.any 32)), (33, (.any 33)), (34, (.any 34)), (35, (.any 35)), (36, (.any 36)), (37, (.any 37)), (38, (.any 38))], M := [], F := mrF, kk := [0], outs := [{ x := .ret, S := [(2, (.one (.bool false)))], M := [], cv := [] }, { x := (.exit 0), S := [(39, (.one (.sli 0 (.lvar 0)))), (0, (.any 0)), (1, (.any 1)), (2, (.one (.bool false))), (3, (.any 3)), (4, (.any 4)), (8, (.any 8)), (9, (.any 9)), (10, (.any 10)), (11, (.any 11)), (12, (.any 12)), (13, (.any 13)), (14, (.any 14)), (15, (.any 15)), (16, (.any 16)), (17, (.any 17)), (18, (.any 18)), (19, (.any 19)), (20, (.any 20)), (21, (.any 21)), (22, (.any 22)), (23, (.any 23)), (24, (.any 24)), (25, (.any 25)), (26, (.any 26)), (27, (.any 27)), (28, (.any 28)), (29, (.any 29)), (30, (.any 30)), (31, (.any 31)), (32, (.any 32)), (33, (.any 33)), (34, (.any 34)), (35, (.any 35)), (36, (.any 36)), (37, (.any 37)), (38, (.any 38))], M := [], cv := [(0, 0, none)] }], lv := [(0, 0)], sm := [], pre := [] }
def mrI : List SE := [(.lvar 0), (.lit .i64 0)]
def mrC : List (Nat × Nat × Option (Option IntKind)) := [(0, 0, none)]
def mrn : Nat := 76
noncomputable def mrU (xs : List Int) : Nat := (dec (xs.getD 0 0)).length + 1
noncomputable def mrG : (Nat → List Int → List Int) → List Int → List Int := lpFn mrI (fun _ => mrT) mrU
theorem mr_run (F : Nat → List Int → List Int) (xs : List Int) (hp : Pre mrL F xs) : RunOK (fun _ => mrT) F 0 (mrU xs) (mrI.map (SE.val (envOf F xs))) :=
 range_ok (T := mrT) (c := 1) (lv := 0) (ex := []) (by kernel_rfl) (fun _ => True) (fun _ _ _ _ => trivial) (fun _ _ _ _ _ _ q hq => by cases hq) _ 0 0 _ (at_lit (I := mrI) (by kernel_rfl)) (by rw [at_lvar (I := mrI) (j0 := 0) (by kernel_rfl)]; unfold mrU; omega) (Nat.succ_pos _) (by rw [at_lvar (I := mrI) (j0 := 0) (by kernel_rfl)]; exact hp.lv (0, 0) (by decide)) trivial
set_option maxHeartbeats 4000000 in
theorem mr_chk : checkR (bW.loops Tr5_L) Tr5_T 300 mrL.f mrn (bodyOf Try.prog mrL.f mrL.id) mrS mrM mrL.F mrL.nx mrS mrL.outs mrL.kk mrT [] = true := by kernel_rfl
theorem mr_ok : LCT Try.prog mrL (FT Tr5_T) (mrG (FT Tr5_T)) :=
 lct_of (b := bW.loops Tr5_L) (Tb := Tr5_T) (y := mrL) (M := mrM) (T := fun _ => mrT) (S := fun _ => mrS) (init := mrI) (loops_ok bW_ok _) (lb_of Tr5_lb) Tr5_ok (d := 300) (n := mrn) (by kernel_rfl) (by kernel_rfl) (by kernel_rfl) (by kernel_rfl) (fun _ _ _ => mr_chk) (fun xs hp => mr_run _ xs hp)
theorem mr_cst (F : Nat → List Int → List Int) : Cst mrL (mrG F) := cst_of mrC (by kernel_rfl) (fun _ _ _ => by kernel_rfl)
noncomputable def Lm1_Tmr : List Ent := ⟨20031, [], .tup [], mrG, true⟩ :: Tr5_T
def Lm1_Lmr : List LEnt := mrL :: Tr5_L
theorem Lm1_okmr : TbOK Try.prog Lm1_Tmr := tb_loop Tr5_ok rfl (by kernel_rfl)
theorem Lm1_lbmr : LBs Try.prog Lm1_Lmr Lm1_Tmr := lbs_loop (y := mrL) Tr5_lb (by kernel_rfl) (by kernel_rfl) (by kernel_rfl) mr_ok (mr_cst _)
def ibS : List (Nat × V) := [(0, (.one (.sli 0 (.lvar 0)))), (1, (.one (.fn 44 []))), (4, (.one (.int .i64 0))), (8, (.one (.opq (.ivar .i64 1)))), (7, (.one (.opq (.len (.lvar 0))))), (6, (.any 6))]
def ibM : MB := []
def ibF : MB := [(0, [(.big (.lvar 0) [some .i64, some .u64, some .i64, some .u64, some .i64, some .u64, some .i64, some .u64, some .i64, some .u64, some .i64, some .u64, some .i64, some .u64, some .i64, some .u64, some .i64, some .u64, some .i64, some .i64])], 53, false)]
def ibT : RT := (.ask (.cmp .lss (.ivar .i64 1) (.len (.lvar 0))) (.know (.cmp .geq (.ivar .i64 1) (.lit .i64 0)) true (.ask (.app 44 0 none (.cons (.el (some .i64) (.lvar 0) (.ivar .i64 1) 0) (.cons (.el (some .u64) (.lvar 0) (.ivar .i64 1) 1) (.cons (.el (some .i64) (.lvar 0) (.ivar .i64 1) 2) (.cons (.el (some .u64) (.lvar 0) (.ivar .i64 1) 3) (.cons (.el (some .i64) (.lvar 0) (.ivar .i64 1) 4) (.cons (.el (some .u64) (.lvar 0) (.ivar .i64 1) 5) (.cons (.el (some .i64) (.lvar 0) (.ivar .i64 1) 6) (.cons (.el (some .u64) (.lvar 0) (.ivar .i64 1) 7) (.cons (.el (some .i64) (.lvar 0) (.ivar .i64 1) 8) (.cons (.el (some .u64) (.lvar 0) (.ivar .i64 1) 9) (.cons (.el (some .i64) (.lvar 0) (.ivar .i64 1) 10) (.cons (.el (some .u64) (.lvar 0) (.ivar .i64 1) 11) (.cons (.el (some .i64) (.lvar 0) (.ivar .i64 1) 12) (.cons (.el (some .u64) (.lvar 0) (.ivar .i64 1) 13) (.cons (.el (some .i64) (.lvar 0) (.ivar .i64 1) 14) (.cons (.el (some .u64) (.lvar 0) (.ivar .i64 1) 15) (.cons (.el (some .i64) (.lvar 0) (.ivar .i64 1) 16) (.cons (.el (some .u64) (.lvar 0) (.ivar .i64 1) 17) (.cons (.el (some .i64) (.lvar 0) (.ivar .i64 1) 18) (.cons (.el (some .i64) (.lvar 0) (.ivar .i64 1) 19) .nil))))))))))))))))))))) (.out 0 [(.ivar .i64 1)])
  (.next [(.lvar 0), (.bin .add .i64 (.ivar .i64 1) (.lit .i64 1))])))
  (.out 1 [(.lvar 0)]))
def ibL : LEnt := { f := 79, id := 2, num := 20032, nx := 1, S := [(0, (.one (.sli 0 (.lvar 0)))), (1, (.one (.fn 44 []))), (4, (.one (.int .i64 0))), (8, (.one (.int .i64 0))), (7, (.one (.opq (.len (.lvar 0))))), (6, (.any 6))], M := [], F := ibF, kk := [0], outs := [{ x := .ret, S := [(4, (.one (.opq (.ivar .i64 0))))], M := [], cv := [] }, { x := (.exit 0), S := [(0, (.one (.sli 0 (.lvar 0)))), (4, (.one (.int .i64 0))), (6, (.any 6))], M := [], cv := [(0, 0, none)] }], lv := [(0, 0)], sm := [], pre := [] }
def ibI : List SE := [(.lvar 0), (.lit .i64 0)]
def ibC : List (Nat × Nat × Option (Option IntKind)) := [(0, 0, none)]
def ibn : Nat := 19
noncomputable def ibU (xs : List Int) : Nat := (dec (xs.getD 0 0)).length + 1
noncomputable def ibG : (Nat → List Int → List Int) → List Int → List Int := lpFn ibI (fun _ => ibT) ibU
theorem ib_run (F : Nat → List Int → List Int) (xs : List Int) (hp : Pre ibL F xs) : RunOK (fun _ => ibT) F 0 (ibU xs) (ibI.map (SE.val (envOf F xs))) :=
 range_ok (T := ibT) (c := 1) (lv := 0) (ex := []) (by kernel_rfl) (fun _ => True) (fun _ _ _ _ => trivial) (fun _ _ _ _ _ _ q hq => by cases hq) _ 0 0 _ (at_lit (I := ibI) (by kernel_rfl)) (by rw [at_lvar (I := ibI) (j0 := 0) (by kernel_rfl)]; unfold ibU; omega) (Nat.succ_pos _) (by rw [at_lvar (I := ibI) (j0 := 0) (by kernel_rfl)]; exact hp.lv (0, 0) (by decide)) trivial
set_option maxHeartbeats 4000000 in
theorem ib_chk : checkR (bW.loops Lm1_Lmr) Lm1_Tmr 300 ibL.f ibn (bodyOf Try.prog ibL.f ibL.id) ibS ibM ibL.F ibL.nx ibS ibL.outs ibL.kk ibT [] = true := by kernel_rfl
theorem ib_ok : LCT Try.prog ibL (FT Lm1_Tmr) (ibG (FT Lm1_Tmr)) :=
 lct_of (b := bW.loops Lm1_Lmr) (Tb := Lm1_Tmr) (y := ibL) (M := ibM) (T := fun _ => ibT) (S := fun _ => ibS) (init := ibI) (loops_ok bW_ok _) (lb_of Lm1_lbmr) Lm1_okmr (d := 300) (n := ibn) (by kernel_rfl) (by kernel_rfl) (by kernel_rfl) (by kernel_rfl) (fun _ _ _ => ib_chk) (fun xs hp => ib_run _ xs hp)
theorem ib_cst (F : Nat → List Int → List Int) : Cst ibL (ibG F) := cst_of ibC (by kernel_rfl) (fun _ _ _ => by kernel_rfl)
noncomputable def Lm1_Tib : List Ent := ⟨20032, [], .tup [], ibG, true⟩ :: Lm1_Tmr
def Lm1_Lib : List LEnt := ibL :: Lm1_Lmr
theorem Lm1_okib : TbOK Try.prog Lm1_Tib := tb_loop Lm1_okmr rfl (by kernel_rfl)
theorem Lm1_lbib : LBs Try.prog Lm1_Lib Lm1_Tib := lbs_loop (y := ibL) Lm1_lbmr (by kernel_rfl) (by kernel_rfl) (by kernel_rfl) ib_ok (ib_cst _)
def itS : List (Nat × V) := [(0, (.one (.sli 0 (.lvar 0)))), (1, (.one (.fn 47 [(.ptr 1 0)]))), (4, (.one (.int .i64 0))), (8, (.one (.opq (.ivar .i64 2)))), (7, (.one (.opq (.len (.lvar 0))))), (6, (.any 6))]
def itM : MB := []
def itF : MB := [(0, [(.big (.lvar 0) [some .i64, some .i64, some .i64, some .u64, some .i64, some .u64])], 66, false), (1, [(.opq (.ivar .i64 1))], 3, false)]
def itT : RT := (.ask (.cmp .lss (.ivar .i64 2) (.len (.lvar 0))) (.know (.cmp .geq (.ivar .i64 2) (.lit .i64 0)) true (.ask (.app 51 0 none (.cons (.el (some .i64) (.lvar 0) (.ivar .i64 2) 0) (.cons (.lit .i64 0) (.cons (.bin .sub .i64 (.ivar .i64 1) (.lit .i64 1)) .nil)))) (.ask (.app 51 0 none (.cons (.el (some .i64) (.lvar 0) (.ivar .i64 2) 1) (.cons (.lit .i64 0) (.cons (.bin .sub .i64 (.ivar .i64 1) (.lit .i64 1)) .nil)))) (.ask (.cmp .neq (.el (some .i64) (.lvar 0) (.ivar .i64 2) 0) (.el (some .i64) (.lvar 0) (.ivar .i64 2) 1)) (.ask (.app 75 0 none (.cons (.el (some .i64) (.lvar 0) (.ivar .i64 2) 2) (.cons (.el (some .u64) (.lvar 0) (.ivar .i64 2) 3) (.cons (.lit .i64 1073741824) .nil)))) (.ask (.not (.and (.cmp .eql (.el (some .i64) (.lvar 0) (.ivar .i64 2) 2) (.lit .i64 0)) (.and (.cmp .eql (.el (some .u64) (.lvar 0) (.ivar .i64 2) 3) (.lit .u64 0)) (.cmp .eql (.lit .i64 1) (.lit .i64 1))))) (.ask (.not (.app 75 0 none (.cons (.el (some .i64) (.lvar 0) (.ivar .i64 2) 4) (.cons (.el (some .u64) (.lvar 0) (.ivar .i64 2) 5) (.cons (.lit .i64 1099511627776) .nil))))) (.out 0 [(.ivar .i64 2)])
  (.next [(.lvar 0), (.ivar .i64 1), (.bin .add .i64 (.ivar .i64 2) (.lit .i64 1))]))
  (.out 0 [(.ivar .i64 2)]))
  (.out 0 [(.ivar .i64 2)]))
  (.out 0 [(.ivar .i64 2)]))
  (.out 0 [(.ivar .i64 2)]))
  (.out 0 [(.ivar .i64 2)])))
  (.out 1 [(.lvar 0)]))
def itL : LEnt := { f := 86, id := 2, num := 20033, nx := 2, S := [(0, (.one (.sli 0 (.lvar 0)))), (1, (.one (.fn 47 [(.ptr 1 0)]))), (4, (.one (.int .i64 0))), (8, (.one (.int .i64 0))), (7, (.one (.opq (.len (.lvar 0))))), (6, (.any 6))], M := [], F := itF, kk := [0, 1], outs := [{ x := .ret, S := [(4, (.one (.opq (.ivar .i64 0))))], M := [], cv := [] }, { x := (.exit 0), S := [(0, (.one (.sli 0 (.lvar 0)))), (4, (.one (.int .i64 0))), (6, (.any 6))], M := [], cv := [(0, 0, none)] }], lv := [(0, 0)], sm := [], pre := [] }
def itI : List SE := [(.lvar 0), (.ivar .i64 1), (.lit .i64 0)]
def itC : List (Nat × Nat × Option (Option IntKind)) := [(0, 0, none), (1, 1, (some (some .i64)))]
def itn : Nat := 19
noncomputable def itU (xs : List Int) : Nat := (dec (xs.getD 0 0)).length + 1
noncomputable def itG : (Nat → List Int → List Int) → List Int → List Int := lpFn itI (fun _ => itT) itU
theorem it_run (F : Nat → List Int → List Int) (xs : List Int) (hp : Pre itL F xs) : RunOK (fun _ => itT) F 0 (itU xs) (itI.map (SE.val (envOf F xs))) :=
 range_ok (T := itT) (c := 2) (lv := 0) (ex := []) (by kernel_rfl) (fun _ => True) (fun _ _ _ _ => trivial) (fun _ _ _ _ _ _ q hq => by cases hq) _ 0 0 _ (at_lit (I := itI) (by kernel_rfl)) (by rw [at_lvar (I := itI) (j0 := 0) (by kernel_rfl)]; unfold itU; omega) (Nat.succ_pos _) (by rw [at_lvar (I := itI) (j0 := 0) (by kernel_rfl)]; exact hp.lv (0, 0) (by decide)) trivial
set_option maxHeartbeats 4000000 in
theorem it_chk : checkR (bW.loops Lm1_Lib) Lm1_Tib 300 itL.f itn (bodyOf Try.prog itL.f itL.id) itS itM itL.F itL.nx itS itL.outs itL.kk itT [] = true := by kernel_rfl
theorem it_ok : LCT Try.prog itL (FT Lm1_Tib) (itG (FT Lm1_Tib)) :=
 lct_of (b := bW.loops Lm1_Lib) (Tb := Lm1_Tib) (y := itL) (M := itM) (T := fun _ => itT) (S := fun _ => itS) (init := itI) (loops_ok bW_ok _) (lb_of Lm1_lbib) Lm1_okib (d := 300) (n := itn) (by kernel_rfl) (by kernel_rfl) (by kernel_rfl) (by kernel_rfl) (fun _ _ _ => it_chk) (fun xs hp => it_run _ xs hp)
theorem it_cst (F : Nat → List Int → List Int) : Cst itL (itG F) := cst_of itC (by kernel_rfl) (fun _ _ _ => by kernel_rfl)
noncomputable def Lm1_Tit : List Ent := ⟨20033, [], .tup [], itG, true⟩ :: Lm1_Tib
def Lm1_Lit : List LEnt := itL :: Lm1_Lib
theorem Lm1_okit : TbOK Try.prog Lm1_Tit := tb_loop Lm1_okib rfl (by kernel_rfl)
theorem Lm1_lbit : LBs Try.prog Lm1_Lit Lm1_Tit := lbs_loop (y := itL) Lm1_lbib (by kernel_rfl) (by kernel_rfl) (by kernel_rfl) it_ok (it_cst _)
def iaS : List (Nat × V) := [(0, (.one (.sli 0 (.lvar 0)))), (1, (.one (.fn 50 [(.ptr 1 0)]))), (4, (.one (.int .i64 0))), (8, (.one (.opq (.ivar .i64 2)))), (7, (.one (.opq (.len (.lvar 0))))), (6, (.any 6))]
def iaM : MB := []
def iaF : MB := [(0, [(.big (.lvar 0) [some .i64])], 3, false), (1, [(.opq (.ivar .i64 1))], 3, false)]
def iaT : RT := (.ask (.cmp .lss (.ivar .i64 2) (.len (.lvar 0))) (.know (.cmp .geq (.ivar .i64 2) (.lit .i64 0)) true (.ask (.not (.app 51 0 none (.cons (.el (some .i64) (.lvar 0) (.ivar .i64 2) 0) (.cons (.lit .i64 (-1)) (.cons (.bin .sub .i64 (.ivar .i64 1) (.lit .i64 1)) .nil))))) (.out 0 [(.ivar .i64 2)])
  (.next [(.lvar 0), (.ivar .i64 1), (.bin .add .i64 (.ivar .i64 2) (.lit .i64 1))])))
  (.out 1 [(.lvar 0)]))
def iaL : LEnt := { f := 87, id := 2, num := 20034, nx := 2, S := [(0, (.one (.sli 0 (.lvar 0)))), (1, (.one (.fn 50 [(.ptr 1 0)]))), (4, (.one (.int .i64 0))), (8, (.one (.int .i64 0))), (7, (.one (.opq (.len (.lvar 0))))), (6, (.any 6))], M := [], F := iaF, kk := [0, 1], outs := [{ x := .ret, S := [(4, (.one (.opq (.ivar .i64 0))))], M := [], cv := [] }, { x := (.exit 0), S := [(0, (.one (.sli 0 (.lvar 0)))), (4, (.one (.int .i64 0))), (6, (.any 6))], M := [], cv := [(0, 0, none)] }], lv := [(0, 0)], sm := [], pre := [] }
def iaI : List SE := [(.lvar 0), (.ivar .i64 1), (.lit .i64 0)]
def iaC : List (Nat × Nat × Option (Option IntKind)) := [(0, 0, none), (1, 1, (some (some .i64)))]
def ian : Nat := 19
noncomputable def iaU (xs : List Int) : Nat := (dec (xs.getD 0 0)).length + 1
noncomputable def iaG : (Nat → List Int → List Int) → List Int → List Int := lpFn iaI (fun _ => iaT) iaU
theorem ia_run (F : Nat → List Int → List Int) (xs : List Int) (hp : Pre iaL F xs) : RunOK (fun _ => iaT) F 0 (iaU xs) (iaI.map (SE.val (envOf F xs))) :=
 range_ok (T := iaT) (c := 2) (lv := 0) (ex := []) (by kernel_rfl) (fun _ => True) (fun _ _ _ _ => trivial) (fun _ _ _ _ _ _ q hq => by cases hq) _ 0 0 _ (at_lit (I := iaI) (by kernel_rfl)) (by rw [at_lvar (I := iaI) (j0 := 0) (by kernel_rfl)]; unfold iaU; omega) (Nat.succ_pos _) (by rw [at_lvar (I := iaI) (j0 := 0) (by kernel_rfl)]; exact hp.lv (0, 0) (by decide)) trivial
set_option maxHeartbeats 4000000 in
theorem ia_chk : checkR (bW.loops Lm1_Lit) Lm1_Tit 300 iaL.f ian (bodyOf Try.prog iaL.f iaL.id) iaS iaM iaL.F iaL.nx iaS iaL.outs iaL.kk iaT [] = true := by kernel_rfl
theorem ia_ok : LCT Try.prog iaL (FT Lm1_Tit) (iaG (FT Lm1_Tit)) :=
 lct_of (b := bW.loops Lm1_Lit) (Tb := Lm1_Tit) (y := iaL) (M := iaM) (T := fun _ => iaT) (S := fun _ => iaS) (init := iaI) (loops_ok bW_ok _) (lb_of Lm1_lbit) Lm1_okit (d := 300) (n := ian) (by kernel_rfl) (by kernel_rfl) (by kernel_rfl) (by kernel_rfl) (fun _ _ _ => ia_chk) (fun xs hp => ia_run _ xs hp)
theorem ia_cst (F : Nat → List Int → List Int) : Cst iaL (iaG F) := cst_of iaC (by kernel_rfl) (fun _ _ _ => by kernel_rfl)
noncomputable def Lm1_Tia : List Ent := ⟨20034, [], .tup [], iaG, true⟩ :: Lm1_Tit
def Lm1_Lia : List LEnt := iaL :: Lm1_Lit
theorem Lm1_okia : TbOK Try.prog Lm1_Tia := tb_loop Lm1_okit rfl (by kernel_rfl)
theorem Lm1_lbia : LBs Try.prog Lm1_Lia Lm1_Tia := lbs_loop (y := iaL) Lm1_lbit (by kernel_rfl) (by kernel_rfl) (by kernel_rfl) ia_ok (ia_cst _)
def meS : List (Nat × V) := [(8, (.one (.sli 0 (.lvar 0)))), (1, (.one (.opq (.ivar .i64 1)))), (4, (.one (.bool false))), (5, (.one (.opq (.ivar .i64 2)))), (10, (.one (.opq (.ivar .i64 3)))), (9, (.one (.opq (.len (.lvar 0))))), (0, (.any 0))]
def meM : MB := []
def meF : MB := [(0, [(.big (.lvar 0) [some .i64, some .i64, some .i64, some .i64])], 68, false)]
def meT : RT := (.ask (.cmp .lss (.ivar .i64 3) (.len (.lvar 0))) (.know (.cmp .geq (.ivar .i64 3) (.lit .i64 0)) true (.ask (.not (.app 51 0 none (.cons (.el (some .i64) (.lvar 0) (.ivar .i64 3) 0) (.cons (.ivar .i64 2) (.cons (.ivar .i64 1) .nil))))) (.out 0 [])
  (.ask (.not (.app 51 0 none (.cons (.el (some .i64) (.lvar 0) (.ivar .i64 3) 1) (.cons (.lit .i64 1) (.cons (.lit .i64 8) .nil))))) (.out 0 [])
  (.ask (.not (.app 51 0 none (.cons (.el (some .i64) (.lvar 0) (.ivar .i64 3) 2) (.cons (.lit .i64 (-1)) (.cons (.lit .i64 65535) .nil))))) (.out 0 [])
  (.ask (.not (.app 51 0 none (.cons (.el (some .i64) (.lvar 0) (.ivar .i64 3) 3) (.cons (.lit .i64 (-1)) (.cons (.lit .i64 65535) .nil))))) (.out 0 [])
  (.next [(.lvar 0), (.ivar .i64 1), (.el (some .i64) (.lvar 0) (.ivar .i64 3) 0), (.bin .add .i64 (.ivar .i64 3) (.lit .i64 1))]))))))
  (.out 1 [(.lvar 0)]))
def meL : LEnt := { f := 52, id := 3, num := 20022, nx := 1, S := [(8, (.one (.sli 0 (.lvar 0)))), (1, (.one (.opq (.ivar .i64 1)))), (4, (.one (.bool false))), (5, (.one (.int .i64 0))), (10, (.one (.int .i64 0))), (9, (.one (.opq (.len (.lvar 0))))), (0, (.any 0))], M := [], F := meF, kk := [0], outs := [{ x := .ret, S := [(4, (.one (.bool false)))], M := [], cv := [] }, { x := (.exit 0), S := [(8, (.one (.sli 0 (.lvar 0)))), (0, (.any 0)), (4, (.one (.bool false)))], M := [], cv := [(0, 0, none)] }], lv := [(0, 0)], sm := [], pre := [] }
def meI : List SE := [(.lvar 0), (.ivar .i64 1), (.lit .i64 0), (.lit .i64 0)]
def meC : List (Nat × Nat × Option (Option IntKind)) := [(0, 0, none), (1, 1, (some (some .i64)))]
def men : Nat := 44
noncomputable def meU (xs : List Int) : Nat := (dec (xs.getD 0 0)).length + 1
noncomputable def meG : (Nat → List Int → List Int) → List Int → List Int := lpFn meI (fun _ => meT) meU
theorem me_run (F : Nat → List Int → List Int) (xs : List Int) (hp : Pre meL F xs) : RunOK (fun _ => meT) F 0 (meU xs) (meI.map (SE.val (envOf F xs))) :=
 range_ok (T := meT) (c := 3) (lv := 0) (ex := []) (by kernel_rfl) (fun _ => True) (fun _ _ _ _ => trivial) (fun _ _ _ _ _ _ q hq => by cases hq) _ 0 0 _ (at_lit (I := meI) (by kernel_rfl)) (by rw [at_lvar (I := meI) (j0 := 0) (by kernel_rfl)]; unfold meU; omega) (Nat.succ_pos _) (by rw [at_lvar (I := meI) (j0 := 0) (by kernel_rfl)]; exact hp.lv (0, 0) (by decide)) trivial
set_option maxHeartbeats 4000000 in
theorem me_chk : checkR (bW.loops Lm1_Lia) Lm1_Tia 300 meL.f men (bodyOf Try.prog meL.f meL.id) meS meM meL.F meL.nx meS meL.outs meL.kk meT [] = true := by kernel_rfl
theorem me_ok : LCT Try.prog meL (FT Lm1_Tia) (meG (FT Lm1_Tia)) :=
 lct_of (b := bW.loops Lm1_Lia) (Tb := Lm1_Tia) (y := meL) (M := meM) (T := fun _ => meT) (S := fun _ => meS) (init := meI) (loops_ok bW_ok _) (lb_of Lm1_lbia) Lm1_okia (d := 300) (n := men) (by kernel_rfl) (by kernel_rfl) (by kernel_rfl) (by kernel_rfl) (fun _ _ _ => me_chk) (fun xs hp => me_run _ xs hp)
theorem me_cst (F : Nat → List Int → List Int) : Cst meL (meG F) := cst_of meC (by kernel_rfl) (fun _ _ _ => by kernel_rfl)
noncomputable def Lm1_Tme : List Ent := ⟨20022, [], .tup [], meG, true⟩ :: Lm1_Tia
def Lm1_Lme : List LEnt := meL :: Lm1_Lia
theorem Lm1_okme : TbOK Try.prog Lm1_Tme := tb_loop Lm1_okia rfl (by kernel_rfl)
theorem Lm1_lbme : LBs Try.prog Lm1_Lme Lm1_Tme := lbs_loop (y := meL) Lm1_lbia (by kernel_rfl) (by kernel_rfl) (by kernel_rfl) me_ok (me_cst _)
noncomputable def Lm1_T : List Ent := Lm1_Tme
def Lm1_L : List LEnt := Lm1_Lme
theorem Lm1_ok : TbOK Try.prog Lm1_T := Lm1_okme
theorem Lm1_lb : LBs Try.prog Lm1_L Lm1_T := Lm1_lbme
end Go.Proofs.Ytedfbamihjnhhaa.Own
