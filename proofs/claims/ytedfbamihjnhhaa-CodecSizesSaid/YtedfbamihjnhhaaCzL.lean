/- Contracts of loops that go through lists: found by program, checked by the kernel. -/
import Derived.Test.YtedfbamihjnhhaaLm7
import Derived.Test.YtedfbamihjnhhaaFvJ
import Derived.Test.YtedfbamihjnhhaaPwB
namespace Go.Proofs.Ytedfbamihjnhhaa.Own
open Go Go.RowKit Go.Proofs
set_option linter.unusedVariables false
set_option maxRecDepth 100000
def pbS : List (Nat × V) := [(1, (.one (.sli 0 (.lvar 0)))), (0, (.one (.ptr 1 0))), (2, (.one (.fn 114 [(.ptr 2 0)]))), (9, (.one (.opq (.ivar .i64 3)))), (8, (.one (.opq (.len (.lvar 0))))), (7, (.any 7))]
def pbM : MB := [(1, [(.ptr 1 0), (.sli 3 (.lvar 1)), (.str ⟨#[]⟩), (.bool false), (.bool false)], 134, false), (2, [(.ptr 1 0)], 129, false), (3, [(.big (.lvar 1) [some .u8])], 5, true)]
def pbF : MB := [(0, [(.big (.lvar 2) [some .i64, some .u64, some .i64, some .u64, some .i64, some .u64, some .i64, some .u64, some .i64, some .u64, some .i64, some .u64, some .i64, some .u64, some .i64, some .u64, some .i64, some .u64, some .i64, some .i64])], 53, false)]
def pbfs : List (Bool × Nat) := [(false, 0), (true, 1), (false, 2), (true, 3), (false, 4), (true, 5), (false, 6), (true, 7), (false, 8), (true, 9), (false, 10), (true, 11), (false, 12), (true, 13), (false, 14), (true, 15), (false, 16), (true, 17), (false, 18), (false, 19)]
def pbT : RT := pvT pbfs
def pbL : LEnt := { f := 134, id := 1, num := 20091, nx := 4, S := [(1, (.one (.sli 0 (.lvar 0)))), (0, (.one (.ptr 1 0))), (2, (.one (.fn 114 [(.ptr 2 0)]))), (9, (.one (.int .i64 0))), (8, (.one (.opq (.len (.lvar 0))))), (7, (.any 7))], M := [(1, [(.ptr 1 0), (.sli 3 (.lvar 1)), (.str ⟨#[]⟩), (.bool false), (.bool false)], 134, false), (2, [(.ptr 1 0)], 129, false), (3, [(.big (.lvar 1) [some .u8])], 5, true)], F := pbF, kk := [0, 1, 2], outs := [{ x := (.exit 0), S := [(1, (.one (.sli 0 (.lvar 0)))), (0, (.one (.ptr 1 0))), (2, (.one (.fn 114 [(.ptr 2 0)]))), (7, (.any 7))], M := [(1, [(.ptr 1 0), (.sli 3 (.lvar 1)), (.str ⟨#[]⟩), (.bool false), (.bool false)], 134, false), (2, [(.ptr 1 0)], 129, false), (3, [(.big (.lvar 1) [some .u8])], 5, true)], cv := [(0, 0, none)] }], lv := [(3, 1), (0, 2)], sm := [], pre := [(.cmp .neq (.len (.lvar 0)) (.len (.lvar 2)), false), (.cmp .leq (.len (.lvar 0)) (.lit .i64 400), true), (.cmp .leq (.len (.lvar 1)) (.lit .i64 20000), true)] }
def pbI : List SE := [(.lvar 0), (.lvar 1), (.lvar 2), (.lit .i64 0)]
def pbC : List (Nat × Nat × Option (Option IntKind)) := [(0, 0, none)]
def pbn : Nat := 23
noncomputable def pbU : List Int → Nat := pvU
noncomputable def pbG : (Nat → List Int → List Int) → List Int → List Int := pvG pbfs
theorem pb_run (F : Nat → List Int → List Int) (xs : List Int) (hp : Pre pbL F xs) : RunOK (fun _ => pbT) F 0 (pbU xs) (pbI.map (SE.val (envOf F xs))) := pv_run (fs := pbfs) (by simp [pbfs]) (by decide) (hp.lv (0, 2) (by decide)) hp.pre
set_option maxHeartbeats 4000000 in
theorem pb_chk : checkR (bW.loops Lm7_L) Lm7_T 300 pbL.f pbn (bodyOf Try.prog pbL.f pbL.id) pbS pbM pbL.F pbL.nx pbS pbL.outs pbL.kk pbT [] = true := by kernel_rfl
theorem pb_ok : LCT Try.prog pbL (FT Lm7_T) (pbG (FT Lm7_T)) :=
 lct_of (b := bW.loops Lm7_L) (Tb := Lm7_T) (y := pbL) (M := pbM) (T := fun _ => pbT) (S := fun _ => pbS) (init := pbI) (loops_ok bW_ok _) (lb_of Lm7_lb) Lm7_ok (d := 300) (n := pbn) (by kernel_rfl) (by kernel_rfl) (by kernel_rfl) (by kernel_rfl) (fun _ _ _ => pb_chk) (fun xs hp => pb_run _ xs hp)
theorem pb_cst (F : Nat → List Int → List Int) : Cst pbL (pbG F) := cst_of pbC (by kernel_rfl) (fun _ _ _ => by kernel_rfl)
noncomputable def CzL_Tpb : List Ent := ⟨20091, [], .tup [], pbG, true⟩ :: Lm7_T
def CzL_Lpb : List LEnt := pbL :: Lm7_L
theorem CzL_okpb : TbOK Try.prog CzL_Tpb := tb_loop Lm7_ok rfl (by kernel_rfl)
theorem CzL_lbpb : LBs Try.prog CzL_Lpb CzL_Tpb := lbs_loop (y := pbL) Lm7_lb (by kernel_rfl) (by kernel_rfl) (by kernel_rfl) pb_ok (pb_cst _)
def ptS : List (Nat × V) := [(1, (.one (.sli 0 (.lvar 0)))), (0, (.one (.ptr 1 0))), (2, (.one (.fn 117 [(.ptr 2 0)]))), (9, (.one (.opq (.ivar .i64 2)))), (8, (.one (.opq (.len (.lvar 0))))), (7, (.any 7))]
def ptM : MB := [(1, [(.ptr 1 0), (.sli 3 (.lvar 1)), (.str ⟨#[]⟩), (.bool false), (.bool false)], 134, false), (2, [(.ptr 1 0)], 129, false), (3, [(.big (.lvar 1) [some .u8])], 5, true)]
def ptF : MB := [(0, [(.big (.lvar 0) [some .i64, some .i64, some .i64, some .u64, some .i64, some .u64])], 66, false)]
def ptfs : List (Bool × Nat) := [(false, 0), (false, 1), (false, 2), (true, 3), (false, 4), (true, 5)]
def ptT : RT := pwT ptfs
def ptL : LEnt := { f := 135, id := 1, num := 20092, nx := 4, S := [(1, (.one (.sli 0 (.lvar 0)))), (0, (.one (.ptr 1 0))), (2, (.one (.fn 117 [(.ptr 2 0)]))), (9, (.one (.int .i64 0))), (8, (.one (.opq (.len (.lvar 0))))), (7, (.any 7))], M := [(1, [(.ptr 1 0), (.sli 3 (.lvar 1)), (.str ⟨#[]⟩), (.bool false), (.bool false)], 134, false), (2, [(.ptr 1 0)], 129, false), (3, [(.big (.lvar 1) [some .u8])], 5, true)], F := ptF, kk := [0, 1, 2], outs := [{ x := (.exit 0), S := [(1, (.one (.sli 0 (.lvar 0)))), (0, (.one (.ptr 1 0))), (2, (.one (.fn 117 [(.ptr 2 0)]))), (7, (.any 7))], M := [(1, [(.ptr 1 0), (.sli 3 (.lvar 1)), (.str ⟨#[]⟩), (.bool false), (.bool false)], 134, false), (2, [(.ptr 1 0)], 129, false), (3, [(.big (.lvar 1) [some .u8])], 5, true)], cv := [(0, 0, none)] }], lv := [(3, 1), (0, 0)], sm := [], pre := [(.cmp .leq (.len (.lvar 0)) (.lit .i64 400), true), (.cmp .leq (.len (.lvar 1)) (.lit .i64 20000), true)] }
def ptI : List SE := [(.lvar 0), (.lvar 1), (.lit .i64 0)]
def ptC : List (Nat × Nat × Option (Option IntKind)) := [(0, 0, none)]
def ptn : Nat := 23
noncomputable def ptU : List Int → Nat := pwU
noncomputable def ptG : (Nat → List Int → List Int) → List Int → List Int := pwG ptfs
theorem pt_run (F : Nat → List Int → List Int) (xs : List Int) (hp : Pre ptL F xs) : RunOK (fun _ => ptT) F 0 (ptU xs) (ptI.map (SE.val (envOf F xs))) := pw_run (fs := ptfs) (by simp [ptfs]) (by decide) hp.pre
set_option maxHeartbeats 4000000 in
theorem pt_chk : checkR (bW.loops CzL_Lpb) CzL_Tpb 300 ptL.f ptn (bodyOf Try.prog ptL.f ptL.id) ptS ptM ptL.F ptL.nx ptS ptL.outs ptL.kk ptT [] = true := by kernel_rfl
theorem pt_ok : LCT Try.prog ptL (FT CzL_Tpb) (ptG (FT CzL_Tpb)) :=
 lct_of (b := bW.loops CzL_Lpb) (Tb := CzL_Tpb) (y := ptL) (M := ptM) (T := fun _ => ptT) (S := fun _ => ptS) (init := ptI) (loops_ok bW_ok _) (lb_of CzL_lbpb) CzL_okpb (d := 300) (n := ptn) (by kernel_rfl) (by kernel_rfl) (by kernel_rfl) (by kernel_rfl) (fun _ _ _ => pt_chk) (fun xs hp => pt_run _ xs hp)
theorem pt_cst (F : Nat → List Int → List Int) : Cst ptL (ptG F) := cst_of ptC (by kernel_rfl) (fun _ _ _ => by kernel_rfl)
noncomputable def CzL_Tpt : List Ent := ⟨20092, [], .tup [], ptG, true⟩ :: CzL_Tpb
def CzL_Lpt : List LEnt := ptL :: CzL_Lpb
theorem CzL_okpt : TbOK Try.prog CzL_Tpt := tb_loop CzL_okpb rfl (by kernel_rfl)
theorem CzL_lbpt : LBs Try.prog CzL_Lpt CzL_Tpt := lbs_loop (y := ptL) CzL_lbpb (by kernel_rfl) (by kernel_rfl) (by kernel_rfl) pt_ok (pt_cst _)
def prS : List (Nat × V) := [(1, (.one (.sli 0 (.lvar 0)))), (0, (.one (.ptr 1 0))), (2, (.one (.fn 119 [(.ptr 2 0)]))), (9, (.one (.opq (.ivar .i64 2)))), (8, (.one (.opq (.len (.lvar 0))))), (7, (.any 7))]
def prM : MB := [(1, [(.ptr 1 0), (.sli 3 (.lvar 1)), (.str ⟨#[]⟩), (.bool false), (.bool false)], 134, false), (2, [(.ptr 1 0)], 129, false), (3, [(.big (.lvar 1) [some .u8])], 5, true)]
def prF : MB := [(0, [(.big (.lvar 0) [some .i64, some .i64, some .u64, some .i64, some .u64, some .i64, some .i64, some .i64, some .i64, some .u64])], 62, false)]
def prfs : List (Bool × Nat) := [(false, 0), (false, 1), (true, 2), (false, 3), (true, 4), (false, 5), (false, 6), (false, 7), (false, 8), (true, 9)]
def prT : RT := pwT prfs
def prL : LEnt := { f := 136, id := 1, num := 20093, nx := 4, S := [(1, (.one (.sli 0 (.lvar 0)))), (0, (.one (.ptr 1 0))), (2, (.one (.fn 119 [(.ptr 2 0)]))), (9, (.one (.int .i64 0))), (8, (.one (.opq (.len (.lvar 0))))), (7, (.any 7))], M := [(1, [(.ptr 1 0), (.sli 3 (.lvar 1)), (.str ⟨#[]⟩), (.bool false), (.bool false)], 134, false), (2, [(.ptr 1 0)], 129, false), (3, [(.big (.lvar 1) [some .u8])], 5, true)], F := prF, kk := [0, 1, 2], outs := [{ x := (.exit 0), S := [(1, (.one (.sli 0 (.lvar 0)))), (0, (.one (.ptr 1 0))), (2, (.one (.fn 119 [(.ptr 2 0)]))), (7, (.any 7))], M := [(1, [(.ptr 1 0), (.sli 3 (.lvar 1)), (.str ⟨#[]⟩), (.bool false), (.bool false)], 134, false), (2, [(.ptr 1 0)], 129, false), (3, [(.big (.lvar 1) [some .u8])], 5, true)], cv := [(0, 0, none)] }], lv := [(3, 1), (0, 0)], sm := [], pre := [(.cmp .leq (.len (.lvar 0)) (.lit .i64 400), true), (.cmp .leq (.len (.lvar 1)) (.lit .i64 20000), true)] }
def prI : List SE := [(.lvar 0), (.lvar 1), (.lit .i64 0)]
def prC : List (Nat × Nat × Option (Option IntKind)) := [(0, 0, none)]
def prn : Nat := 23
noncomputable def prU : List Int → Nat := pwU
noncomputable def prG : (Nat → List Int → List Int) → List Int → List Int := pwG prfs
theorem pr_run (F : Nat → List Int → List Int) (xs : List Int) (hp : Pre prL F xs) : RunOK (fun _ => prT) F 0 (prU xs) (prI.map (SE.val (envOf F xs))) := pw_run (fs := prfs) (by simp [prfs]) (by decide) hp.pre
set_option maxHeartbeats 4000000 in
theorem pr_chk : checkR (bW.loops CzL_Lpt) CzL_Tpt 300 prL.f prn (bodyOf Try.prog prL.f prL.id) prS prM prL.F prL.nx prS prL.outs prL.kk prT [] = true := by kernel_rfl
theorem pr_ok : LCT Try.prog prL (FT CzL_Tpt) (prG (FT CzL_Tpt)) :=
 lct_of (b := bW.loops CzL_Lpt) (Tb := CzL_Tpt) (y := prL) (M := prM) (T := fun _ => prT) (S := fun _ => prS) (init := prI) (loops_ok bW_ok _) (lb_of CzL_lbpt) CzL_okpt (d := 300) (n := prn) (by kernel_rfl) (by kernel_rfl) (by kernel_rfl) (by kernel_rfl) (fun _ _ _ => pr_chk) (fun xs hp => pr_run _ xs hp)
theorem pr_cst (F : Nat → List Int → List Int) : Cst prL (prG F) := cst_of prC (by kernel_rfl) (fun _ _ _ => by kernel_rfl)
noncomputable def CzL_Tpr : List Ent := ⟨20093, [], .tup [], prG, true⟩ :: CzL_Tpt
def CzL_Lpr : List LEnt := prL :: CzL_Lpt
theorem CzL_okpr : TbOK Try.prog CzL_Tpr := tb_loop CzL_okpt rfl (by kernel_rfl)
theorem CzL_lbpr : LBs Try.prog CzL_Lpr CzL_Tpr := lbs_loop (y := prL) CzL_lbpt (by kernel_rfl) (by kernel_rfl) (by kernel_rfl) pr_ok (pr_cst _)
def paS : List (Nat × V) := [(1, (.one (.sli 0 (.lvar 0)))), (0, (.one (.ptr 1 0))), (2, (.one (.fn 121 [(.ptr 2 0)]))), (9, (.one (.opq (.ivar .i64 2)))), (8, (.one (.opq (.len (.lvar 0))))), (7, (.any 7))]
def paM : MB := [(1, [(.ptr 1 0), (.sli 3 (.lvar 1)), (.str ⟨#[]⟩), (.bool false), (.bool false)], 134, false), (2, [(.ptr 1 0)], 129, false), (3, [(.big (.lvar 1) [some .u8])], 5, true)]
def paF : MB := [(0, [(.big (.lvar 0) [some .i64])], 3, false)]
def pafs : List (Bool × Nat) := [(false, 0)]
def paT : RT := pwT pafs
def paL : LEnt := { f := 120, id := 1, num := 20094, nx := 4, S := [(1, (.one (.sli 0 (.lvar 0)))), (0, (.one (.ptr 1 0))), (2, (.one (.fn 121 [(.ptr 2 0)]))), (9, (.one (.int .i64 0))), (8, (.one (.opq (.len (.lvar 0))))), (7, (.any 7))], M := [(1, [(.ptr 1 0), (.sli 3 (.lvar 1)), (.str ⟨#[]⟩), (.bool false), (.bool false)], 134, false), (2, [(.ptr 1 0)], 129, false), (3, [(.big (.lvar 1) [some .u8])], 5, true)], F := paF, kk := [0, 1, 2], outs := [{ x := (.exit 0), S := [(1, (.one (.sli 0 (.lvar 0)))), (0, (.one (.ptr 1 0))), (2, (.one (.fn 121 [(.ptr 2 0)]))), (7, (.any 7))], M := [(1, [(.ptr 1 0), (.sli 3 (.lvar 1)), (.str ⟨#[]⟩), (.bool false), (.bool false)], 134, false), (2, [(.ptr 1 0)], 129, false), (3, [(.big (.lvar 1) [some .u8])], 5, true)], cv := [(0, 0, none)] }], lv := [(3, 1), (0, 0)], sm := [], pre := [(.cmp .leq (.len (.lvar 0)) (.lit .i64 400), true), (.cmp .leq (.len (.lvar 1)) (.lit .i64 20000), true)] }
def paI : List SE := [(.lvar 0), (.lvar 1), (.lit .i64 0)]
def paC : List (Nat × Nat × Option (Option IntKind)) := [(0, 0, none)]
def pan : Nat := 23
noncomputable def paU : List Int → Nat := pwU
noncomputable def paG : (Nat → List Int → List Int) → List Int → List Int := pwG pafs
theorem pa_run (F : Nat → List Int → List Int) (xs : List Int) (hp : Pre paL F xs) : RunOK (fun _ => paT) F 0 (paU xs) (paI.map (SE.val (envOf F xs))) := pw_run (fs := pafs) (by simp [pafs]) (by decide) hp.pre
set_option maxHeartbeats 4000000 in
theorem pa_chk : checkR (bW.loops CzL_Lpr) CzL_Tpr 300 paL.f pan (bodyOf Try.prog paL.f paL.id) paS paM paL.F paL.nx paS paL.outs paL.kk paT [] = true := by kernel_rfl
theorem pa_ok : LCT Try.prog paL (FT CzL_Tpr) (paG (FT CzL_Tpr)) :=
 lct_of (b := bW.loops CzL_Lpr) (Tb := CzL_Tpr) (y := paL) (M := paM) (T := fun _ => paT) (S := fun _ => paS) (init := paI) (loops_ok bW_ok _) (lb_of CzL_lbpr) CzL_okpr (d := 300) (n := pan) (by kernel_rfl) (by kernel_rfl) (by kernel_rfl) (by kernel_rfl) (fun _ _ _ => pa_chk) (fun xs hp => pa_run _ xs hp)
theorem pa_cst (F : Nat → List Int → List Int) : Cst paL (paG F) := cst_of paC (by kernel_rfl) (fun _ _ _ => by kernel_rfl)
noncomputable def CzL_Tpa : List Ent := ⟨20094, [], .tup [], paG, true⟩ :: CzL_Tpr
def CzL_Lpa : List LEnt := paL :: CzL_Lpr
theorem CzL_okpa : TbOK Try.prog CzL_Tpa := tb_loop CzL_okpr rfl (by kernel_rfl)
theorem CzL_lbpa : LBs Try.prog CzL_Lpa CzL_Tpa := lbs_loop (y := paL) CzL_lbpr (by kernel_rfl) (by kernel_rfl) (by kernel_rfl) pa_ok (pa_cst _)
def peS : List (Nat × V) := [(1, (.one (.sli 0 (.lvar 0)))), (0, (.one (.ptr 1 0))), (2, (.one (.fn 123 [(.ptr 2 0)]))), (9, (.one (.opq (.ivar .i64 2)))), (8, (.one (.opq (.len (.lvar 0))))), (7, (.any 7))]
def peM : MB := [(1, [(.ptr 1 0), (.sli 3 (.lvar 1)), (.str ⟨#[]⟩), (.bool false), (.bool false)], 134, false), (2, [(.ptr 1 0)], 129, false), (3, [(.big (.lvar 1) [some .u8])], 5, true)]
def peF : MB := [(0, [(.big (.lvar 0) [some .i64, some .i64, some .i64, some .i64])], 68, false)]
def pefs : List (Bool × Nat) := [(false, 0), (false, 1), (false, 2), (false, 3)]
def peT : RT := pwT pefs
def peL : LEnt := { f := 137, id := 1, num := 20095, nx := 4, S := [(1, (.one (.sli 0 (.lvar 0)))), (0, (.one (.ptr 1 0))), (2, (.one (.fn 123 [(.ptr 2 0)]))), (9, (.one (.int .i64 0))), (8, (.one (.opq (.len (.lvar 0))))), (7, (.any 7))], M := [(1, [(.ptr 1 0), (.sli 3 (.lvar 1)), (.str ⟨#[]⟩), (.bool false), (.bool false)], 134, false), (2, [(.ptr 1 0)], 129, false), (3, [(.big (.lvar 1) [some .u8])], 5, true)], F := peF, kk := [0, 1, 2], outs := [{ x := (.exit 0), S := [(1, (.one (.sli 0 (.lvar 0)))), (0, (.one (.ptr 1 0))), (2, (.one (.fn 123 [(.ptr 2 0)]))), (7, (.any 7))], M := [(1, [(.ptr 1 0), (.sli 3 (.lvar 1)), (.str ⟨#[]⟩), (.bool false), (.bool false)], 134, false), (2, [(.ptr 1 0)], 129, false), (3, [(.big (.lvar 1) [some .u8])], 5, true)], cv := [(0, 0, none)] }], lv := [(3, 1), (0, 0)], sm := [], pre := [(.cmp .leq (.len (.lvar 0)) (.lit .i64 400), true), (.cmp .leq (.len (.lvar 1)) (.lit .i64 20000), true)] }
def peI : List SE := [(.lvar 0), (.lvar 1), (.lit .i64 0)]
def peC : List (Nat × Nat × Option (Option IntKind)) := [(0, 0, none)]
def pen : Nat := 23
noncomputable def peU : List Int → Nat := pwU
noncomputable def peG : (Nat → List Int → List Int) → List Int → List Int := pwG pefs
theorem pe_run (F : Nat → List Int → List Int) (xs : List Int) (hp : Pre peL F xs) : RunOK (fun _ => peT) F 0 (peU xs) (peI.map (SE.val (envOf F xs))) := pw_run (fs := pefs) (by simp [pefs]) (by decide) hp.pre
set_option maxHeartbeats 4000000 in
theorem pe_chk : checkR (bW.loops CzL_Lpa) CzL_Tpa 300 peL.f pen (bodyOf Try.prog peL.f peL.id) peS peM peL.F peL.nx peS peL.outs peL.kk peT [] = true := by kernel_rfl
theorem pe_ok : LCT Try.prog peL (FT CzL_Tpa) (peG (FT CzL_Tpa)) :=
 lct_of (b := bW.loops CzL_Lpa) (Tb := CzL_Tpa) (y := peL) (M := peM) (T := fun _ => peT) (S := fun _ => peS) (init := peI) (loops_ok bW_ok _) (lb_of CzL_lbpa) CzL_okpa (d := 300) (n := pen) (by kernel_rfl) (by kernel_rfl) (by kernel_rfl) (by kernel_rfl) (fun _ _ _ => pe_chk) (fun xs hp => pe_run _ xs hp)
theorem pe_cst (F : Nat → List Int → List Int) : Cst peL (peG F) := cst_of peC (by kernel_rfl) (fun _ _ _ => by kernel_rfl)
noncomputable def CzL_Tpe : List Ent := ⟨20095, [], .tup [], peG, true⟩ :: CzL_Tpa
def CzL_Lpe : List LEnt := peL :: CzL_Lpa
theorem CzL_okpe : TbOK Try.prog CzL_Tpe := tb_loop CzL_okpa rfl (by kernel_rfl)
theorem CzL_lbpe : LBs Try.prog CzL_Lpe CzL_Tpe := lbs_loop (y := peL) CzL_lbpa (by kernel_rfl) (by kernel_rfl) (by kernel_rfl) pe_ok (pe_cst _)
noncomputable def CzL_T : List Ent := CzL_Tpe
def CzL_L : List LEnt := CzL_Lpe
theorem CzL_ok : TbOK Try.prog CzL_T := CzL_okpe
theorem CzL_lb : LBs Try.prog CzL_L CzL_T := CzL_lbpe
end Go.Proofs.Ytedfbamihjnhhaa.Own
