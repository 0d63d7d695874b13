/- Contracts as trees, found by program and checked by the kernel. -/
import Derived.Test.YtedfbamihjnhhaaTbH
namespace Go.Proofs.Ytedfbamihjnhhaa.Own
open Go Go.RowKit Go.Proofs
set_option linter.unusedVariables false
set_option maxRecDepth 100000
/-- perigeeref22.within -/
def tr53 : ST :=
  (.ask (.cmp .geq (.ivar .i64 0) (.ivar .i64 1)) (.leaf (.one (.opq (.cmp .leq (.ivar .i64 0) (.ivar .i64 2)))))
    (.leaf (.one (.bool false))))
noncomputable def Tr1_T53 : List Ent := ⟨53, [.one (some .i64), .one (some .i64), .one (some .i64)], .one (.one none), treeFn tr53, false⟩ :: TbH_T
set_option maxHeartbeats 4000000 in
theorem Tr1_ok53 : TbOK Try.prog Tr1_T53 := tb_tree (b := bW.loops TbH_L) (loops_ok bW_ok _) (lb_of TbH_lb) (d := 300) TbH_ok (fn rfl) (by kernel_rfl)
theorem Tr1_lb53 : LBs Try.prog TbH_L Tr1_T53 := lbs_cons TbH_lb (by kernel_rfl)
/-- perigeeref1.Int -/
def tr22 : ST :=
  (.leaf (.agg [(.opq (.mx .i64 (.ivar .i64 0) (.lit .i64 (-9223372036854775807)))), (.int .u64 0)]))
noncomputable def Tr1_T22 : List Ent := ⟨22, [.one (some .i64)], .one (.agg [some .i64, some .u64]), treeFn tr22, false⟩ :: Tr1_T53
set_option maxHeartbeats 4000000 in
theorem Tr1_ok22 : TbOK Try.prog Tr1_T22 := tb_tree (b := bW.loops TbH_L) (loops_ok bW_ok _) (lb_of Tr1_lb53) (d := 300) Tr1_ok53 (fn rfl) (by kernel_rfl)
theorem Tr1_lb22 : LBs Try.prog TbH_L Tr1_T22 := lbs_cons Tr1_lb53 (by kernel_rfl)
/-- perigeeref1.May -/
def tr89 : ST :=
  (.ask (.cmp .neq (.ivar .i64 0) (.lit .i64 (-9223372036854775808))) (.leaf (.one (.bool true)))
    (.leaf (.one (.opq (.cmp .neq (.ivar .u64 1) (.lit .u64 0))))))
noncomputable def Tr1_T89 : List Ent := ⟨89, [.agg [some .i64, some .u64]], .one (.one none), treeFn tr89, false⟩ :: Tr1_T22
set_option maxHeartbeats 4000000 in
theorem Tr1_ok89 : TbOK Try.prog Tr1_T89 := tb_tree (b := bW.loops TbH_L) (loops_ok bW_ok _) (lb_of Tr1_lb22) (d := 300) Tr1_ok22 (fn rfl) (by kernel_rfl)
theorem Tr1_lb89 : LBs Try.prog TbH_L Tr1_T89 := lbs_cons Tr1_lb22 (by kernel_rfl)
/-- perigeeref1.Cmp -/
def tr106 : ST :=
  (.ask (.cmp .lss (.ivar .i64 0) (.ivar .i64 2)) (.leaf (.one (.int .i64 (-1))))
    (.ask (.cmp .eql (.ivar .i64 0) (.ivar .i64 2)) (.ask (.cmp .lss (.ivar .u64 1) (.ivar .u64 3)) (.leaf (.one (.int .i64 (-1))))
    (.ask (.and (.cmp .eql (.ivar .i64 0) (.ivar .i64 2)) (.and (.cmp .eql (.ivar .u64 1) (.ivar .u64 3)) (.cmp .eql (.lit .i64 1) (.lit .i64 1)))) (.leaf (.one (.int .i64 0)))
    (.leaf (.one (.int .i64 1)))))
    (.ask (.and (.cmp .eql (.ivar .i64 0) (.ivar .i64 2)) (.and (.cmp .eql (.ivar .u64 1) (.ivar .u64 3)) (.cmp .eql (.lit .i64 1) (.lit .i64 1)))) (.leaf (.one (.int .i64 0)))
    (.leaf (.one (.int .i64 1))))))
noncomputable def Tr1_T106 : List Ent := ⟨106, [.agg [some .i64, some .u64], .agg [some .i64, some .u64]], .one (.one (some .i64)), treeFn tr106, false⟩ :: Tr1_T89
set_option maxHeartbeats 4000000 in
theorem Tr1_ok106 : TbOK Try.prog Tr1_T106 := tb_tree (b := bW.loops TbH_L) (loops_ok bW_ok _) (lb_of Tr1_lb89) (d := 300) Tr1_ok89 (fn rfl) (by kernel_rfl)
theorem Tr1_lb106 : LBs Try.prog TbH_L Tr1_T106 := lbs_cons Tr1_lb89 (by kernel_rfl)
/-- perigeeref22.from -/
def tr88 : ST :=
  (.ask (.app 89 0 none (.cons (.ivar .i64 0) (.cons (.ivar .u64 1) .nil))) (.ask (.cmp .geq (.app 106 0 (some .i64) (.cons (.ivar .i64 0) (.cons (.ivar .u64 1) (.cons (.ivar .i64 2) (.cons (.ivar .u64 3) .nil))))) (.lit .i64 0)) (.leaf (.one (.opq (.cmp .leq (.app 106 0 (some .i64) (.cons (.ivar .i64 0) (.cons (.ivar .u64 1) (.cons (.ivar .i64 4) (.cons (.ivar .u64 5) .nil))))) (.lit .i64 0)))))
    (.leaf (.one (.bool false))))
    (.leaf (.one (.bool false))))
noncomputable def Tr1_T88 : List Ent := ⟨88, [.agg [some .i64, some .u64], .agg [some .i64, some .u64], .agg [some .i64, some .u64]], .one (.one none), treeFn tr88, false⟩ :: Tr1_T106
set_option maxHeartbeats 4000000 in
theorem Tr1_ok88 : TbOK Try.prog Tr1_T88 := tb_tree (b := bW.loops TbH_L) (loops_ok bW_ok _) (lb_of Tr1_lb106) (d := 300) Tr1_ok106 (fn rfl) (by kernel_rfl)
theorem Tr1_lb88 : LBs Try.prog TbH_L Tr1_T88 := lbs_cons Tr1_lb106 (by kernel_rfl)
/-- perigeeref22.to -/
def tr54 : ST :=
  (.leaf (.one (.opq (.app 88 0 none (.cons (.ivar .i64 0) (.cons (.ivar .u64 1) (.cons (.lit .i64 0) (.cons (.lit .u64 0) (.cons (.app 22 0 (some .i64) (.cons (.ivar .i64 2) .nil)) (.cons (.app 22 1 (some .u64) (.cons (.ivar .i64 2) .nil)) .nil))))))))))
noncomputable def Tr1_T54 : List Ent := ⟨54, [.agg [some .i64, some .u64], .one (some .i64)], .one (.one none), treeFn tr54, false⟩ :: Tr1_T88
set_option maxHeartbeats 4000000 in
theorem Tr1_ok54 : TbOK Try.prog Tr1_T54 := tb_tree (b := bW.loops TbH_L) (loops_ok bW_ok _) (lb_of Tr1_lb88) (d := 300) Tr1_ok88 (fn rfl) (by kernel_rfl)
theorem Tr1_lb54 : LBs Try.prog TbH_L Tr1_T54 := lbs_cons Tr1_lb88 (by kernel_rfl)
/-- perigeeref1.MayVec -/
def tr55 : ST :=
  (.ask (.app 89 0 none (.cons (.ivar .i64 0) (.cons (.ivar .u64 1) .nil))) (.leaf (.one (.opq (.app 89 0 none (.cons (.ivar .i64 2) (.cons (.ivar .u64 3) .nil))))))
    (.leaf (.one (.bool false))))
noncomputable def Tr1_T55 : List Ent := ⟨55, [.agg [some .i64, some .u64, some .i64, some .u64]], .one (.one none), treeFn tr55, false⟩ :: Tr1_T54
set_option maxHeartbeats 4000000 in
theorem Tr1_ok55 : TbOK Try.prog Tr1_T55 := tb_tree (b := bW.loops TbH_L) (loops_ok bW_ok _) (lb_of Tr1_lb54) (d := 300) Tr1_ok54 (fn rfl) (by kernel_rfl)
theorem Tr1_lb55 : LBs Try.prog TbH_L Tr1_T55 := lbs_cons Tr1_lb54 (by kernel_rfl)
/-- perigeeref1.Less -/
def tr35 : ST :=
  (.ask (.cmp .lss (.ivar .u64 0) (.ivar .u64 2)) (.leaf (.one (.bool true)))
    (.ask (.cmp .eql (.ivar .u64 0) (.ivar .u64 2)) (.leaf (.one (.opq (.cmp .lss (.ivar .u64 1) (.ivar .u64 3)))))
    (.leaf (.one (.bool false)))))
noncomputable def Tr1_T35 : List Ent := ⟨35, [.agg [some .u64, some .u64], .agg [some .u64, some .u64]], .one (.one none), treeFn tr35, false⟩ :: Tr1_T55
set_option maxHeartbeats 4000000 in
theorem Tr1_ok35 : TbOK Try.prog Tr1_T35 := tb_tree (b := bW.loops TbH_L) (loops_ok bW_ok _) (lb_of Tr1_lb55) (d := 300) Tr1_ok55 (fn rfl) (by kernel_rfl)
theorem Tr1_lb35 : LBs Try.prog TbH_L Tr1_T35 := lbs_cons Tr1_lb55 (by kernel_rfl)
/-- perigeeref1.SubTwo -/
def tr36 : ST :=
  (.ask (.cmp .lss (.ivar .u64 1) (.ivar .u64 3)) (.leaf (.agg [(.opq (.bin .sub .u64 (.bin .sub .u64 (.ivar .u64 0) (.ivar .u64 2)) (.lit .u64 1))), (.opq (.bin .sub .u64 (.ivar .u64 1) (.ivar .u64 3))), (.opq (.app 35 0 none (.cons (.ivar .u64 0) (.cons (.ivar .u64 1) (.cons (.ivar .u64 2) (.cons (.ivar .u64 3) .nil))))))]))
    (.leaf (.agg [(.opq (.bin .sub .u64 (.bin .sub .u64 (.ivar .u64 0) (.ivar .u64 2)) (.lit .u64 0))), (.opq (.bin .sub .u64 (.ivar .u64 1) (.ivar .u64 3))), (.opq (.app 35 0 none (.cons (.ivar .u64 0) (.cons (.ivar .u64 1) (.cons (.ivar .u64 2) (.cons (.ivar .u64 3) .nil))))))])))
noncomputable def Tr1_T36 : List Ent := ⟨36, [.agg [some .u64, some .u64], .agg [some .u64, some .u64]], .one (.agg [some .u64, some .u64, none]), treeFn tr36, false⟩ :: Tr1_T35
set_option maxHeartbeats 4000000 in
theorem Tr1_ok36 : TbOK Try.prog Tr1_T36 := tb_tree (b := bW.loops TbH_L) (loops_ok bW_ok _) (lb_of Tr1_lb35) (d := 300) Tr1_ok35 (fn rfl) (by kernel_rfl)
theorem Tr1_lb36 : LBs Try.prog TbH_L Tr1_T36 := lbs_cons Tr1_lb35 (by kernel_rfl)
/-- perigeeref1.Neg -/
def tr73 : ST :=
  (.leaf (.agg [(.opq (.conv .i64 (.app 36 0 (some .u64) (.cons (.lit .u64 0) (.cons (.lit .u64 0) (.cons (.conv .u64 (.ivar .i64 0)) (.cons (.ivar .u64 1) .nil))))))), (.opq (.app 36 1 (some .u64) (.cons (.lit .u64 0) (.cons (.lit .u64 0) (.cons (.conv .u64 (.ivar .i64 0)) (.cons (.ivar .u64 1) .nil))))))]))
noncomputable def Tr1_T73 : List Ent := ⟨73, [.agg [some .i64, some .u64]], .one (.agg [some .i64, some .u64]), treeFn tr73, false⟩ :: Tr1_T36
set_option maxHeartbeats 4000000 in
theorem Tr1_ok73 : TbOK Try.prog Tr1_T73 := tb_tree (b := bW.loops TbH_L) (loops_ok bW_ok _) (lb_of Tr1_lb36) (d := 300) Tr1_ok36 (fn rfl) (by kernel_rfl)
theorem Tr1_lb73 : LBs Try.prog TbH_L Tr1_T73 := lbs_cons Tr1_lb36 (by kernel_rfl)
/-- perigeeref1.Mag -/
def tr32 : ST :=
  (.ask (.cmp .lss (.ivar .i64 0) (.lit .i64 0)) (.leaf (.agg [(.opq (.conv .u64 (.app 73 0 (some .i64) (.cons (.ivar .i64 0) (.cons (.ivar .u64 1) .nil))))), (.opq (.app 73 1 (some .u64) (.cons (.ivar .i64 0) (.cons (.ivar .u64 1) .nil))))]))
    (.leaf (.agg [(.opq (.conv .u64 (.ivar .i64 0))), (.opq (.ivar .u64 1))])))
noncomputable def Tr1_T32 : List Ent := ⟨32, [.agg [some .i64, some .u64]], .one (.agg [some .u64, some .u64]), treeFn tr32, false⟩ :: Tr1_T73
set_option maxHeartbeats 4000000 in
theorem Tr1_ok32 : TbOK Try.prog Tr1_T32 := tb_tree (b := bW.loops TbH_L) (loops_ok bW_ok _) (lb_of Tr1_lb73) (d := 300) Tr1_ok73 (fn rfl) (by kernel_rfl)
theorem Tr1_lb32 : LBs Try.prog TbH_L Tr1_T32 := lbs_cons Tr1_lb73 (by kernel_rfl)
/-- perigeeref1.AddTwo -/
def tr34 : ST :=
  (.ask (.cmp .lss (.bin .add .u64 (.ivar .u64 1) (.ivar .u64 3)) (.ivar .u64 1)) (.ask (.cmp .lss (.bin .add .u64 (.ivar .u64 0) (.ivar .u64 2)) (.ivar .u64 0)) (.leaf (.agg [(.opq (.bin .add .u64 (.bin .add .u64 (.ivar .u64 0) (.ivar .u64 2)) (.lit .u64 1))), (.opq (.bin .add .u64 (.ivar .u64 1) (.ivar .u64 3))), (.bool true)]))
    (.leaf (.agg [(.opq (.bin .add .u64 (.bin .add .u64 (.ivar .u64 0) (.ivar .u64 2)) (.lit .u64 1))), (.opq (.bin .add .u64 (.ivar .u64 1) (.ivar .u64 3))), (.opq (.cmp .eql (.bin .add .u64 (.bin .add .u64 (.ivar .u64 0) (.ivar .u64 2)) (.lit .u64 1)) (.lit .u64 0)))])))
    (.ask (.cmp .lss (.bin .add .u64 (.ivar .u64 0) (.ivar .u64 2)) (.ivar .u64 0)) (.leaf (.agg [(.opq (.bin .add .u64 (.bin .add .u64 (.ivar .u64 0) (.ivar .u64 2)) (.lit .u64 0))), (.opq (.bin .add .u64 (.ivar .u64 1) (.ivar .u64 3))), (.bool true)]))
    (.leaf (.agg [(.opq (.bin .add .u64 (.bin .add .u64 (.ivar .u64 0) (.ivar .u64 2)) (.lit .u64 0))), (.opq (.bin .add .u64 (.ivar .u64 1) (.ivar .u64 3))), (.bool false)]))))
noncomputable def Tr1_T34 : List Ent := ⟨34, [.agg [some .u64, some .u64], .agg [some .u64, some .u64]], .one (.agg [some .u64, some .u64, none]), treeFn tr34, false⟩ :: Tr1_T32
set_option maxHeartbeats 4000000 in
theorem Tr1_ok34 : TbOK Try.prog Tr1_T34 := tb_tree (b := bW.loops TbH_L) (loops_ok bW_ok _) (lb_of Tr1_lb32) (d := 300) Tr1_ok32 (fn rfl) (by kernel_rfl)
theorem Tr1_lb34 : LBs Try.prog TbH_L Tr1_T34 := lbs_cons Tr1_lb32 (by kernel_rfl)
/-- perigeeref1.signed -/
def tr33 : ST :=
  (.ask (.not (.and (.cmp .eql (.ivar .u64 1) (.lit .u64 0)) (.and (.cmp .eql (.ivar .u64 2) (.lit .u64 0)) (.cmp .eql (.lit .i64 1) (.lit .i64 1))))) (.leaf (.agg [(.int .i64 0), (.int .u64 0), (.int .i64 3)]))
    (.ask (.cmp .geq (.ivar .u64 3) (.lit .u64 9223372036854775808)) (.leaf (.agg [(.int .i64 0), (.int .u64 0), (.int .i64 3)]))
    (.ask (.bvar 0) (.leaf (.agg [(.opq (.app 73 0 (some .i64) (.cons (.conv .i64 (.ivar .u64 3)) (.cons (.ivar .u64 4) .nil)))), (.opq (.app 73 1 (some .u64) (.cons (.conv .i64 (.ivar .u64 3)) (.cons (.ivar .u64 4) .nil)))), (.int .i64 0)]))
    (.leaf (.agg [(.opq (.conv .i64 (.ivar .u64 3))), (.opq (.ivar .u64 4)), (.int .i64 0)])))))
noncomputable def Tr1_T33 : List Ent := ⟨33, [.one none, .agg [some .u64, some .u64, some .u64, some .u64]], .one (.agg [some .i64, some .u64, some .i64]), treeFn tr33, false⟩ :: Tr1_T34
set_option maxHeartbeats 4000000 in
theorem Tr1_ok33 : TbOK Try.prog Tr1_T33 := tb_tree (b := bW.loops TbH_L) (loops_ok bW_ok _) (lb_of Tr1_lb34) (d := 300) Tr1_ok34 (fn rfl) (by kernel_rfl)
theorem Tr1_lb33 : LBs Try.prog TbH_L Tr1_T33 := lbs_cons Tr1_lb34 (by kernel_rfl)
/-- perigeeref10.beyond -/
def tr131 : ST :=
  (.ask (.cmp .gtr (.app 106 0 (some .i64) (.cons (.ivar .i64 0) (.cons (.ivar .u64 1) (.cons (.app 22 0 (some .i64) (.cons (.ivar .i64 2) .nil)) (.cons (.app 22 1 (some .u64) (.cons (.ivar .i64 2) .nil)) .nil))))) (.lit .i64 0)) (.leaf (.one (.bool true)))
    (.leaf (.one (.opq (.cmp .lss (.app 106 0 (some .i64) (.cons (.ivar .i64 0) (.cons (.ivar .u64 1) (.cons (.app 22 0 (some .i64) (.cons (.bin .sub .i64 (.lit .i64 0) (.ivar .i64 2)) .nil)) (.cons (.app 22 1 (some .u64) (.cons (.bin .sub .i64 (.lit .i64 0) (.ivar .i64 2)) .nil)) .nil))))) (.lit .i64 0))))))
noncomputable def Tr1_T131 : List Ent := ⟨131, [.agg [some .i64, some .u64], .one (some .i64)], .one (.one none), treeFn tr131, false⟩ :: Tr1_T33
set_option maxHeartbeats 4000000 in
theorem Tr1_ok131 : TbOK Try.prog Tr1_T131 := tb_tree (b := bW.loops TbH_L) (loops_ok bW_ok _) (lb_of Tr1_lb33) (d := 300) Tr1_ok33 (fn rfl) (by kernel_rfl)
theorem Tr1_lb131 : LBs Try.prog TbH_L Tr1_T131 := lbs_cons Tr1_lb33 (by kernel_rfl)
/-- perigeeref1.Sub -/
def tr108 : ST :=
  (.leaf (.agg [(.opq (.app 19 0 (some .i64) (.cons (.ivar .i64 0) (.cons (.ivar .u64 1) (.cons (.app 73 0 (some .i64) (.cons (.ivar .i64 2) (.cons (.ivar .u64 3) .nil))) (.cons (.app 73 1 (some .u64) (.cons (.ivar .i64 2) (.cons (.ivar .u64 3) .nil))) .nil)))))), (.opq (.app 19 1 (some .u64) (.cons (.ivar .i64 0) (.cons (.ivar .u64 1) (.cons (.app 73 0 (some .i64) (.cons (.ivar .i64 2) (.cons (.ivar .u64 3) .nil))) (.cons (.app 73 1 (some .u64) (.cons (.ivar .i64 2) (.cons (.ivar .u64 3) .nil))) .nil)))))), (.opq (.app 19 2 (some .i64) (.cons (.ivar .i64 0) (.cons (.ivar .u64 1) (.cons (.app 73 0 (some .i64) (.cons (.ivar .i64 2) (.cons (.ivar .u64 3) .nil))) (.cons (.app 73 1 (some .u64) (.cons (.ivar .i64 2) (.cons (.ivar .u64 3) .nil))) .nil))))))]))
noncomputable def Tr1_T108 : List Ent := ⟨108, [.agg [some .i64, some .u64], .agg [some .i64, some .u64]], .one (.agg [some .i64, some .u64, some .i64]), treeFn tr108, false⟩ :: Tr1_T131
set_option maxHeartbeats 4000000 in
theorem Tr1_ok108 : TbOK Try.prog Tr1_T108 := tb_tree (b := bW.loops TbH_L) (loops_ok bW_ok _) (lb_of Tr1_lb131) (d := 300) Tr1_ok131 (fn rfl) (by kernel_rfl)
theorem Tr1_lb108 : LBs Try.prog TbH_L Tr1_T108 := lbs_cons Tr1_lb131 (by kernel_rfl)
/-- perigeeref10.Inside -/
def tr109 : ST :=
  (.ask (.not (.app 131 0 none (.cons (.ivar .i64 0) (.cons (.ivar .u64 1) (.cons (.lit .i64 1073741824) .nil))))) (.leaf (.one (.opq (.not (.app 131 0 none (.cons (.ivar .i64 2) (.cons (.ivar .u64 3) (.cons (.lit .i64 1073741824) .nil))))))))
    (.leaf (.one (.bool false))))
noncomputable def Tr1_T109 : List Ent := ⟨109, [.agg [some .i64, some .u64, some .i64, some .u64]], .one (.one none), treeFn tr109, false⟩ :: Tr1_T108
set_option maxHeartbeats 4000000 in
theorem Tr1_ok109 : TbOK Try.prog Tr1_T109 := tb_tree (b := bW.loops TbH_L) (loops_ok bW_ok _) (lb_of Tr1_lb108) (d := 300) Tr1_ok108 (fn rfl) (by kernel_rfl)
theorem Tr1_lb109 : LBs Try.prog TbH_L Tr1_T109 := lbs_cons Tr1_lb108 (by kernel_rfl)
/-- perigeeref22.MayRail -/
def tr91 : ST :=
  (.ask (.cmp .geq (.ivar .i64 0) (.lit .i64 (-1))) (.ask (.cmp .lss (.ivar .i64 0) (.ivar .i64 10)) (.ask (.app 54 0 none (.cons (.ivar .i64 1) (.cons (.ivar .u64 2) (.cons (.lit .i64 268435456) .nil)))) (.ask (.app 88 0 none (.cons (.ivar .i64 3) (.cons (.ivar .u64 4) (.cons (.lit .i64 0) (.cons (.lit .u64 0) (.cons (.lit .i64 0) (.cons (.lit .u64 17293822569102704640) .nil))))))) (.ask (.app 53 0 none (.cons (.ivar .i64 5) (.cons (.lit .i64 0) (.cons (.lit .i64 65535) .nil)))) (.ask (.app 53 0 none (.cons (.ivar .i64 6) (.cons (.lit .i64 0) (.cons (.lit .i64 65535) .nil)))) (.ask (.app 53 0 none (.cons (.ivar .i64 7) (.cons (.lit .i64 1) (.cons (.lit .i64 1073741824) .nil)))) (.leaf (.one (.opq (.app 54 0 none (.cons (.ivar .i64 8) (.cons (.ivar .u64 9) (.cons (.lit .i64 1073741824) .nil)))))))
    (.leaf (.one (.bool false))))
    (.leaf (.one (.bool false))))
    (.leaf (.one (.bool false))))
    (.leaf (.one (.bool false))))
    (.leaf (.one (.bool false))))
    (.leaf (.one (.bool false))))
    (.leaf (.one (.bool false))))
noncomputable def Tr1_T91 : List Ent := ⟨91, [.agg [some .i64, some .i64, some .u64, some .i64, some .u64, some .i64, some .i64, some .i64, some .i64, some .u64], .one (some .i64)], .one (.one none), treeFn tr91, false⟩ :: Tr1_T109
set_option maxHeartbeats 4000000 in
theorem Tr1_ok91 : TbOK Try.prog Tr1_T91 := tb_tree (b := bW.loops TbH_L) (loops_ok bW_ok _) (lb_of Tr1_lb109) (d := 300) Tr1_ok109 (fn rfl) (by kernel_rfl)
theorem Tr1_lb91 : LBs Try.prog TbH_L Tr1_T91 := lbs_cons Tr1_lb109 (by kernel_rfl)
/-- fix.wide -/
def tr68 : ST :=
  (.leaf (.agg [(.int .u64 0), (.int .u64 0), (.opq (.ivar .u64 0)), (.opq (.ivar .u64 1))]))
noncomputable def Tr1_T68 : List Ent := ⟨68, [.agg [some .u64, some .u64]], .one (.agg [some .u64, some .u64, some .u64, some .u64]), treeFn tr68, false⟩ :: Tr1_T91
set_option maxHeartbeats 4000000 in
theorem Tr1_ok68 : TbOK Try.prog Tr1_T68 := tb_tree (b := bW.loops TbH_L) (loops_ok bW_ok _) (lb_of Tr1_lb91) (d := 300) Tr1_ok91 (fn rfl) (by kernel_rfl)
theorem Tr1_lb68 : LBs Try.prog TbH_L Tr1_T68 := lbs_cons Tr1_lb91 (by kernel_rfl)
/-- perigeelaw9.Body -/
def tr72 : ST :=
  (.leaf (.agg [(.opq (.app 22 0 (some .i64) (.cons (.bin .add .i64 (.lit .i64 1) (.bin .rem .i64 (.conv .i64 (.ivar .u8 2)) (.lit .i64 9))) .nil))), (.opq (.app 22 1 (some .u64) (.cons (.bin .add .i64 (.lit .i64 1) (.bin .rem .i64 (.conv .i64 (.ivar .u8 2)) (.lit .i64 9))) .nil))), (.opq (.conv .i64 (.bin .rem .u8 (.ivar .u8 3) (.lit .u8 3)))), (.int .u64 4611686018427387904), (.opq (.bin .sub .i64 (.conv .i64 (.ivar .u8 0)) (.lit .i64 128))), (.opq (.bin .shl .u64 (.conv .u64 (.ivar .u8 1)) (.lit .u64 56))), (.opq (.bin .sub .i64 (.conv .i64 (.ivar .u8 1)) (.lit .i64 128))), (.opq (.bin .shl .u64 (.conv .u64 (.ivar .u8 2)) (.lit .u64 40))), (.opq (.bin .sub .i64 (.conv .i64 (.bin .rem .u8 (.ivar .u8 3) (.lit .u8 7))) (.lit .i64 3))), (.opq (.conv .u64 (.ivar .u8 0))), (.opq (.bin .sub .i64 (.conv .i64 (.bin .rem .u8 (.ivar .u8 2) (.lit .u8 5))) (.lit .i64 2))), (.opq (.bin .shl .u64 (.conv .u64 (.ivar .u8 3)) (.lit .u64 60))), (.int .i64 0), (.opq (.bin .shl .u64 (.conv .u64 (.ivar .u8 3)) (.lit .u64 50))), (.int .i64 0), (.opq (.bin .shl .u64 (.conv .u64 (.ivar .u8 0)) (.lit .u64 50))), (.opq (.app 22 0 (some .i64) (.cons (.bin .rem .i64 (.conv .i64 (.ivar .u8 1)) (.lit .i64 4)) .nil))), (.opq (.app 22 1 (some .u64) (.cons (.bin .rem .i64 (.conv .i64 (.ivar .u8 1)) (.lit .i64 4)) .nil))), (.int .i64 0), (.opq (.bin .mul .i64 (.conv .i64 (.ivar .u8 3)) (.lit .i64 257)))]))
noncomputable def Tr1_T72 : List Ent := ⟨72, [.one (some .u8), .one (some .u8), .one (some .u8), .one (some .u8)], .one (.agg [some .i64, some .u64, some .i64, some .u64, some .i64, some .u64, some .i64, some .u64, some .i64, some .u64, some .i64, some .u64, some .i64, some .u64, some .i64, some .u64, some .i64, some .u64, some .i64, some .i64]), treeFn tr72, false⟩ :: Tr1_T68
set_option maxHeartbeats 4000000 in
theorem Tr1_ok72 : TbOK Try.prog Tr1_T72 := tb_tree (b := bW.loops TbH_L) (loops_ok bW_ok _) (lb_of Tr1_lb68) (d := 300) Tr1_ok68 (fn rfl) (by kernel_rfl)
theorem Tr1_lb72 : LBs Try.prog TbH_L Tr1_T72 := lbs_cons Tr1_lb68 (by kernel_rfl)
/-- perigeelaw1.Num -/
def tr16 : ST :=
  (.leaf (.one (.opq (.ivar .i64 0))))
noncomputable def Tr1_T16 : List Ent := ⟨16, [.one (some .i64)], .one (.one (some .i64)), treeFn tr16, false⟩ :: Tr1_T72
set_option maxHeartbeats 4000000 in
theorem Tr1_ok16 : TbOK Try.prog Tr1_T16 := tb_tree (b := bW.loops TbH_L) (loops_ok bW_ok _) (lb_of Tr1_lb72) (d := 300) Tr1_ok72 (fn rfl) (by kernel_rfl)
theorem Tr1_lb16 : LBs Try.prog TbH_L Tr1_T16 := lbs_cons Tr1_lb72 (by kernel_rfl)
/-- perigeeref1.both -/
def tr37 : ST :=
  (.ask (.cmp .neq (.ivar .i64 2) (.lit .i64 0)) (.leaf (.agg [(.int .i64 0), (.int .u64 0), (.int .i64 0), (.int .u64 0), (.opq (.ivar .i64 2))]))
    (.ask (.cmp .neq (.ivar .i64 5) (.lit .i64 0)) (.leaf (.agg [(.int .i64 0), (.int .u64 0), (.int .i64 0), (.int .u64 0), (.opq (.ivar .i64 5))]))
    (.leaf (.agg [(.opq (.ivar .i64 0)), (.opq (.ivar .u64 1)), (.opq (.ivar .i64 3)), (.opq (.ivar .u64 4)), (.int .i64 0)]))))
noncomputable def Tr1_T37 : List Ent := ⟨37, [.agg [some .i64, some .u64, some .i64], .agg [some .i64, some .u64, some .i64]], .one (.agg [some .i64, some .u64, some .i64, some .u64, some .i64]), treeFn tr37, false⟩ :: Tr1_T16
set_option maxHeartbeats 4000000 in
theorem Tr1_ok37 : TbOK Try.prog Tr1_T37 := tb_tree (b := bW.loops TbH_L) (loops_ok bW_ok _) (lb_of Tr1_lb16) (d := 300) Tr1_ok16 (fn rfl) (by kernel_rfl)
theorem Tr1_lb37 : LBs Try.prog TbH_L Tr1_T37 := lbs_cons Tr1_lb16 (by kernel_rfl)
/-- perigeeref1.AddVec -/
def tr20 : ST :=
  (.leaf (.agg [(.opq (.app 37 0 (some .i64) (.cons (.app 19 0 (some .i64) (.cons (.ivar .i64 0) (.cons (.ivar .u64 1) (.cons (.ivar .i64 4) (.cons (.ivar .u64 5) .nil))))) (.cons (.app 19 1 (some .u64) (.cons (.ivar .i64 0) (.cons (.ivar .u64 1) (.cons (.ivar .i64 4) (.cons (.ivar .u64 5) .nil))))) (.cons (.app 19 2 (some .i64) (.cons (.ivar .i64 0) (.cons (.ivar .u64 1) (.cons (.ivar .i64 4) (.cons (.ivar .u64 5) .nil))))) (.cons (.app 19 0 (some .i64) (.cons (.ivar .i64 2) (.cons (.ivar .u64 3) (.cons (.ivar .i64 6) (.cons (.ivar .u64 7) .nil))))) (.cons (.app 19 1 (some .u64) (.cons (.ivar .i64 2) (.cons (.ivar .u64 3) (.cons (.ivar .i64 6) (.cons (.ivar .u64 7) .nil))))) (.cons (.app 19 2 (some .i64) (.cons (.ivar .i64 2) (.cons (.ivar .u64 3) (.cons (.ivar .i64 6) (.cons (.ivar .u64 7) .nil))))) .nil)))))))), (.opq (.app 37 1 (some .u64) (.cons (.app 19 0 (some .i64) (.cons (.ivar .i64 0) (.cons (.ivar .u64 1) (.cons (.ivar .i64 4) (.cons (.ivar .u64 5) .nil))))) (.cons (.app 19 1 (some .u64) (.cons (.ivar .i64 0) (.cons (.ivar .u64 1) (.cons (.ivar .i64 4) (.cons (.ivar .u64 5) .nil))))) (.cons (.app 19 2 (some .i64) (.cons (.ivar .i64 0) (.cons (.ivar .u64 1) (.cons (.ivar .i64 4) (.cons (.ivar .u64 5) .nil))))) (.cons (.app 19 0 (some .i64) (.cons (.ivar .i64 2) (.cons (.ivar .u64 3) (.cons (.ivar .i64 6) (.cons (.ivar .u64 7) .nil))))) (.cons (.app 19 1 (some .u64) (.cons (.ivar .i64 2) (.cons (.ivar .u64 3) (.cons (.ivar .i64 6) (.cons (.ivar .u64 7) .nil))))) (.cons (.app 19 2 (some .i64) (.cons (.ivar .i64 2) (.cons (.ivar .u64 3) (.cons (.ivar .i64 6) (.cons (.ivar .u64 7) .nil))))) .nil)))))))), (.opq (.app 37 2 (some .i64) (.cons (.app 19 0 (some .i64) (.cons (.ivar .i64 0) (.cons (.ivar .u64 1) (.cons (.ivar .i64 4) (.cons (.ivar .u64 5) .nil))))) (.cons (.app 19 1 (some .u64) (.cons (.ivar .i64 0) (.cons (.ivar .u64 1) (.cons (.ivar .i64 4) (.cons (.ivar .u64 5) .nil))))) (.cons (.app 19 2 (some .i64) (.cons (.ivar .i64 0) (.cons (.ivar .u64 1) (.cons (.ivar .i64 4) (.cons (.ivar .u64 5) .nil))))) (.cons (.app 19 0 (some .i64) (.cons (.ivar .i64 2) (.cons (.ivar .u64 3) (.cons (.ivar .i64 6) (.cons (.ivar .u64 7) .nil))))) (.cons (.app 19 1 (some .u64) (.cons (.ivar .i64 2) (.cons (.ivar .u64 3) (.cons (.ivar .i64 6) (.cons (.ivar .u64 7) .nil))))) (.cons (.app 19 2 (some .i64) (.cons (.ivar .i64 2) (.cons (.ivar .u64 3) (.cons (.ivar .i64 6) (.cons (.ivar .u64 7) .nil))))) .nil)))))))), (.opq (.app 37 3 (some .u64) (.cons (.app 19 0 (some .i64) (.cons (.ivar .i64 0) (.cons (.ivar .u64 1) (.cons (.ivar .i64 4) (.cons (.ivar .u64 5) .nil))))) (.cons (.app 19 1 (some .u64) (.cons (.ivar .i64 0) (.cons (.ivar .u64 1) (.cons (.ivar .i64 4) (.cons (.ivar .u64 5) .nil))))) (.cons (.app 19 2 (some .i64) (.cons (.ivar .i64 0) (.cons (.ivar .u64 1) (.cons (.ivar .i64 4) (.cons (.ivar .u64 5) .nil))))) (.cons (.app 19 0 (some .i64) (.cons (.ivar .i64 2) (.cons (.ivar .u64 3) (.cons (.ivar .i64 6) (.cons (.ivar .u64 7) .nil))))) (.cons (.app 19 1 (some .u64) (.cons (.ivar .i64 2) (.cons (.ivar .u64 3) (.cons (.ivar .i64 6) (.cons (.ivar .u64 7) .nil))))) (.cons (.app 19 2 (some .i64) (.cons (.ivar .i64 2) (.cons (.ivar .u64 3) (.cons (.ivar .i64 6) (.cons (.ivar .u64 7) .nil))))) .nil)))))))), (.opq (.app 37 4 (some .i64) (.cons (.app 19 0 (some .i64) (.cons (.ivar .i64 0) (.cons (.ivar .u64 1) (.cons (.ivar .i64 4) (.cons (.ivar .u64 5) .nil))))) (.cons (.app 19 1 (some .u64) (.cons (.ivar .i64 0) (.cons (.ivar .u64 1) (.cons (.ivar .i64 4) (.cons (.ivar .u64 5) .nil))))) (.cons (.app 19 2 (some .i64) (.cons (.ivar .i64 0) (.cons (.ivar .u64 1) (.cons (.ivar .i64 4) (.cons (.ivar .u64 5) .nil))))) (.cons (.app 19 0 (some .i64) (.cons (.ivar .i64 2) (.cons (.ivar .u64 3) (.cons (.ivar .i64 6) (.cons (.ivar .u64 7) .nil))))) (.cons (.app 19 1 (some .u64) (.cons (.ivar .i64 2) (.cons (.ivar .u64 3) (.cons (.ivar .i64 6) (.cons (.ivar .u64 7) .nil))))) (.cons (.app 19 2 (some .i64) (.cons (.ivar .i64 2) (.cons (.ivar .u64 3) (.cons (.ivar .i64 6) (.cons (.ivar .u64 7) .nil))))) .nil))))))))]))
noncomputable def Tr1_T20 : List Ent := ⟨20, [.agg [some .i64, some .u64, some .i64, some .u64], .agg [some .i64, some .u64, some .i64, some .u64]], .one (.agg [some .i64, some .u64, some .i64, some .u64, some .i64]), treeFn tr20, false⟩ :: Tr1_T37
set_option maxHeartbeats 4000000 in
theorem Tr1_ok20 : TbOK Try.prog Tr1_T20 := tb_tree (b := bW.loops TbH_L) (loops_ok bW_ok _) (lb_of Tr1_lb37) (d := 300) Tr1_ok37 (fn rfl) (by kernel_rfl)
theorem Tr1_lb20 : LBs Try.prog TbH_L Tr1_T20 := lbs_cons Tr1_lb37 (by kernel_rfl)
def Tr1_L : List LEnt := TbH_L
def Tr1_X : List Ent := ⟨20, [.agg [some .i64, some .u64, some .i64, some .u64], .agg [some .i64, some .u64, some .i64, some .u64]], .one (.agg [some .i64, some .u64, some .i64, some .u64, some .i64]), fun _ _ => [], false⟩ :: ⟨37, [.agg [some .i64, some .u64, some .i64], .agg [some .i64, some .u64, some .i64]], .one (.agg [some .i64, some .u64, some .i64, some .u64, some .i64]), fun _ _ => [], false⟩ :: ⟨16, [.one (some .i64)], .one (.one (some .i64)), fun _ _ => [], false⟩ :: ⟨72, [.one (some .u8), .one (some .u8), .one (some .u8), .one (some .u8)], .one (.agg [some .i64, some .u64, some .i64, some .u64, some .i64, some .u64, some .i64, some .u64, some .i64, some .u64, some .i64, some .u64, some .i64, some .u64, some .i64, some .u64, some .i64, some .u64, some .i64, some .i64]), fun _ _ => [], false⟩ :: ⟨68, [.agg [some .u64, some .u64]], .one (.agg [some .u64, some .u64, some .u64, some .u64]), fun _ _ => [], false⟩ :: ⟨91, [.agg [some .i64, some .i64, some .u64, some .i64, some .u64, some .i64, some .i64, some .i64, some .i64, some .u64], .one (some .i64)], .one (.one none), fun _ _ => [], false⟩ :: ⟨109, [.agg [some .i64, some .u64, some .i64, some .u64]], .one (.one none), fun _ _ => [], false⟩ :: ⟨108, [.agg [some .i64, some .u64], .agg [some .i64, some .u64]], .one (.agg [some .i64, some .u64, some .i64]), fun _ _ => [], false⟩ :: ⟨131, [.agg [some .i64, some .u64], .one (some .i64)], .one (.one none), fun _ _ => [], false⟩ :: ⟨33, [.one none, .agg [some .u64, some .u64, some .u64, some .u64]], .one (.agg [some .i64, some .u64, some .i64]), fun _ _ => [], false⟩ :: ⟨34, [.agg [some .u64, some .u64], .agg [some .u64, some .u64]], .one (.agg [some .u64, some .u64, none]), fun _ _ => [], false⟩ :: ⟨32, [.agg [some .i64, some .u64]], .one (.agg [some .u64, some .u64]), fun _ _ => [], false⟩ :: ⟨73, [.agg [some .i64, some .u64]], .one (.agg [some .i64, some .u64]), fun _ _ => [], false⟩ :: ⟨36, [.agg [some .u64, some .u64], .agg [some .u64, some .u64]], .one (.agg [some .u64, some .u64, none]), fun _ _ => [], false⟩ :: ⟨35, [.agg [some .u64, some .u64], .agg [some .u64, some .u64]], .one (.one none), fun _ _ => [], false⟩ :: ⟨55, [.agg [some .i64, some .u64, some .i64, some .u64]], .one (.one none), fun _ _ => [], false⟩ :: ⟨54, [.agg [some .i64, some .u64], .one (some .i64)], .one (.one none), fun _ _ => [], false⟩ :: ⟨88, [.agg [some .i64, some .u64], .agg [some .i64, some .u64], .agg [some .i64, some .u64]], .one (.one none), fun _ _ => [], false⟩ :: ⟨106, [.agg [some .i64, some .u64], .agg [some .i64, some .u64]], .one (.one (some .i64)), fun _ _ => [], false⟩ :: ⟨89, [.agg [some .i64, some .u64]], .one (.one none), fun _ _ => [], false⟩ :: ⟨22, [.one (some .i64)], .one (.agg [some .i64, some .u64]), fun _ _ => [], false⟩ :: ⟨53, [.one (some .i64), .one (some .i64), .one (some .i64)], .one (.one none), fun _ _ => [], false⟩ :: TbH_X
noncomputable def Tr1_T : List Ent := Tr1_T20
theorem Tr1_ok : TbOK Try.prog Tr1_T := Tr1_ok20
theorem Tr1_lb : LBs Try.prog TbH_L Tr1_T := Tr1_lb20
end Go.Proofs.Ytedfbamihjnhhaa.Own
