/- Contracts as trees, found by program and checked by the kernel. -/
import Derived.Test.YtedfbamihjnhhaaTbE
namespace Go.Proofs.Ytedfbamihjnhhaa.Own
open Go Go.RowKit Go.Proofs
set_option linter.unusedVariables false
set_option maxRecDepth 100000
def tr22 : ST :=
 (.leaf (.agg [(.opq (.mx .i64 (.ivar .i64 0) (.lit .i64 (-9223372036854775807)))), (.int .u64 0)]))
noncomputable def Tr5_T22 : List Ent := ⟨22, [.one (some .i64)], .one (.agg [some .i64, some .u64]), treeFn tr22, false⟩ :: TbE_T
set_option maxHeartbeats 4000000 in
theorem Tr5_ok22 : TbOK Try.prog Tr5_T22 := tb_tree (b := bW.loops TbE_L) (loops_ok bW_ok _) (lb_of TbE_lb) (d := 300) TbE_ok (fn rfl) (by kernel_rfl)
theorem Tr5_lb22 : LBs Try.prog TbE_L Tr5_T22 := lbs_cons TbE_lb (by kernel_rfl)
def tr72 : ST :=
 (.leaf (.agg [(.opq (.app 22 0 (some .i64) (.cons (.bin .add .i64 (.lit .i64 1) (.bin .rem .i64 (.conv .i64 (.ivar .u8 2)) (.lit .i64 9))) .nil))), (.opq (.app 22 1 (some .u64) (.cons (.bin .add .i64 (.lit .i64 1) (.bin .rem .i64 (.conv .i64 (.ivar .u8 2)) (.lit .i64 9))) .nil))), (.opq (.conv .i64 (.bin .rem .u8 (.ivar .u8 3) (.lit .u8 3)))), (.int .u64 4611686018427387904), (.opq (.bin .sub .i64 (.conv .i64 (.ivar .u8 0)) (.lit .i64 128))), (.opq (.bin .shl .u64 (.conv .u64 (.ivar .u8 1)) (.lit .u64 56))), (.opq (.bin .sub .i64 (.conv .i64 (.ivar .u8 1)) (.lit .i64 128))), (.opq (.bin .shl .u64 (.conv .u64 (.ivar .u8 2)) (.lit .u64 40))), (.opq (.bin .sub .i64 (.conv .i64 (.bin .rem .u8 (.ivar .u8 3) (.lit .u8 7))) (.lit .i64 3))), (.opq (.conv .u64 (.ivar .u8 0))), (.opq (.bin .sub .i64 (.conv .i64 (.bin .rem .u8 (.ivar .u8 2) (.lit .u8 5))) (.lit .i64 2))), (.opq (.bin .shl .u64 (.conv .u64 (.ivar .u8 3)) (.lit .u64 60))), (.int .i64 0), (.opq (.bin .shl .u64 (.conv .u64 (.ivar .u8 3)) (.lit .u64 50))), (.int .i64 0), (.opq (.bin .shl .u64 (.conv .u64 (.ivar .u8 0)) (.lit .u64 50))), (.opq (.app 22 0 (some .i64) (.cons (.bin .rem .i64 (.conv .i64 (.ivar .u8 1)) (.lit .i64 4)) .nil))), (.opq (.app 22 1 (some .u64) (.cons (.bin .rem .i64 (.conv .i64 (.ivar .u8 1)) (.lit .i64 4)) .nil))), (.int .i64 0), (.opq (.bin .mul .i64 (.conv .i64 (.ivar .u8 3)) (.lit .i64 257)))]))
noncomputable def Tr5_T72 : List Ent := ⟨72, [.one (some .u8), .one (some .u8), .one (some .u8), .one (some .u8)], .one (.agg [some .i64, some .u64, some .i64, some .u64, some .i64, some .u64, some .i64, some .u64, some .i64, some .u64, some .i64, some .u64, some .i64, some .u64, some .i64, some .u64, some .i64, some .u64, some .i64, some .i64]), treeFn tr72, false⟩ :: Tr5_T22
set_option maxHeartbeats 4000000 in
theorem Tr5_ok72 : TbOK Try.prog Tr5_T72 := tb_tree (b := bW.loops TbE_L) (loops_ok bW_ok _) (lb_of Tr5_lb22) (d := 300) Tr5_ok22 (fn rfl) (by kernel_rfl)
theorem Tr5_lb72 : LBs Try.prog TbE_L Tr5_T72 := lbs_cons Tr5_lb22 (by kernel_rfl)
def tr81 : ST :=
 (.leaf (.agg [(.opq (.mx .i64 (.ivar .i64 0) (.lit .i64 (-9223372036854775807)))), (.int .u64 0)]))
noncomputable def Tr5_T81 : List Ent := ⟨81, [.one (some .i64)], .one (.agg [some .i64, some .u64]), treeFn tr81, false⟩ :: Tr5_T72
set_option maxHeartbeats 4000000 in
theorem Tr5_ok81 : TbOK Try.prog Tr5_T81 := tb_tree (b := bW.loops TbE_L) (loops_ok bW_ok _) (lb_of Tr5_lb72) (d := 300) Tr5_ok72 (fn rfl) (by kernel_rfl)
theorem Tr5_lb81 : LBs Try.prog TbE_L Tr5_T81 := lbs_cons Tr5_lb72 (by kernel_rfl)
def tr99 : ST :=
 (.leaf (.one (.opq (.not (.and (.cmp .eql (.ivar .i64 0) (.lit .i64 (-9223372036854775808))) (.and (.cmp .eql (.ivar .u64 1) (.lit .u64 0)) (.cmp .eql (.lit .i64 1) (.lit .i64 1))))))))
noncomputable def Tr5_T99 : List Ent := ⟨99, [.agg [some .i64, some .u64]], .one (.one none), treeFn tr99, false⟩ :: Tr5_T81
set_option maxHeartbeats 4000000 in
theorem Tr5_ok99 : TbOK Try.prog Tr5_T99 := tb_tree (b := bW.loops TbE_L) (loops_ok bW_ok _) (lb_of Tr5_lb81) (d := 300) Tr5_ok81 (fn rfl) (by kernel_rfl)
theorem Tr5_lb99 : LBs Try.prog TbE_L Tr5_T99 := lbs_cons Tr5_lb81 (by kernel_rfl)
def tr126 : ST :=
 (.leaf (.one (.opq (.cmp .neq (.ivar .i64 0) (.ivar .i64 0)))))
noncomputable def Tr5_T126 : List Ent := ⟨126, [.one (some .i64)], .one (.one none), treeFn tr126, false⟩ :: Tr5_T99
set_option maxHeartbeats 4000000 in
theorem Tr5_ok126 : TbOK Try.prog Tr5_T126 := tb_tree (b := bW.loops TbE_L) (loops_ok bW_ok _) (lb_of Tr5_lb99) (d := 300) Tr5_ok99 (fn rfl) (by kernel_rfl)
theorem Tr5_lb126 : LBs Try.prog TbE_L Tr5_T126 := lbs_cons Tr5_lb99 (by kernel_rfl)
def tr102 : ST :=
 (.ask (.app 126 0 none (.cons (.ivar .i64 0) .nil)) (.ask (.app 126 0 none (.cons (.ivar .i64 1) .nil)) (.leaf (.one (.int .i64 0)))
  (.leaf (.one (.int .i64 (-1)))))
  (.ask (.app 126 0 none (.cons (.ivar .i64 1) .nil)) (.leaf (.one (.int .i64 1)))
  (.ask (.cmp .lss (.ivar .i64 0) (.ivar .i64 1)) (.leaf (.one (.int .i64 (-1))))
  (.ask (.cmp .gtr (.ivar .i64 0) (.ivar .i64 1)) (.leaf (.one (.int .i64 1)))
  (.leaf (.one (.int .i64 0)))))))
noncomputable def Tr5_T102 : List Ent := ⟨102, [.one (some .i64), .one (some .i64)], .one (.one (some .i64)), treeFn tr102, false⟩ :: Tr5_T126
set_option maxHeartbeats 4000000 in
theorem Tr5_ok102 : TbOK Try.prog Tr5_T102 := tb_tree (b := bW.loops TbE_L) (loops_ok bW_ok _) (lb_of Tr5_lb126) (d := 300) Tr5_ok126 (fn rfl) (by kernel_rfl)
theorem Tr5_lb102 : LBs Try.prog TbE_L Tr5_T102 := lbs_cons Tr5_lb126 (by kernel_rfl)
def tr127 : ST :=
 (.leaf (.one (.opq (.cmp .neq (.ivar .u64 0) (.ivar .u64 0)))))
noncomputable def Tr5_T127 : List Ent := ⟨127, [.one (some .u64)], .one (.one none), treeFn tr127, false⟩ :: Tr5_T102
set_option maxHeartbeats 4000000 in
theorem Tr5_ok127 : TbOK Try.prog Tr5_T127 := tb_tree (b := bW.loops TbE_L) (loops_ok bW_ok _) (lb_of Tr5_lb102) (d := 300) Tr5_ok102 (fn rfl) (by kernel_rfl)
theorem Tr5_lb127 : LBs Try.prog TbE_L Tr5_T127 := lbs_cons Tr5_lb102 (by kernel_rfl)
def tr103 : ST :=
 (.ask (.app 127 0 none (.cons (.ivar .u64 0) .nil)) (.ask (.app 127 0 none (.cons (.ivar .u64 1) .nil)) (.leaf (.one (.int .i64 0)))
  (.leaf (.one (.int .i64 (-1)))))
  (.ask (.app 127 0 none (.cons (.ivar .u64 1) .nil)) (.leaf (.one (.int .i64 1)))
  (.ask (.cmp .lss (.ivar .u64 0) (.ivar .u64 1)) (.leaf (.one (.int .i64 (-1))))
  (.ask (.cmp .gtr (.ivar .u64 0) (.ivar .u64 1)) (.leaf (.one (.int .i64 1)))
  (.leaf (.one (.int .i64 0)))))))
noncomputable def Tr5_T103 : List Ent := ⟨103, [.one (some .u64), .one (some .u64)], .one (.one (some .i64)), treeFn tr103, false⟩ :: Tr5_T127
set_option maxHeartbeats 4000000 in
theorem Tr5_ok103 : TbOK Try.prog Tr5_T103 := tb_tree (b := bW.loops TbE_L) (loops_ok bW_ok _) (lb_of Tr5_lb127) (d := 300) Tr5_ok127 (fn rfl) (by kernel_rfl)
theorem Tr5_lb103 : LBs Try.prog TbE_L Tr5_T103 := lbs_cons Tr5_lb127 (by kernel_rfl)
def tr83 : ST :=
 (.ask (.cmp .neq (.app 102 0 (some .i64) (.cons (.ivar .i64 0) (.cons (.ivar .i64 2) .nil))) (.lit .i64 0)) (.leaf (.one (.opq (.app 102 0 (some .i64) (.cons (.ivar .i64 0) (.cons (.ivar .i64 2) .nil))))))
  (.ask (.cmp .neq (.app 103 0 (some .i64) (.cons (.ivar .u64 1) (.cons (.ivar .u64 3) .nil))) (.lit .i64 0)) (.leaf (.one (.opq (.app 103 0 (some .i64) (.cons (.ivar .u64 1) (.cons (.ivar .u64 3) .nil))))))
  (.leaf (.one (.int .i64 0)))))
noncomputable def Tr5_T83 : List Ent := ⟨83, [.agg [some .i64, some .u64], .agg [some .i64, some .u64]], .one (.one (some .i64)), treeFn tr83, false⟩ :: Tr5_T103
set_option maxHeartbeats 4000000 in
theorem Tr5_ok83 : TbOK Try.prog Tr5_T83 := tb_tree (b := bW.loops TbE_L) (loops_ok bW_ok _) (lb_of Tr5_lb103) (d := 300) Tr5_ok103 (fn rfl) (by kernel_rfl)
theorem Tr5_lb83 : LBs Try.prog TbE_L Tr5_T83 := lbs_cons Tr5_lb103 (by kernel_rfl)
def tr77 : ST :=
 (.ask (.app 99 0 none (.cons (.ivar .i64 0) (.cons (.ivar .u64 1) .nil))) (.ask (.cmp .geq (.app 83 0 (some .i64) (.cons (.ivar .i64 0) (.cons (.ivar .u64 1) (.cons (.ivar .i64 2) (.cons (.ivar .u64 3) .nil))))) (.lit .i64 0)) (.leaf (.one (.opq (.cmp .leq (.app 83 0 (some .i64) (.cons (.ivar .i64 0) (.cons (.ivar .u64 1) (.cons (.ivar .i64 4) (.cons (.ivar .u64 5) .nil))))) (.lit .i64 0)))))
  (.leaf (.one (.bool false))))
  (.leaf (.one (.bool false))))
noncomputable def Tr5_T77 : List Ent := ⟨77, [.agg [some .i64, some .u64], .agg [some .i64, some .u64], .agg [some .i64, some .u64]], .one (.one none), treeFn tr77, false⟩ :: Tr5_T83
set_option maxHeartbeats 4000000 in
theorem Tr5_ok77 : TbOK Try.prog Tr5_T77 := tb_tree (b := bW.loops TbE_L) (loops_ok bW_ok _) (lb_of Tr5_lb83) (d := 300) Tr5_ok83 (fn rfl) (by kernel_rfl)
theorem Tr5_lb77 : LBs Try.prog TbE_L Tr5_T77 := lbs_cons Tr5_lb83 (by kernel_rfl)
def tr75 : ST :=
 (.leaf (.one (.opq (.app 77 0 none (.cons (.ivar .i64 0) (.cons (.ivar .u64 1) (.cons (.lit .i64 0) (.cons (.lit .u64 0) (.cons (.app 81 0 (some .i64) (.cons (.ivar .i64 2) .nil)) (.cons (.app 81 1 (some .u64) (.cons (.ivar .i64 2) .nil)) .nil))))))))))
noncomputable def Tr5_T75 : List Ent := ⟨75, [.agg [some .i64, some .u64], .one (some .i64)], .one (.one none), treeFn tr75, false⟩ :: Tr5_T77
set_option maxHeartbeats 4000000 in
theorem Tr5_ok75 : TbOK Try.prog Tr5_T75 := tb_tree (b := bW.loops TbE_L) (loops_ok bW_ok _) (lb_of Tr5_lb77) (d := 300) Tr5_ok77 (fn rfl) (by kernel_rfl)
theorem Tr5_lb75 : LBs Try.prog TbE_L Tr5_T75 := lbs_cons Tr5_lb77 (by kernel_rfl)
def tr51 : ST :=
 (.ask (.cmp .geq (.ivar .i64 0) (.ivar .i64 1)) (.leaf (.one (.opq (.cmp .leq (.ivar .i64 0) (.ivar .i64 2)))))
  (.leaf (.one (.bool false))))
noncomputable def Tr5_T51 : List Ent := ⟨51, [.one (some .i64), .one (some .i64), .one (some .i64)], .one (.one none), treeFn tr51, false⟩ :: Tr5_T75
set_option maxHeartbeats 4000000 in
theorem Tr5_ok51 : TbOK Try.prog Tr5_T51 := tb_tree (b := bW.loops TbE_L) (loops_ok bW_ok _) (lb_of Tr5_lb75) (d := 300) Tr5_ok75 (fn rfl) (by kernel_rfl)
theorem Tr5_lb51 : LBs Try.prog TbE_L Tr5_T51 := lbs_cons Tr5_lb75 (by kernel_rfl)
def tr76 : ST :=
 (.ask (.app 99 0 none (.cons (.ivar .i64 0) (.cons (.ivar .u64 1) .nil))) (.leaf (.one (.opq (.app 99 0 none (.cons (.ivar .i64 2) (.cons (.ivar .u64 3) .nil))))))
  (.leaf (.one (.bool false))))
noncomputable def Tr5_T76 : List Ent := ⟨76, [.agg [some .i64, some .u64, some .i64, some .u64]], .one (.one none), treeFn tr76, false⟩ :: Tr5_T51
set_option maxHeartbeats 4000000 in
theorem Tr5_ok76 : TbOK Try.prog Tr5_T76 := tb_tree (b := bW.loops TbE_L) (loops_ok bW_ok _) (lb_of Tr5_lb51) (d := 300) Tr5_ok51 (fn rfl) (by kernel_rfl)
theorem Tr5_lb76 : LBs Try.prog TbE_L Tr5_T76 := lbs_cons Tr5_lb51 (by kernel_rfl)
def tr42 : ST :=
 (.ask (.cmp .geq (.ivar .i64 0) (.lit .i64 (-1))) (.ask (.cmp .lss (.ivar .i64 0) (.ivar .i64 10)) (.ask (.app 51 0 none (.cons (.ivar .i64 5) (.cons (.lit .i64 0) (.cons (.lit .i64 65535) .nil)))) (.ask (.app 51 0 none (.cons (.ivar .i64 6) (.cons (.lit .i64 0) (.cons (.lit .i64 65535) .nil)))) (.ask (.app 51 0 none (.cons (.ivar .i64 7) (.cons (.lit .i64 1) (.cons (.lit .i64 1073741824) .nil)))) (.ask (.app 75 0 none (.cons (.ivar .i64 1) (.cons (.ivar .u64 2) (.cons (.lit .i64 268435456) .nil)))) (.ask (.app 77 0 none (.cons (.ivar .i64 3) (.cons (.ivar .u64 4) (.cons (.lit .i64 0) (.cons (.lit .u64 0) (.cons (.lit .i64 0) (.cons (.lit .u64 17293822569102704640) .nil))))))) (.leaf (.one (.opq (.app 75 0 none (.cons (.ivar .i64 8) (.cons (.ivar .u64 9) (.cons (.lit .i64 1073741824) .nil)))))))
  (.leaf (.one (.bool false))))
  (.leaf (.one (.bool false))))
  (.leaf (.one (.bool false))))
  (.leaf (.one (.bool false))))
  (.leaf (.one (.bool false))))
  (.leaf (.one (.bool false))))
  (.leaf (.one (.bool false))))
noncomputable def Tr5_T42 : List Ent := ⟨42, [.agg [some .i64, some .i64, some .u64, some .i64, some .u64, some .i64, some .i64, some .i64, some .i64, some .u64], .one (some .i64)], .one (.one none), treeFn tr42, false⟩ :: Tr5_T76
set_option maxHeartbeats 4000000 in
theorem Tr5_ok42 : TbOK Try.prog Tr5_T42 := tb_tree (b := bW.loops TbE_L) (loops_ok bW_ok _) (lb_of Tr5_lb76) (d := 300) Tr5_ok76 (fn rfl) (by kernel_rfl)
theorem Tr5_lb42 : LBs Try.prog TbE_L Tr5_T42 := lbs_cons Tr5_lb76 (by kernel_rfl)
def tr65 : ST :=
 (.ask (.cmp .eql (.bin .shr .i64 (.ivar .i64 0) (.lit .u64 63)) (.lit .i64 0)) (.leaf (.agg [(.opq (.conv .u64 (.ivar .i64 0))), (.opq (.ivar .u64 1)), (.bool false)]))
  (.leaf (.agg [(.opq (.app 69 0 (some .u64) (.cons (.lit .u64 0) (.cons (.lit .u64 0) (.cons (.conv .u64 (.ivar .i64 0)) (.cons (.ivar .u64 1) .nil)))))), (.opq (.app 69 1 (some .u64) (.cons (.lit .u64 0) (.cons (.lit .u64 0) (.cons (.conv .u64 (.ivar .i64 0)) (.cons (.ivar .u64 1) .nil)))))), (.bool true)])))
noncomputable def Tr5_T65 : List Ent := ⟨65, [.agg [some .i64, some .u64]], .one (.agg [some .u64, some .u64, none]), treeFn tr65, false⟩ :: Tr5_T42
set_option maxHeartbeats 4000000 in
theorem Tr5_ok65 : TbOK Try.prog Tr5_T65 := tb_tree (b := bW.loops TbE_L) (loops_ok bW_ok _) (lb_of Tr5_lb42) (d := 300) Tr5_ok42 (fn rfl) (by kernel_rfl)
theorem Tr5_lb65 : LBs Try.prog TbE_L Tr5_T65 := lbs_cons Tr5_lb42 (by kernel_rfl)
def tr70 : ST :=
 (.ask (.bvar 2) (.leaf (.agg [(.opq (.conv .i64 (.app 69 0 (some .u64) (.cons (.lit .u64 0) (.cons (.lit .u64 0) (.cons (.ivar .u64 0) (.cons (.ivar .u64 1) .nil))))))), (.opq (.app 69 1 (some .u64) (.cons (.lit .u64 0) (.cons (.lit .u64 0) (.cons (.ivar .u64 0) (.cons (.ivar .u64 1) .nil))))))]))
  (.leaf (.agg [(.opq (.conv .i64 (.ivar .u64 0))), (.opq (.ivar .u64 1))])))
noncomputable def Tr5_T70 : List Ent := ⟨70, [.agg [some .u64, some .u64, none]], .one (.agg [some .i64, some .u64]), treeFn tr70, false⟩ :: Tr5_T65
set_option maxHeartbeats 4000000 in
theorem Tr5_ok70 : TbOK Try.prog Tr5_T70 := tb_tree (b := bW.loops TbE_L) (loops_ok bW_ok _) (lb_of Tr5_lb65) (d := 300) Tr5_ok65 (fn rfl) (by kernel_rfl)
theorem Tr5_lb70 : LBs Try.prog TbE_L Tr5_T70 := lbs_cons Tr5_lb65 (by kernel_rfl)
def tr100 : ST :=
 (.leaf (.agg [(.opq (.app 70 0 (some .i64) (.cons (.app 65 0 (some .u64) (.cons (.ivar .i64 0) (.cons (.ivar .u64 1) .nil))) (.cons (.app 65 1 (some .u64) (.cons (.ivar .i64 0) (.cons (.ivar .u64 1) .nil))) (.cons (.not (.app 65 2 none (.cons (.ivar .i64 0) (.cons (.ivar .u64 1) .nil)))) .nil))))), (.opq (.app 70 1 (some .u64) (.cons (.app 65 0 (some .u64) (.cons (.ivar .i64 0) (.cons (.ivar .u64 1) .nil))) (.cons (.app 65 1 (some .u64) (.cons (.ivar .i64 0) (.cons (.ivar .u64 1) .nil))) (.cons (.not (.app 65 2 none (.cons (.ivar .i64 0) (.cons (.ivar .u64 1) .nil)))) .nil)))))]))
noncomputable def Tr5_T100 : List Ent := ⟨100, [.agg [some .i64, some .u64]], .one (.agg [some .i64, some .u64]), treeFn tr100, false⟩ :: Tr5_T70
set_option maxHeartbeats 4000000 in
theorem Tr5_ok100 : TbOK Try.prog Tr5_T100 := tb_tree (b := bW.loops TbE_L) (loops_ok bW_ok _) (lb_of Tr5_lb70) (d := 300) Tr5_ok70 (fn rfl) (by kernel_rfl)
theorem Tr5_lb100 : LBs Try.prog TbE_L Tr5_T100 := lbs_cons Tr5_lb70 (by kernel_rfl)
def tr68 : ST :=
 (.leaf (.agg [(.int .u64 0), (.int .u64 0), (.opq (.ivar .u64 0)), (.opq (.ivar .u64 1))]))
noncomputable def Tr5_T68 : List Ent := ⟨68, [.agg [some .u64, some .u64]], .one (.agg [some .u64, some .u64, some .u64, some .u64]), treeFn tr68, false⟩ :: Tr5_T100
set_option maxHeartbeats 4000000 in
theorem Tr5_ok68 : TbOK Try.prog Tr5_T68 := tb_tree (b := bW.loops TbE_L) (loops_ok bW_ok _) (lb_of Tr5_lb100) (d := 300) Tr5_ok100 (fn rfl) (by kernel_rfl)
theorem Tr5_lb68 : LBs Try.prog TbE_L Tr5_T68 := lbs_cons Tr5_lb100 (by kernel_rfl)
def tr67 : ST :=
 (.ask (.cmp .gtr (.app 97 0 (some .i64) (.cons (.ivar .u64 0) (.cons (.ivar .u64 1) (.cons (.ivar .u64 2) (.cons (.ivar .u64 3) .nil))))) (.lit .i64 127)) (.leaf (.tup [(.agg [(.int .i64 0), (.int .u64 0)]), (.one (.int .i64 3))]))
  (.leaf (.tup [(.agg [(.opq (.app 70 0 (some .i64) (.cons (.ivar .u64 2) (.cons (.ivar .u64 3) (.cons (.bvar 4) .nil))))), (.opq (.app 70 1 (some .u64) (.cons (.ivar .u64 2) (.cons (.ivar .u64 3) (.cons (.bvar 4) .nil)))))]), (.one (.int .i64 0))])))
noncomputable def Tr5_T67 : List Ent := ⟨67, [.agg [some .u64, some .u64, some .u64, some .u64], .one none], .tup [.agg [some .i64, some .u64], .one (some .i64)], treeFn tr67, false⟩ :: Tr5_T68
set_option maxHeartbeats 4000000 in
theorem Tr5_ok67 : TbOK Try.prog Tr5_T67 := tb_tree (b := bW.loops TbE_L) (loops_ok bW_ok _) (lb_of Tr5_lb68) (d := 300) Tr5_ok68 (fn rfl) (by kernel_rfl)
theorem Tr5_lb67 : LBs Try.prog TbE_L Tr5_T67 := lbs_cons Tr5_lb68 (by kernel_rfl)
def tr82 : ST :=
 (.leaf (.tup [(.agg [(.opq (.app 29 0 (some .i64) (.cons (.ivar .i64 0) (.cons (.ivar .u64 1) (.cons (.app 100 0 (some .i64) (.cons (.ivar .i64 2) (.cons (.ivar .u64 3) .nil))) (.cons (.app 100 1 (some .u64) (.cons (.ivar .i64 2) (.cons (.ivar .u64 3) .nil))) .nil)))))), (.opq (.app 29 1 (some .u64) (.cons (.ivar .i64 0) (.cons (.ivar .u64 1) (.cons (.app 100 0 (some .i64) (.cons (.ivar .i64 2) (.cons (.ivar .u64 3) .nil))) (.cons (.app 100 1 (some .u64) (.cons (.ivar .i64 2) (.cons (.ivar .u64 3) .nil))) .nil))))))]), (.one (.opq (.app 29 2 (some .i64) (.cons (.ivar .i64 0) (.cons (.ivar .u64 1) (.cons (.app 100 0 (some .i64) (.cons (.ivar .i64 2) (.cons (.ivar .u64 3) .nil))) (.cons (.app 100 1 (some .u64) (.cons (.ivar .i64 2) (.cons (.ivar .u64 3) .nil))) .nil)))))))]))
noncomputable def Tr5_T82 : List Ent := ⟨82, [.agg [some .i64, some .u64], .agg [some .i64, some .u64]], .tup [.agg [some .i64, some .u64], .one (some .i64)], treeFn tr82, false⟩ :: Tr5_T67
set_option maxHeartbeats 4000000 in
theorem Tr5_ok82 : TbOK Try.prog Tr5_T82 := tb_tree (b := bW.loops TbE_L) (loops_ok bW_ok _) (lb_of Tr5_lb67) (d := 300) Tr5_ok67 (fn rfl) (by kernel_rfl)
theorem Tr5_lb82 : LBs Try.prog TbE_L Tr5_T82 := lbs_cons Tr5_lb67 (by kernel_rfl)
def tr148 : ST :=
 (.leaf (.agg [(.opq (.ivar .u64 3)), (.opq (.ivar .u64 2)), (.opq (.ivar .u64 1)), (.opq (.ivar .u64 0))]))
noncomputable def Tr5_T148 : List Ent := ⟨148, [.agg [some .u64, some .u64, some .u64, some .u64]], .one (.agg [some .u64, some .u64, some .u64, some .u64]), treeFn tr148, false⟩ :: Tr5_T82
set_option maxHeartbeats 4000000 in
theorem Tr5_ok148 : TbOK Try.prog Tr5_T148 := tb_tree (b := bW.loops TbE_L) (loops_ok bW_ok _) (lb_of Tr5_lb82) (d := 300) Tr5_ok82 (fn rfl) (by kernel_rfl)
theorem Tr5_lb148 : LBs Try.prog TbE_L Tr5_T148 := lbs_cons Tr5_lb82 (by kernel_rfl)
def tr150 : ST :=
 (.leaf (.agg [(.opq (.ivar .u64 3)), (.opq (.ivar .u64 2)), (.opq (.ivar .u64 1)), (.opq (.ivar .u64 0))]))
noncomputable def Tr5_T150 : List Ent := ⟨150, [.agg [some .u64, some .u64, some .u64, some .u64]], .one (.agg [some .u64, some .u64, some .u64, some .u64]), treeFn tr150, false⟩ :: Tr5_T148
set_option maxHeartbeats 4000000 in
theorem Tr5_ok150 : TbOK Try.prog Tr5_T150 := tb_tree (b := bW.loops TbE_L) (loops_ok bW_ok _) (lb_of Tr5_lb148) (d := 300) Tr5_ok148 (fn rfl) (by kernel_rfl)
theorem Tr5_lb150 : LBs Try.prog TbE_L Tr5_T150 := lbs_cons Tr5_lb148 (by kernel_rfl)
def tr128 : ST :=
 (.ask (.cmp .neq (.app 139 2 (some .i64) (.cons (.ivar .i64 0) (.cons (.ivar .u64 1) (.cons (.ivar .i64 4) (.cons (.ivar .u64 5) .nil))))) (.lit .i64 0)) (.leaf (.tup [(.agg [(.int .i64 0), (.int .u64 0), (.int .i64 0), (.int .u64 0)]), (.one (.opq (.app 139 2 (some .i64) (.cons (.ivar .i64 0) (.cons (.ivar .u64 1) (.cons (.ivar .i64 4) (.cons (.ivar .u64 5) .nil)))))))]))
  (.ask (.cmp .neq (.app 139 2 (some .i64) (.cons (.ivar .i64 2) (.cons (.ivar .u64 3) (.cons (.ivar .i64 4) (.cons (.ivar .u64 5) .nil))))) (.lit .i64 0)) (.leaf (.tup [(.agg [(.int .i64 0), (.int .u64 0), (.int .i64 0), (.int .u64 0)]), (.one (.opq (.app 139 2 (some .i64) (.cons (.ivar .i64 2) (.cons (.ivar .u64 3) (.cons (.ivar .i64 4) (.cons (.ivar .u64 5) .nil)))))))]))
  (.leaf (.tup [(.agg [(.opq (.app 139 0 (some .i64) (.cons (.ivar .i64 0) (.cons (.ivar .u64 1) (.cons (.ivar .i64 4) (.cons (.ivar .u64 5) .nil)))))), (.opq (.app 139 1 (some .u64) (.cons (.ivar .i64 0) (.cons (.ivar .u64 1) (.cons (.ivar .i64 4) (.cons (.ivar .u64 5) .nil)))))), (.opq (.app 139 0 (some .i64) (.cons (.ivar .i64 2) (.cons (.ivar .u64 3) (.cons (.ivar .i64 4) (.cons (.ivar .u64 5) .nil)))))), (.opq (.app 139 1 (some .u64) (.cons (.ivar .i64 2) (.cons (.ivar .u64 3) (.cons (.ivar .i64 4) (.cons (.ivar .u64 5) .nil))))))]), (.one (.int .i64 0))]))))
noncomputable def Tr5_T128 : List Ent := ⟨128, [.agg [some .i64, some .u64, some .i64, some .u64], .agg [some .i64, some .u64]], .tup [.agg [some .i64, some .u64, some .i64, some .u64], .one (some .i64)], treeFn tr128, false⟩ :: Tr5_T150
set_option maxHeartbeats 4000000 in
theorem Tr5_ok128 : TbOK Try.prog Tr5_T128 := tb_tree (b := bW.loops TbE_L) (loops_ok bW_ok _) (lb_of Tr5_lb150) (d := 300) Tr5_ok150 (fn rfl) (by kernel_rfl)
theorem Tr5_lb128 : LBs Try.prog TbE_L Tr5_T128 := lbs_cons Tr5_lb150 (by kernel_rfl)
def tr104 : ST :=
 (.leaf (.tup [(.agg [(.opq (.app 128 0 (some .i64) (.cons (.ivar .i64 8) (.cons (.ivar .u64 9) (.cons (.ivar .i64 10) (.cons (.ivar .u64 11) (.cons (.ivar .i64 0) (.cons (.ivar .u64 1) .nil)))))))), (.opq (.app 128 1 (some .u64) (.cons (.ivar .i64 8) (.cons (.ivar .u64 9) (.cons (.ivar .i64 10) (.cons (.ivar .u64 11) (.cons (.ivar .i64 0) (.cons (.ivar .u64 1) .nil)))))))), (.opq (.app 128 2 (some .i64) (.cons (.ivar .i64 8) (.cons (.ivar .u64 9) (.cons (.ivar .i64 10) (.cons (.ivar .u64 11) (.cons (.ivar .i64 0) (.cons (.ivar .u64 1) .nil)))))))), (.opq (.app 128 3 (some .u64) (.cons (.ivar .i64 8) (.cons (.ivar .u64 9) (.cons (.ivar .i64 10) (.cons (.ivar .u64 11) (.cons (.ivar .i64 0) (.cons (.ivar .u64 1) .nil))))))))]), (.one (.opq (.app 128 4 (some .i64) (.cons (.ivar .i64 8) (.cons (.ivar .u64 9) (.cons (.ivar .i64 10) (.cons (.ivar .u64 11) (.cons (.ivar .i64 0) (.cons (.ivar .u64 1) .nil)))))))))]))
noncomputable def Tr5_T104 : List Ent := ⟨104, [.agg [some .i64, some .u64, some .i64, some .u64, some .i64, some .u64, some .i64, some .u64, some .i64, some .u64, some .i64, some .u64, some .i64, some .u64, some .i64, some .u64, some .i64, some .u64, some .i64, some .i64]], .tup [.agg [some .i64, some .u64, some .i64, some .u64], .one (some .i64)], treeFn tr104, false⟩ :: Tr5_T128
set_option maxHeartbeats 4000000 in
theorem Tr5_ok104 : TbOK Try.prog Tr5_T104 := tb_tree (b := bW.loops TbE_L) (loops_ok bW_ok _) (lb_of Tr5_lb128) (d := 300) Tr5_ok128 (fn rfl) (by kernel_rfl)
theorem Tr5_lb104 : LBs Try.prog TbE_L Tr5_T104 := lbs_cons Tr5_lb128 (by kernel_rfl)
def tr105 : ST :=
 (.ask (.cmp .leq (.app 83 0 (some .i64) (.cons (.ivar .i64 0) (.cons (.ivar .u64 1) (.cons (.app 81 0 (some .i64) (.cons (.ivar .i64 4) .nil)) (.cons (.app 81 1 (some .u64) (.cons (.ivar .i64 4) .nil)) .nil))))) (.lit .i64 0)) (.ask (.cmp .geq (.app 83 0 (some .i64) (.cons (.ivar .i64 0) (.cons (.ivar .u64 1) (.cons (.app 81 0 (some .i64) (.cons (.bin .sub .i64 (.lit .i64 0) (.ivar .i64 4)) .nil)) (.cons (.app 81 1 (some .u64) (.cons (.bin .sub .i64 (.lit .i64 0) (.ivar .i64 4)) .nil)) .nil))))) (.lit .i64 0)) (.ask (.cmp .leq (.app 83 0 (some .i64) (.cons (.ivar .i64 2) (.cons (.ivar .u64 3) (.cons (.app 81 0 (some .i64) (.cons (.ivar .i64 4) .nil)) (.cons (.app 81 1 (some .u64) (.cons (.ivar .i64 4) .nil)) .nil))))) (.lit .i64 0)) (.leaf (.one (.opq (.cmp .geq (.app 83 0 (some .i64) (.cons (.ivar .i64 2) (.cons (.ivar .u64 3) (.cons (.app 81 0 (some .i64) (.cons (.bin .sub .i64 (.lit .i64 0) (.ivar .i64 4)) .nil)) (.cons (.app 81 1 (some .u64) (.cons (.bin .sub .i64 (.lit .i64 0) (.ivar .i64 4)) .nil)) .nil))))) (.lit .i64 0)))))
  (.leaf (.one (.bool false))))
  (.leaf (.one (.bool false))))
  (.leaf (.one (.bool false))))
noncomputable def Tr5_T105 : List Ent := ⟨105, [.agg [some .i64, some .u64, some .i64, some .u64], .one (some .i64)], .one (.one none), treeFn tr105, false⟩ :: Tr5_T104
set_option maxHeartbeats 4000000 in
theorem Tr5_ok105 : TbOK Try.prog Tr5_T105 := tb_tree (b := bW.loops TbE_L) (loops_ok bW_ok _) (lb_of Tr5_lb104) (d := 300) Tr5_ok104 (fn rfl) (by kernel_rfl)
theorem Tr5_lb105 : LBs Try.prog TbE_L Tr5_T105 := lbs_cons Tr5_lb104 (by kernel_rfl)
def tr84 : ST :=
 (.ask (.cmp .eql (.app 104 4 (some .i64) (.cons (.ivar .i64 0) (.cons (.ivar .u64 1) (.cons (.ivar .i64 2) (.cons (.ivar .u64 3) (.cons (.ivar .i64 4) (.cons (.ivar .u64 5) (.cons (.ivar .i64 6) (.cons (.ivar .u64 7) (.cons (.ivar .i64 8) (.cons (.ivar .u64 9) (.cons (.ivar .i64 10) (.cons (.ivar .u64 11) (.cons (.ivar .i64 12) (.cons (.ivar .u64 13) (.cons (.ivar .i64 14) (.cons (.ivar .u64 15) (.cons (.ivar .i64 16) (.cons (.ivar .u64 17) (.cons (.ivar .i64 18) (.cons (.ivar .i64 19) .nil))))))))))))))))))))) (.lit .i64 0)) (.leaf (.tup [(.one (.opq (.app 105 0 none (.cons (.app 104 0 (some .i64) (.cons (.ivar .i64 0) (.cons (.ivar .u64 1) (.cons (.ivar .i64 2) (.cons (.ivar .u64 3) (.cons (.ivar .i64 4) (.cons (.ivar .u64 5) (.cons (.ivar .i64 6) (.cons (.ivar .u64 7) (.cons (.ivar .i64 8) (.cons (.ivar .u64 9) (.cons (.ivar .i64 10) (.cons (.ivar .u64 11) (.cons (.ivar .i64 12) (.cons (.ivar .u64 13) (.cons (.ivar .i64 14) (.cons (.ivar .u64 15) (.cons (.ivar .i64 16) (.cons (.ivar .u64 17) (.cons (.ivar .i64 18) (.cons (.ivar .i64 19) .nil))))))))))))))))))))) (.cons (.app 104 1 (some .u64) (.cons (.ivar .i64 0) (.cons (.ivar .u64 1) (.cons (.ivar .i64 2) (.cons (.ivar .u64 3) (.cons (.ivar .i64 4) (.cons (.ivar .u64 5) (.cons (.ivar .i64 6) (.cons (.ivar .u64 7) (.cons (.ivar .i64 8) (.cons (.ivar .u64 9) (.cons (.ivar .i64 10) (.cons (.ivar .u64 11) (.cons (.ivar .i64 12) (.cons (.ivar .u64 13) (.cons (.ivar .i64 14) (.cons (.ivar .u64 15) (.cons (.ivar .i64 16) (.cons (.ivar .u64 17) (.cons (.ivar .i64 18) (.cons (.ivar .i64 19) .nil))))))))))))))))))))) (.cons (.app 104 2 (some .i64) (.cons (.ivar .i64 0) (.cons (.ivar .u64 1) (.cons (.ivar .i64 2) (.cons (.ivar .u64 3) (.cons (.ivar .i64 4) (.cons (.ivar .u64 5) (.cons (.ivar .i64 6) (.cons (.ivar .u64 7) (.cons (.ivar .i64 8) (.cons (.ivar .u64 9) (.cons (.ivar .i64 10) (.cons (.ivar .u64 11) (.cons (.ivar .i64 12) (.cons (.ivar .u64 13) (.cons (.ivar .i64 14) (.cons (.ivar .u64 15) (.cons (.ivar .i64 16) (.cons (.ivar .u64 17) (.cons (.ivar .i64 18) (.cons (.ivar .i64 19) .nil))))))))))))))))))))) (.cons (.app 104 3 (some .u64) (.cons (.ivar .i64 0) (.cons (.ivar .u64 1) (.cons (.ivar .i64 2) (.cons (.ivar .u64 3) (.cons (.ivar .i64 4) (.cons (.ivar .u64 5) (.cons (.ivar .i64 6) (.cons (.ivar .u64 7) (.cons (.ivar .i64 8) (.cons (.ivar .u64 9) (.cons (.ivar .i64 10) (.cons (.ivar .u64 11) (.cons (.ivar .i64 12) (.cons (.ivar .u64 13) (.cons (.ivar .i64 14) (.cons (.ivar .u64 15) (.cons (.ivar .i64 16) (.cons (.ivar .u64 17) (.cons (.ivar .i64 18) (.cons (.ivar .i64 19) .nil))))))))))))))))))))) (.cons (.lit .i64 65536) .nil)))))))), (.one (.opq (.app 104 4 (some .i64) (.cons (.ivar .i64 0) (.cons (.ivar .u64 1) (.cons (.ivar .i64 2) (.cons (.ivar .u64 3) (.cons (.ivar .i64 4) (.cons (.ivar .u64 5) (.cons (.ivar .i64 6) (.cons (.ivar .u64 7) (.cons (.ivar .i64 8) (.cons (.ivar .u64 9) (.cons (.ivar .i64 10) (.cons (.ivar .u64 11) (.cons (.ivar .i64 12) (.cons (.ivar .u64 13) (.cons (.ivar .i64 14) (.cons (.ivar .u64 15) (.cons (.ivar .i64 16) (.cons (.ivar .u64 17) (.cons (.ivar .i64 18) (.cons (.ivar .i64 19) .nil)))))))))))))))))))))))]))
  (.leaf (.tup [(.one (.bool false)), (.one (.opq (.app 104 4 (some .i64) (.cons (.ivar .i64 0) (.cons (.ivar .u64 1) (.cons (.ivar .i64 2) (.cons (.ivar .u64 3) (.cons (.ivar .i64 4) (.cons (.ivar .u64 5) (.cons (.ivar .i64 6) (.cons (.ivar .u64 7) (.cons (.ivar .i64 8) (.cons (.ivar .u64 9) (.cons (.ivar .i64 10) (.cons (.ivar .u64 11) (.cons (.ivar .i64 12) (.cons (.ivar .u64 13) (.cons (.ivar .i64 14) (.cons (.ivar .u64 15) (.cons (.ivar .i64 16) (.cons (.ivar .u64 17) (.cons (.ivar .i64 18) (.cons (.ivar .i64 19) .nil)))))))))))))))))))))))])))
noncomputable def Tr5_T84 : List Ent := ⟨84, [.agg [some .i64, some .u64, some .i64, some .u64, some .i64, some .u64, some .i64, some .u64, some .i64, some .u64, some .i64, some .u64, some .i64, some .u64, some .i64, some .u64, some .i64, some .u64, some .i64, some .i64]], .tup [.one none, .one (some .i64)], treeFn tr84, false⟩ :: Tr5_T105
set_option maxHeartbeats 4000000 in
theorem Tr5_ok84 : TbOK Try.prog Tr5_T84 := tb_tree (b := bW.loops TbE_L) (loops_ok bW_ok _) (lb_of Tr5_lb105) (d := 300) Tr5_ok105 (fn rfl) (by kernel_rfl)
theorem Tr5_lb84 : LBs Try.prog TbE_L Tr5_T84 := lbs_cons Tr5_lb105 (by kernel_rfl)
def tr85 : ST :=
 (.leaf (.one (.opq (.app 105 0 none (.cons (.ivar .i64 0) (.cons (.ivar .u64 1) (.cons (.ivar .i64 2) (.cons (.ivar .u64 3) (.cons (.lit .i64 1073741824) .nil)))))))))
noncomputable def Tr5_T85 : List Ent := ⟨85, [.agg [some .i64, some .u64, some .i64, some .u64]], .one (.one none), treeFn tr85, false⟩ :: Tr5_T84
set_option maxHeartbeats 4000000 in
theorem Tr5_ok85 : TbOK Try.prog Tr5_T85 := tb_tree (b := bW.loops TbE_L) (loops_ok bW_ok _) (lb_of Tr5_lb84) (d := 300) Tr5_ok84 (fn rfl) (by kernel_rfl)
theorem Tr5_lb85 : LBs Try.prog TbE_L Tr5_T85 := lbs_cons Tr5_lb84 (by kernel_rfl)
def tr45 : ST :=
 (.ask (.not (.app 76 0 none (.cons (.ivar .i64 4) (.cons (.ivar .u64 5) (.cons (.ivar .i64 6) (.cons (.ivar .u64 7) .nil)))))) (.leaf (.one (.bool false)))
  (.ask (.not (.app 76 0 none (.cons (.ivar .i64 8) (.cons (.ivar .u64 9) (.cons (.ivar .i64 10) (.cons (.ivar .u64 11) .nil)))))) (.leaf (.one (.bool false)))
  (.ask (.not (.app 77 0 none (.cons (.ivar .i64 0) (.cons (.ivar .u64 1) (.cons (.lit .i64 0) (.cons (.lit .u64 281474976710656) (.cons (.lit .i64 1048576) (.cons (.lit .u64 0) .nil)))))))) (.leaf (.one (.bool false)))
  (.ask (.not (.app 77 0 none (.cons (.ivar .i64 12) (.cons (.ivar .u64 13) (.cons (.lit .i64 0) (.cons (.lit .u64 0) (.cons (.ivar .i64 0) (.cons (.ivar .u64 1) .nil)))))))) (.leaf (.one (.bool false)))
  (.ask (.cmp .neq (.app 82 2 (some .i64) (.cons (.ivar .i64 0) (.cons (.ivar .u64 1) (.cons (.ivar .i64 12) (.cons (.ivar .u64 13) .nil))))) (.lit .i64 0)) (.leaf (.one (.bool false)))
  (.ask (.cmp .lss (.app 83 0 (some .i64) (.cons (.app 82 0 (some .i64) (.cons (.ivar .i64 0) (.cons (.ivar .u64 1) (.cons (.ivar .i64 12) (.cons (.ivar .u64 13) .nil))))) (.cons (.app 82 1 (some .u64) (.cons (.ivar .i64 0) (.cons (.ivar .u64 1) (.cons (.ivar .i64 12) (.cons (.ivar .u64 13) .nil))))) (.cons (.lit .i64 0) (.cons (.lit .u64 281474976710656) .nil))))) (.lit .i64 0)) (.leaf (.one (.bool false)))
  (.ask (.not (.app 75 0 none (.cons (.ivar .i64 2) (.cons (.ivar .u64 3) (.cons (.lit .i64 65536) .nil))))) (.leaf (.one (.bool false)))
  (.ask (.not (.app 75 0 none (.cons (.ivar .i64 14) (.cons (.ivar .u64 15) (.cons (.lit .i64 65536) .nil))))) (.leaf (.one (.bool false)))
  (.ask (.not (.app 75 0 none (.cons (.ivar .i64 16) (.cons (.ivar .u64 17) (.cons (.lit .i64 65536) .nil))))) (.leaf (.one (.bool false)))
  (.ask (.app 84 0 none (.cons (.ivar .i64 0) (.cons (.ivar .u64 1) (.cons (.ivar .i64 2) (.cons (.ivar .u64 3) (.cons (.ivar .i64 4) (.cons (.ivar .u64 5) (.cons (.ivar .i64 6) (.cons (.ivar .u64 7) (.cons (.ivar .i64 8) (.cons (.ivar .u64 9) (.cons (.ivar .i64 10) (.cons (.ivar .u64 11) (.cons (.ivar .i64 12) (.cons (.ivar .u64 13) (.cons (.ivar .i64 14) (.cons (.ivar .u64 15) (.cons (.ivar .i64 16) (.cons (.ivar .u64 17) (.cons (.ivar .i64 18) (.cons (.ivar .i64 19) .nil))))))))))))))))))))) (.ask (.cmp .eql (.app 84 1 (some .i64) (.cons (.ivar .i64 0) (.cons (.ivar .u64 1) (.cons (.ivar .i64 2) (.cons (.ivar .u64 3) (.cons (.ivar .i64 4) (.cons (.ivar .u64 5) (.cons (.ivar .i64 6) (.cons (.ivar .u64 7) (.cons (.ivar .i64 8) (.cons (.ivar .u64 9) (.cons (.ivar .i64 10) (.cons (.ivar .u64 11) (.cons (.ivar .i64 12) (.cons (.ivar .u64 13) (.cons (.ivar .i64 14) (.cons (.ivar .u64 15) (.cons (.ivar .i64 16) (.cons (.ivar .u64 17) (.cons (.ivar .i64 18) (.cons (.ivar .i64 19) .nil))))))))))))))))))))) (.lit .i64 0)) (.ask (.app 85 0 none (.cons (.ivar .i64 4) (.cons (.ivar .u64 5) (.cons (.ivar .i64 6) (.cons (.ivar .u64 7) .nil))))) (.ask (.app 51 0 none (.cons (.ivar .i64 18) (.cons (.lit .i64 0) (.cons (.lit .i64 100) .nil)))) (.leaf (.one (.opq (.app 51 0 none (.cons (.ivar .i64 19) (.cons (.lit .i64 0) (.cons (.lit .i64 65535) .nil)))))))
  (.leaf (.one (.bool false))))
  (.leaf (.one (.bool false))))
  (.leaf (.one (.bool false))))
  (.leaf (.one (.bool false)))))))))))))
noncomputable def Tr5_T45 : List Ent := ⟨45, [.agg [some .i64, some .u64, some .i64, some .u64, some .i64, some .u64, some .i64, some .u64, some .i64, some .u64, some .i64, some .u64, some .i64, some .u64, some .i64, some .u64, some .i64, some .u64, some .i64, some .i64]], .one (.one none), treeFn tr45, false⟩ :: Tr5_T85
set_option maxHeartbeats 4000000 in
theorem Tr5_ok45 : TbOK Try.prog Tr5_T45 := tb_tree (b := bW.loops TbE_L) (loops_ok bW_ok _) (lb_of Tr5_lb85) (d := 300) Tr5_ok85 (fn rfl) (by kernel_rfl)
theorem Tr5_lb45 : LBs Try.prog TbE_L Tr5_T45 := lbs_cons Tr5_lb85 (by kernel_rfl)
def tr44 : ST :=
 (.leaf (.one (.opq (.not (.app 45 0 none (.cons (.ivar .i64 0) (.cons (.ivar .u64 1) (.cons (.ivar .i64 2) (.cons (.ivar .u64 3) (.cons (.ivar .i64 4) (.cons (.ivar .u64 5) (.cons (.ivar .i64 6) (.cons (.ivar .u64 7) (.cons (.ivar .i64 8) (.cons (.ivar .u64 9) (.cons (.ivar .i64 10) (.cons (.ivar .u64 11) (.cons (.ivar .i64 12) (.cons (.ivar .u64 13) (.cons (.ivar .i64 14) (.cons (.ivar .u64 15) (.cons (.ivar .i64 16) (.cons (.ivar .u64 17) (.cons (.ivar .i64 18) (.cons (.ivar .i64 19) .nil)))))))))))))))))))))))))
noncomputable def Tr5_T44 : List Ent := ⟨44, [.agg [some .i64, some .u64, some .i64, some .u64, some .i64, some .u64, some .i64, some .u64, some .i64, some .u64, some .i64, some .u64, some .i64, some .u64, some .i64, some .u64, some .i64, some .u64, some .i64, some .i64]], .one (.one none), treeFn tr44, false⟩ :: Tr5_T45
set_option maxHeartbeats 4000000 in
theorem Tr5_ok44 : TbOK Try.prog Tr5_T44 := tb_tree (b := bW.loops TbE_L) (loops_ok bW_ok _) (lb_of Tr5_lb45) (d := 300) Tr5_ok45 (fn rfl) (by kernel_rfl)
theorem Tr5_lb44 : LBs Try.prog TbE_L Tr5_T44 := lbs_cons Tr5_lb45 (by kernel_rfl)
def Tr5_L : List LEnt := TbE_L
noncomputable def Tr5_T : List Ent := Tr5_T44
theorem Tr5_ok : TbOK Try.prog Tr5_T := Tr5_ok44
theorem Tr5_lb : LBs Try.prog TbE_L Tr5_T := Tr5_lb44
end Go.Proofs.Ytedfbamihjnhhaa.Own
