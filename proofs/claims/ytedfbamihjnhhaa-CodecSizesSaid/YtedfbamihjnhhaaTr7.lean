/- Contracts that were proved by hand, as a table: the document's quotient. -/
/- Contracts as trees, found by program and checked by the kernel. -/
import Derived.Test.YtedfbamihjnhhaaDqB
import Derived.Test.YtedfbamihjnhhaaTbE
section
namespace Go.Proofs.Ytedfbamihjnhhaa.Own
open Go Go.RowKit Go.Proofs Go.Proofs.Ytedfbamihjnhhaa.Plain
set_option linter.unusedVariables false
set_option linter.unusedSimpArgs false
set_option maxRecDepth 100000
theorem rdiv_err (a b : Fx) : (rdiv a b).2 = 0 ∨ (rdiv a b).2 = 2 ∨ (rdiv a b).2 = 3 := by
 unfold rdiv
 split
 ·exact .inr (.inl rfl)
 ·rcases told_err (Four.of (rdivN a.mag.n b.mag.n)) (!(a.below == b.below)) with h | h
  ·exact .inl h
  ·exact .inr (.inr h)
def gRdiv (xs : List Int) : List Int := let p := rdiv (fxW (xs.getD 0 0) (xs.getD 1 0)) (fxW (xs.getD 2 0) (xs.getD 3 0)); [p.1.hi, p.1.lo, p.2]
theorem gRdiv_eq (x0 x1 x2 x3 : Int) : gRdiv [x0, x1, x2, x3] = [(rdiv (fxW x0 x1) (fxW x2 x3)).1.hi, (rdiv (fxW x0 x1) (fxW x2 x3)).1.lo, (rdiv (fxW x0 x1) (fxW x2 x3)).2] := by
 unfold gRdiv
 simp only [List.getD_cons_zero, List.getD_cons_succ]
theorem res_got {p : Fx × Int} (he : p.2 = 0 ∨ p.2 = 2 ∨ p.2 = 3) {f : FuncId} {args : Array Value} (hp : Pure Try.prog f args (.agg #[.int .i64 p.1.hi, .int .u64 p.1.lo, .int .i64 p.2])) : InC [some .i64, some .u64, some .i64] [p.1.hi, p.1.lo, p.2] ∧ Pure Try.prog f args (mkRes (.one (.agg [some .i64, some .u64, some .i64])) [p.1.hi, p.1.lo, p.2]) :=
 ⟨⟨(fx_in p.1).1, (fx_in p.1).2, err_in3 he, trivial⟩, hp⟩
theorem cte_rdiv : CTE Try.prog gRdiv 140 [kFx, kFx] (.one (.agg [some .i64, some .u64, some .i64])) := fun xs h => by
 obtain ⟨x0, x1, x2, x3, rfl, h0, h1, h2, h3⟩ := in4 h
 have e1 := fxW_v h0 h1
 have e2 := fxW_v h2 h3
 have hp := rdiv_pure (fxW x0 x1) (fxW x2 x3)
 rw [e1, e2] at hp
 have he := rdiv_err (fxW x0 x1) (fxW x2 x3)
 rw [gRdiv_eq]
 have hq := res_got he hp
 clear he hp e1 e2
 generalize rdiv (fxW x0 x1) (fxW x2 x3) = p at hq ⊢
 exact ⟨hq.1, hq.2⟩
noncomputable def TbF_T : List Ent := ⟨140, [kFx, kFx], .one (.agg [some .i64, some .u64, some .i64]), fun _ => gRdiv, false⟩ :: Td6_T
theorem TbF_ok : TbOK Try.prog TbF_T := tb_cons Td6_ok rfl (by kernel_rfl) cte_rdiv
def TbF_L : List LEnt := Td6_L
theorem TbF_lb : LBs Try.prog Td6_L TbF_T := lbs_cons Td6_lb (by kernel_rfl)
end Go.Proofs.Ytedfbamihjnhhaa.Own
end
section
namespace Go.Proofs.Ytedfbamihjnhhaa.Own
open Go Go.RowKit Go.Proofs
set_option linter.unusedVariables false
set_option maxRecDepth 100000
def tr53 : ST :=
 (.ask (.cmp .geq (.ivar .i64 0) (.ivar .i64 1)) (.leaf (.one (.opq (.cmp .leq (.ivar .i64 0) (.ivar .i64 2)))))
  (.leaf (.one (.bool false))))
noncomputable def Tr7_T53 : List Ent := ⟨53, [.one (some .i64), .one (some .i64), .one (some .i64)], .one (.one none), treeFn tr53, false⟩ :: TbF_T
set_option maxHeartbeats 4000000 in
theorem Tr7_ok53 : TbOK Try.prog Tr7_T53 := tb_tree (b := bW.loops TbF_L) (loops_ok bW_ok _) (lb_of TbF_lb) (d := 300) TbF_ok (fn rfl) (by kernel_rfl)
theorem Tr7_lb53 : LBs Try.prog TbF_L Tr7_T53 := lbs_cons TbF_lb (by kernel_rfl)
def tr89 : ST :=
 (.ask (.cmp .neq (.ivar .i64 0) (.lit .i64 (-9223372036854775808))) (.leaf (.one (.bool true)))
  (.leaf (.one (.opq (.cmp .neq (.ivar .u64 1) (.lit .u64 0))))))
noncomputable def Tr7_T89 : List Ent := ⟨89, [.agg [some .i64, some .u64]], .one (.one none), treeFn tr89, false⟩ :: Tr7_T53
set_option maxHeartbeats 4000000 in
theorem Tr7_ok89 : TbOK Try.prog Tr7_T89 := tb_tree (b := bW.loops TbF_L) (loops_ok bW_ok _) (lb_of Tr7_lb53) (d := 300) Tr7_ok53 (fn rfl) (by kernel_rfl)
theorem Tr7_lb89 : LBs Try.prog TbF_L Tr7_T89 := lbs_cons Tr7_lb53 (by kernel_rfl)
def tr106 : ST :=
 (.ask (.cmp .lss (.ivar .i64 0) (.ivar .i64 2)) (.leaf (.one (.int .i64 (-1))))
  (.ask (.cmp .eql (.ivar .i64 0) (.ivar .i64 2)) (.ask (.cmp .lss (.ivar .u64 1) (.ivar .u64 3)) (.leaf (.one (.int .i64 (-1))))
  (.ask (.and (.cmp .eql (.ivar .i64 0) (.ivar .i64 2)) (.and (.cmp .eql (.ivar .u64 1) (.ivar .u64 3)) (.cmp .eql (.lit .i64 1) (.lit .i64 1)))) (.leaf (.one (.int .i64 0)))
  (.leaf (.one (.int .i64 1)))))
  (.ask (.and (.cmp .eql (.ivar .i64 0) (.ivar .i64 2)) (.and (.cmp .eql (.ivar .u64 1) (.ivar .u64 3)) (.cmp .eql (.lit .i64 1) (.lit .i64 1)))) (.leaf (.one (.int .i64 0)))
  (.leaf (.one (.int .i64 1))))))
noncomputable def Tr7_T106 : List Ent := ⟨106, [.agg [some .i64, some .u64], .agg [some .i64, some .u64]], .one (.one (some .i64)), treeFn tr106, false⟩ :: Tr7_T89
set_option maxHeartbeats 4000000 in
theorem Tr7_ok106 : TbOK Try.prog Tr7_T106 := tb_tree (b := bW.loops TbF_L) (loops_ok bW_ok _) (lb_of Tr7_lb89) (d := 300) Tr7_ok89 (fn rfl) (by kernel_rfl)
theorem Tr7_lb106 : LBs Try.prog TbF_L Tr7_T106 := lbs_cons Tr7_lb89 (by kernel_rfl)
def tr88 : ST :=
 (.ask (.app 89 0 none (.cons (.ivar .i64 0) (.cons (.ivar .u64 1) .nil))) (.ask (.cmp .geq (.app 106 0 (some .i64) (.cons (.ivar .i64 0) (.cons (.ivar .u64 1) (.cons (.ivar .i64 2) (.cons (.ivar .u64 3) .nil))))) (.lit .i64 0)) (.leaf (.one (.opq (.cmp .leq (.app 106 0 (some .i64) (.cons (.ivar .i64 0) (.cons (.ivar .u64 1) (.cons (.ivar .i64 4) (.cons (.ivar .u64 5) .nil))))) (.lit .i64 0)))))
  (.leaf (.one (.bool false))))
  (.leaf (.one (.bool false))))
noncomputable def Tr7_T88 : List Ent := ⟨88, [.agg [some .i64, some .u64], .agg [some .i64, some .u64], .agg [some .i64, some .u64]], .one (.one none), treeFn tr88, false⟩ :: Tr7_T106
set_option maxHeartbeats 4000000 in
theorem Tr7_ok88 : TbOK Try.prog Tr7_T88 := tb_tree (b := bW.loops TbF_L) (loops_ok bW_ok _) (lb_of Tr7_lb106) (d := 300) Tr7_ok106 (fn rfl) (by kernel_rfl)
theorem Tr7_lb88 : LBs Try.prog TbF_L Tr7_T88 := lbs_cons Tr7_lb106 (by kernel_rfl)
def tr54 : ST :=
 (.leaf (.one (.opq (.app 88 0 none (.cons (.ivar .i64 0) (.cons (.ivar .u64 1) (.cons (.lit .i64 0) (.cons (.lit .u64 0) (.cons (.app 22 0 (some .i64) (.cons (.ivar .i64 2) .nil)) (.cons (.app 22 1 (some .u64) (.cons (.ivar .i64 2) .nil)) .nil))))))))))
noncomputable def Tr7_T54 : List Ent := ⟨54, [.agg [some .i64, some .u64], .one (some .i64)], .one (.one none), treeFn tr54, false⟩ :: Tr7_T88
set_option maxHeartbeats 4000000 in
theorem Tr7_ok54 : TbOK Try.prog Tr7_T54 := tb_tree (b := bW.loops TbF_L) (loops_ok bW_ok _) (lb_of Tr7_lb88) (d := 300) Tr7_ok88 (fn rfl) (by kernel_rfl)
theorem Tr7_lb54 : LBs Try.prog TbF_L Tr7_T54 := lbs_cons Tr7_lb88 (by kernel_rfl)
def tr55 : ST :=
 (.ask (.app 89 0 none (.cons (.ivar .i64 0) (.cons (.ivar .u64 1) .nil))) (.leaf (.one (.opq (.app 89 0 none (.cons (.ivar .i64 2) (.cons (.ivar .u64 3) .nil))))))
  (.leaf (.one (.bool false))))
noncomputable def Tr7_T55 : List Ent := ⟨55, [.agg [some .i64, some .u64, some .i64, some .u64]], .one (.one none), treeFn tr55, false⟩ :: Tr7_T54
set_option maxHeartbeats 4000000 in
theorem Tr7_ok55 : TbOK Try.prog Tr7_T55 := tb_tree (b := bW.loops TbF_L) (loops_ok bW_ok _) (lb_of Tr7_lb54) (d := 300) Tr7_ok54 (fn rfl) (by kernel_rfl)
theorem Tr7_lb55 : LBs Try.prog TbF_L Tr7_T55 := lbs_cons Tr7_lb54 (by kernel_rfl)
def tr73 : ST :=
 (.leaf (.agg [(.opq (.conv .i64 (.app 36 0 (some .u64) (.cons (.lit .u64 0) (.cons (.lit .u64 0) (.cons (.conv .u64 (.ivar .i64 0)) (.cons (.ivar .u64 1) .nil))))))), (.opq (.app 36 1 (some .u64) (.cons (.lit .u64 0) (.cons (.lit .u64 0) (.cons (.conv .u64 (.ivar .i64 0)) (.cons (.ivar .u64 1) .nil))))))]))
noncomputable def Tr7_T73 : List Ent := ⟨73, [.agg [some .i64, some .u64]], .one (.agg [some .i64, some .u64]), treeFn tr73, false⟩ :: Tr7_T55
set_option maxHeartbeats 4000000 in
theorem Tr7_ok73 : TbOK Try.prog Tr7_T73 := tb_tree (b := bW.loops TbF_L) (loops_ok bW_ok _) (lb_of Tr7_lb55) (d := 300) Tr7_ok55 (fn rfl) (by kernel_rfl)
theorem Tr7_lb73 : LBs Try.prog TbF_L Tr7_T73 := lbs_cons Tr7_lb55 (by kernel_rfl)
def tr32 : ST :=
 (.ask (.cmp .lss (.ivar .i64 0) (.lit .i64 0)) (.leaf (.agg [(.opq (.conv .u64 (.app 73 0 (some .i64) (.cons (.ivar .i64 0) (.cons (.ivar .u64 1) .nil))))), (.opq (.app 73 1 (some .u64) (.cons (.ivar .i64 0) (.cons (.ivar .u64 1) .nil))))]))
  (.leaf (.agg [(.opq (.conv .u64 (.ivar .i64 0))), (.opq (.ivar .u64 1))])))
noncomputable def Tr7_T32 : List Ent := ⟨32, [.agg [some .i64, some .u64]], .one (.agg [some .u64, some .u64]), treeFn tr32, false⟩ :: Tr7_T73
set_option maxHeartbeats 4000000 in
theorem Tr7_ok32 : TbOK Try.prog Tr7_T32 := tb_tree (b := bW.loops TbF_L) (loops_ok bW_ok _) (lb_of Tr7_lb73) (d := 300) Tr7_ok73 (fn rfl) (by kernel_rfl)
theorem Tr7_lb32 : LBs Try.prog TbF_L Tr7_T32 := lbs_cons Tr7_lb73 (by kernel_rfl)
def tr34 : ST :=
 (.ask (.cmp .lss (.bin .add .u64 (.ivar .u64 1) (.ivar .u64 3)) (.ivar .u64 1)) (.ask (.cmp .lss (.bin .add .u64 (.ivar .u64 0) (.ivar .u64 2)) (.ivar .u64 0)) (.leaf (.agg [(.opq (.bin .add .u64 (.bin .add .u64 (.ivar .u64 0) (.ivar .u64 2)) (.lit .u64 1))), (.opq (.bin .add .u64 (.ivar .u64 1) (.ivar .u64 3))), (.bool true)]))
  (.leaf (.agg [(.opq (.bin .add .u64 (.bin .add .u64 (.ivar .u64 0) (.ivar .u64 2)) (.lit .u64 1))), (.opq (.bin .add .u64 (.ivar .u64 1) (.ivar .u64 3))), (.opq (.cmp .eql (.bin .add .u64 (.bin .add .u64 (.ivar .u64 0) (.ivar .u64 2)) (.lit .u64 1)) (.lit .u64 0)))])))
  (.ask (.cmp .lss (.bin .add .u64 (.ivar .u64 0) (.ivar .u64 2)) (.ivar .u64 0)) (.leaf (.agg [(.opq (.bin .add .u64 (.bin .add .u64 (.ivar .u64 0) (.ivar .u64 2)) (.lit .u64 0))), (.opq (.bin .add .u64 (.ivar .u64 1) (.ivar .u64 3))), (.bool true)]))
  (.leaf (.agg [(.opq (.bin .add .u64 (.bin .add .u64 (.ivar .u64 0) (.ivar .u64 2)) (.lit .u64 0))), (.opq (.bin .add .u64 (.ivar .u64 1) (.ivar .u64 3))), (.bool false)]))))
noncomputable def Tr7_T34 : List Ent := ⟨34, [.agg [some .u64, some .u64], .agg [some .u64, some .u64]], .one (.agg [some .u64, some .u64, none]), treeFn tr34, false⟩ :: Tr7_T32
set_option maxHeartbeats 4000000 in
theorem Tr7_ok34 : TbOK Try.prog Tr7_T34 := tb_tree (b := bW.loops TbF_L) (loops_ok bW_ok _) (lb_of Tr7_lb32) (d := 300) Tr7_ok32 (fn rfl) (by kernel_rfl)
theorem Tr7_lb34 : LBs Try.prog TbF_L Tr7_T34 := lbs_cons Tr7_lb32 (by kernel_rfl)
def tr33 : ST :=
 (.ask (.not (.and (.cmp .eql (.ivar .u64 1) (.lit .u64 0)) (.and (.cmp .eql (.ivar .u64 2) (.lit .u64 0)) (.cmp .eql (.lit .i64 1) (.lit .i64 1))))) (.leaf (.agg [(.int .i64 0), (.int .u64 0), (.int .i64 3)]))
  (.ask (.cmp .geq (.ivar .u64 3) (.lit .u64 9223372036854775808)) (.leaf (.agg [(.int .i64 0), (.int .u64 0), (.int .i64 3)]))
  (.ask (.bvar 0) (.leaf (.agg [(.opq (.app 73 0 (some .i64) (.cons (.conv .i64 (.ivar .u64 3)) (.cons (.ivar .u64 4) .nil)))), (.opq (.app 73 1 (some .u64) (.cons (.conv .i64 (.ivar .u64 3)) (.cons (.ivar .u64 4) .nil)))), (.int .i64 0)]))
  (.leaf (.agg [(.opq (.conv .i64 (.ivar .u64 3))), (.opq (.ivar .u64 4)), (.int .i64 0)])))))
noncomputable def Tr7_T33 : List Ent := ⟨33, [.one none, .agg [some .u64, some .u64, some .u64, some .u64]], .one (.agg [some .i64, some .u64, some .i64]), treeFn tr33, false⟩ :: Tr7_T34
set_option maxHeartbeats 4000000 in
theorem Tr7_ok33 : TbOK Try.prog Tr7_T33 := tb_tree (b := bW.loops TbF_L) (loops_ok bW_ok _) (lb_of Tr7_lb34) (d := 300) Tr7_ok34 (fn rfl) (by kernel_rfl)
theorem Tr7_lb33 : LBs Try.prog TbF_L Tr7_T33 := lbs_cons Tr7_lb34 (by kernel_rfl)
def tr130 : ST :=
 (.ask (.cmp .neq (.app 140 2 (some .i64) (.cons (.ivar .i64 8) (.cons (.ivar .u64 9) (.cons (.ivar .i64 0) (.cons (.ivar .u64 1) .nil))))) (.lit .i64 0)) (.leaf (.agg [(.int .i64 0), (.int .u64 0), (.int .i64 0), (.int .u64 0), (.opq (.app 140 2 (some .i64) (.cons (.ivar .i64 8) (.cons (.ivar .u64 9) (.cons (.ivar .i64 0) (.cons (.ivar .u64 1) .nil))))))]))
  (.ask (.cmp .neq (.app 140 2 (some .i64) (.cons (.ivar .i64 10) (.cons (.ivar .u64 11) (.cons (.ivar .i64 0) (.cons (.ivar .u64 1) .nil))))) (.lit .i64 0)) (.leaf (.agg [(.int .i64 0), (.int .u64 0), (.int .i64 0), (.int .u64 0), (.opq (.app 140 2 (some .i64) (.cons (.ivar .i64 10) (.cons (.ivar .u64 11) (.cons (.ivar .i64 0) (.cons (.ivar .u64 1) .nil))))))]))
  (.leaf (.agg [(.opq (.app 140 0 (some .i64) (.cons (.ivar .i64 8) (.cons (.ivar .u64 9) (.cons (.ivar .i64 0) (.cons (.ivar .u64 1) .nil)))))), (.opq (.app 140 1 (some .u64) (.cons (.ivar .i64 8) (.cons (.ivar .u64 9) (.cons (.ivar .i64 0) (.cons (.ivar .u64 1) .nil)))))), (.opq (.app 140 0 (some .i64) (.cons (.ivar .i64 10) (.cons (.ivar .u64 11) (.cons (.ivar .i64 0) (.cons (.ivar .u64 1) .nil)))))), (.opq (.app 140 1 (some .u64) (.cons (.ivar .i64 10) (.cons (.ivar .u64 11) (.cons (.ivar .i64 0) (.cons (.ivar .u64 1) .nil)))))), (.int .i64 0)]))))
noncomputable def Tr7_T130 : List Ent := ⟨130, [.agg [some .i64, some .u64, some .i64, some .u64, some .i64, some .u64, some .i64, some .u64, some .i64, some .u64, some .i64, some .u64, some .i64, some .u64, some .i64, some .u64, some .i64, some .u64, some .i64, some .i64]], .one (.agg [some .i64, some .u64, some .i64, some .u64, some .i64]), treeFn tr130, false⟩ :: Tr7_T33
set_option maxHeartbeats 4000000 in
theorem Tr7_ok130 : TbOK Try.prog Tr7_T130 := tb_tree (b := bW.loops TbF_L) (loops_ok bW_ok _) (lb_of Tr7_lb33) (d := 300) Tr7_ok33 (fn rfl) (by kernel_rfl)
theorem Tr7_lb130 : LBs Try.prog TbF_L Tr7_T130 := lbs_cons Tr7_lb33 (by kernel_rfl)
def tr131 : ST :=
 (.ask (.cmp .gtr (.app 106 0 (some .i64) (.cons (.ivar .i64 0) (.cons (.ivar .u64 1) (.cons (.app 22 0 (some .i64) (.cons (.ivar .i64 2) .nil)) (.cons (.app 22 1 (some .u64) (.cons (.ivar .i64 2) .nil)) .nil))))) (.lit .i64 0)) (.leaf (.one (.bool true)))
  (.leaf (.one (.opq (.cmp .lss (.app 106 0 (some .i64) (.cons (.ivar .i64 0) (.cons (.ivar .u64 1) (.cons (.app 22 0 (some .i64) (.cons (.bin .sub .i64 (.lit .i64 0) (.ivar .i64 2)) .nil)) (.cons (.app 22 1 (some .u64) (.cons (.bin .sub .i64 (.lit .i64 0) (.ivar .i64 2)) .nil)) .nil))))) (.lit .i64 0))))))
noncomputable def Tr7_T131 : List Ent := ⟨131, [.agg [some .i64, some .u64], .one (some .i64)], .one (.one none), treeFn tr131, false⟩ :: Tr7_T130
set_option maxHeartbeats 4000000 in
theorem Tr7_ok131 : TbOK Try.prog Tr7_T131 := tb_tree (b := bW.loops TbF_L) (loops_ok bW_ok _) (lb_of Tr7_lb130) (d := 300) Tr7_ok130 (fn rfl) (by kernel_rfl)
theorem Tr7_lb131 : LBs Try.prog TbF_L Tr7_T131 := lbs_cons Tr7_lb130 (by kernel_rfl)
def tr107 : ST :=
 (.ask (.cmp .neq (.app 130 4 (some .i64) (.cons (.ivar .i64 0) (.cons (.ivar .u64 1) (.cons (.ivar .i64 2) (.cons (.ivar .u64 3) (.cons (.ivar .i64 4) (.cons (.ivar .u64 5) (.cons (.ivar .i64 6) (.cons (.ivar .u64 7) (.cons (.ivar .i64 8) (.cons (.ivar .u64 9) (.cons (.ivar .i64 10) (.cons (.ivar .u64 11) (.cons (.ivar .i64 12) (.cons (.ivar .u64 13) (.cons (.ivar .i64 14) (.cons (.ivar .u64 15) (.cons (.ivar .i64 16) (.cons (.ivar .u64 17) (.cons (.ivar .i64 18) (.cons (.ivar .i64 19) .nil))))))))))))))))))))) (.lit .i64 0)) (.leaf (.agg [(.bool false), (.opq (.app 130 4 (some .i64) (.cons (.ivar .i64 0) (.cons (.ivar .u64 1) (.cons (.ivar .i64 2) (.cons (.ivar .u64 3) (.cons (.ivar .i64 4) (.cons (.ivar .u64 5) (.cons (.ivar .i64 6) (.cons (.ivar .u64 7) (.cons (.ivar .i64 8) (.cons (.ivar .u64 9) (.cons (.ivar .i64 10) (.cons (.ivar .u64 11) (.cons (.ivar .i64 12) (.cons (.ivar .u64 13) (.cons (.ivar .i64 14) (.cons (.ivar .u64 15) (.cons (.ivar .i64 16) (.cons (.ivar .u64 17) (.cons (.ivar .i64 18) (.cons (.ivar .i64 19) .nil))))))))))))))))))))))]))
  (.ask (.not (.app 131 0 none (.cons (.app 130 0 (some .i64) (.cons (.ivar .i64 0) (.cons (.ivar .u64 1) (.cons (.ivar .i64 2) (.cons (.ivar .u64 3) (.cons (.ivar .i64 4) (.cons (.ivar .u64 5) (.cons (.ivar .i64 6) (.cons (.ivar .u64 7) (.cons (.ivar .i64 8) (.cons (.ivar .u64 9) (.cons (.ivar .i64 10) (.cons (.ivar .u64 11) (.cons (.ivar .i64 12) (.cons (.ivar .u64 13) (.cons (.ivar .i64 14) (.cons (.ivar .u64 15) (.cons (.ivar .i64 16) (.cons (.ivar .u64 17) (.cons (.ivar .i64 18) (.cons (.ivar .i64 19) .nil))))))))))))))))))))) (.cons (.app 130 1 (some .u64) (.cons (.ivar .i64 0) (.cons (.ivar .u64 1) (.cons (.ivar .i64 2) (.cons (.ivar .u64 3) (.cons (.ivar .i64 4) (.cons (.ivar .u64 5) (.cons (.ivar .i64 6) (.cons (.ivar .u64 7) (.cons (.ivar .i64 8) (.cons (.ivar .u64 9) (.cons (.ivar .i64 10) (.cons (.ivar .u64 11) (.cons (.ivar .i64 12) (.cons (.ivar .u64 13) (.cons (.ivar .i64 14) (.cons (.ivar .u64 15) (.cons (.ivar .i64 16) (.cons (.ivar .u64 17) (.cons (.ivar .i64 18) (.cons (.ivar .i64 19) .nil))))))))))))))))))))) (.cons (.lit .i64 65536) .nil))))) (.leaf (.agg [(.opq (.not (.app 131 0 none (.cons (.app 130 2 (some .i64) (.cons (.ivar .i64 0) (.cons (.ivar .u64 1) (.cons (.ivar .i64 2) (.cons (.ivar .u64 3) (.cons (.ivar .i64 4) (.cons (.ivar .u64 5) (.cons (.ivar .i64 6) (.cons (.ivar .u64 7) (.cons (.ivar .i64 8) (.cons (.ivar .u64 9) (.cons (.ivar .i64 10) (.cons (.ivar .u64 11) (.cons (.ivar .i64 12) (.cons (.ivar .u64 13) (.cons (.ivar .i64 14) (.cons (.ivar .u64 15) (.cons (.ivar .i64 16) (.cons (.ivar .u64 17) (.cons (.ivar .i64 18) (.cons (.ivar .i64 19) .nil))))))))))))))))))))) (.cons (.app 130 3 (some .u64) (.cons (.ivar .i64 0) (.cons (.ivar .u64 1) (.cons (.ivar .i64 2) (.cons (.ivar .u64 3) (.cons (.ivar .i64 4) (.cons (.ivar .u64 5) (.cons (.ivar .i64 6) (.cons (.ivar .u64 7) (.cons (.ivar .i64 8) (.cons (.ivar .u64 9) (.cons (.ivar .i64 10) (.cons (.ivar .u64 11) (.cons (.ivar .i64 12) (.cons (.ivar .u64 13) (.cons (.ivar .i64 14) (.cons (.ivar .u64 15) (.cons (.ivar .i64 16) (.cons (.ivar .u64 17) (.cons (.ivar .i64 18) (.cons (.ivar .i64 19) .nil))))))))))))))))))))) (.cons (.lit .i64 65536) .nil)))))), (.int .i64 0)]))
  (.leaf (.agg [(.bool false), (.int .i64 0)]))))
noncomputable def Tr7_T107 : List Ent := ⟨107, [.agg [some .i64, some .u64, some .i64, some .u64, some .i64, some .u64, some .i64, some .u64, some .i64, some .u64, some .i64, some .u64, some .i64, some .u64, some .i64, some .u64, some .i64, some .u64, some .i64, some .i64]], .one (.agg [none, some .i64]), treeFn tr107, false⟩ :: Tr7_T131
set_option maxHeartbeats 4000000 in
theorem Tr7_ok107 : TbOK Try.prog Tr7_T107 := tb_tree (b := bW.loops TbF_L) (loops_ok bW_ok _) (lb_of Tr7_lb131) (d := 300) Tr7_ok131 (fn rfl) (by kernel_rfl)
theorem Tr7_lb107 : LBs Try.prog TbF_L Tr7_T107 := lbs_cons Tr7_lb131 (by kernel_rfl)
def tr108 : ST :=
 (.leaf (.agg [(.opq (.app 19 0 (some .i64) (.cons (.ivar .i64 0) (.cons (.ivar .u64 1) (.cons (.app 73 0 (some .i64) (.cons (.ivar .i64 2) (.cons (.ivar .u64 3) .nil))) (.cons (.app 73 1 (some .u64) (.cons (.ivar .i64 2) (.cons (.ivar .u64 3) .nil))) .nil)))))), (.opq (.app 19 1 (some .u64) (.cons (.ivar .i64 0) (.cons (.ivar .u64 1) (.cons (.app 73 0 (some .i64) (.cons (.ivar .i64 2) (.cons (.ivar .u64 3) .nil))) (.cons (.app 73 1 (some .u64) (.cons (.ivar .i64 2) (.cons (.ivar .u64 3) .nil))) .nil)))))), (.opq (.app 19 2 (some .i64) (.cons (.ivar .i64 0) (.cons (.ivar .u64 1) (.cons (.app 73 0 (some .i64) (.cons (.ivar .i64 2) (.cons (.ivar .u64 3) .nil))) (.cons (.app 73 1 (some .u64) (.cons (.ivar .i64 2) (.cons (.ivar .u64 3) .nil))) .nil))))))]))
noncomputable def Tr7_T108 : List Ent := ⟨108, [.agg [some .i64, some .u64], .agg [some .i64, some .u64]], .one (.agg [some .i64, some .u64, some .i64]), treeFn tr108, false⟩ :: Tr7_T107
set_option maxHeartbeats 4000000 in
theorem Tr7_ok108 : TbOK Try.prog Tr7_T108 := tb_tree (b := bW.loops TbF_L) (loops_ok bW_ok _) (lb_of Tr7_lb107) (d := 300) Tr7_ok107 (fn rfl) (by kernel_rfl)
theorem Tr7_lb108 : LBs Try.prog TbF_L Tr7_T108 := lbs_cons Tr7_lb107 (by kernel_rfl)
def tr109 : ST :=
 (.ask (.not (.app 131 0 none (.cons (.ivar .i64 0) (.cons (.ivar .u64 1) (.cons (.lit .i64 1073741824) .nil))))) (.leaf (.one (.opq (.not (.app 131 0 none (.cons (.ivar .i64 2) (.cons (.ivar .u64 3) (.cons (.lit .i64 1073741824) .nil))))))))
  (.leaf (.one (.bool false))))
noncomputable def Tr7_T109 : List Ent := ⟨109, [.agg [some .i64, some .u64, some .i64, some .u64]], .one (.one none), treeFn tr109, false⟩ :: Tr7_T108
set_option maxHeartbeats 4000000 in
theorem Tr7_ok109 : TbOK Try.prog Tr7_T109 := tb_tree (b := bW.loops TbF_L) (loops_ok bW_ok _) (lb_of Tr7_lb108) (d := 300) Tr7_ok108 (fn rfl) (by kernel_rfl)
theorem Tr7_lb109 : LBs Try.prog TbF_L Tr7_T109 := lbs_cons Tr7_lb108 (by kernel_rfl)
def tr90 : ST :=
 (.ask (.not (.app 88 0 none (.cons (.ivar .i64 0) (.cons (.ivar .u64 1) (.cons (.lit .i64 0) (.cons (.lit .u64 281474976710656) (.cons (.lit .i64 1048576) (.cons (.lit .u64 0) .nil)))))))) (.leaf (.one (.bool false)))
  (.ask (.not (.app 54 0 none (.cons (.ivar .i64 2) (.cons (.ivar .u64 3) (.cons (.lit .i64 65536) .nil))))) (.leaf (.one (.bool false)))
  (.ask (.not (.app 88 0 none (.cons (.ivar .i64 12) (.cons (.ivar .u64 13) (.cons (.lit .i64 0) (.cons (.lit .u64 0) (.cons (.ivar .i64 0) (.cons (.ivar .u64 1) .nil)))))))) (.leaf (.one (.bool false)))
  (.ask (.not (.app 54 0 none (.cons (.ivar .i64 14) (.cons (.ivar .u64 15) (.cons (.lit .i64 65536) .nil))))) (.leaf (.one (.bool false)))
  (.ask (.not (.app 54 0 none (.cons (.ivar .i64 16) (.cons (.ivar .u64 17) (.cons (.lit .i64 65536) .nil))))) (.leaf (.one (.bool false)))
  (.ask (.not (.app 55 0 none (.cons (.ivar .i64 4) (.cons (.ivar .u64 5) (.cons (.ivar .i64 6) (.cons (.ivar .u64 7) .nil)))))) (.leaf (.one (.bool false)))
  (.ask (.not (.app 55 0 none (.cons (.ivar .i64 8) (.cons (.ivar .u64 9) (.cons (.ivar .i64 10) (.cons (.ivar .u64 11) .nil)))))) (.leaf (.one (.bool false)))
  (.ask (.cmp .geq (.app 106 0 (some .i64) (.cons (.app 108 0 (some .i64) (.cons (.ivar .i64 0) (.cons (.ivar .u64 1) (.cons (.ivar .i64 12) (.cons (.ivar .u64 13) .nil))))) (.cons (.app 108 1 (some .u64) (.cons (.ivar .i64 0) (.cons (.ivar .u64 1) (.cons (.ivar .i64 12) (.cons (.ivar .u64 13) .nil))))) (.cons (.lit .i64 0) (.cons (.lit .u64 281474976710656) .nil))))) (.lit .i64 0)) (.ask (.app 109 0 none (.cons (.ivar .i64 4) (.cons (.ivar .u64 5) (.cons (.ivar .i64 6) (.cons (.ivar .u64 7) .nil))))) (.ask (.app 107 0 none (.cons (.ivar .i64 0) (.cons (.ivar .u64 1) (.cons (.ivar .i64 2) (.cons (.ivar .u64 3) (.cons (.ivar .i64 4) (.cons (.ivar .u64 5) (.cons (.ivar .i64 6) (.cons (.ivar .u64 7) (.cons (.ivar .i64 8) (.cons (.ivar .u64 9) (.cons (.ivar .i64 10) (.cons (.ivar .u64 11) (.cons (.ivar .i64 12) (.cons (.ivar .u64 13) (.cons (.ivar .i64 14) (.cons (.ivar .u64 15) (.cons (.ivar .i64 16) (.cons (.ivar .u64 17) (.cons (.ivar .i64 18) (.cons (.ivar .i64 19) .nil))))))))))))))))))))) (.ask (.app 53 0 none (.cons (.ivar .i64 18) (.cons (.lit .i64 0) (.cons (.lit .i64 100) .nil)))) (.leaf (.one (.opq (.app 53 0 none (.cons (.ivar .i64 19) (.cons (.lit .i64 0) (.cons (.lit .i64 65535) .nil)))))))
  (.leaf (.one (.bool false))))
  (.leaf (.one (.bool false))))
  (.leaf (.one (.bool false))))
  (.leaf (.one (.bool false)))))))))))
noncomputable def Tr7_T90 : List Ent := ⟨90, [.agg [some .i64, some .u64, some .i64, some .u64, some .i64, some .u64, some .i64, some .u64, some .i64, some .u64, some .i64, some .u64, some .i64, some .u64, some .i64, some .u64, some .i64, some .u64, some .i64, some .i64]], .one (.one none), treeFn tr90, false⟩ :: Tr7_T109
set_option maxHeartbeats 4000000 in
theorem Tr7_ok90 : TbOK Try.prog Tr7_T90 := tb_tree (b := bW.loops TbF_L) (loops_ok bW_ok _) (lb_of Tr7_lb109) (d := 300) Tr7_ok109 (fn rfl) (by kernel_rfl)
theorem Tr7_lb90 : LBs Try.prog TbF_L Tr7_T90 := lbs_cons Tr7_lb109 (by kernel_rfl)
def tr91 : ST :=
 (.ask (.cmp .geq (.ivar .i64 0) (.lit .i64 (-1))) (.ask (.cmp .lss (.ivar .i64 0) (.ivar .i64 10)) (.ask (.app 54 0 none (.cons (.ivar .i64 1) (.cons (.ivar .u64 2) (.cons (.lit .i64 268435456) .nil)))) (.ask (.app 88 0 none (.cons (.ivar .i64 3) (.cons (.ivar .u64 4) (.cons (.lit .i64 0) (.cons (.lit .u64 0) (.cons (.lit .i64 0) (.cons (.lit .u64 17293822569102704640) .nil))))))) (.ask (.app 53 0 none (.cons (.ivar .i64 5) (.cons (.lit .i64 0) (.cons (.lit .i64 65535) .nil)))) (.ask (.app 53 0 none (.cons (.ivar .i64 6) (.cons (.lit .i64 0) (.cons (.lit .i64 65535) .nil)))) (.ask (.app 53 0 none (.cons (.ivar .i64 7) (.cons (.lit .i64 1) (.cons (.lit .i64 1073741824) .nil)))) (.leaf (.one (.opq (.app 54 0 none (.cons (.ivar .i64 8) (.cons (.ivar .u64 9) (.cons (.lit .i64 1073741824) .nil)))))))
  (.leaf (.one (.bool false))))
  (.leaf (.one (.bool false))))
  (.leaf (.one (.bool false))))
  (.leaf (.one (.bool false))))
  (.leaf (.one (.bool false))))
  (.leaf (.one (.bool false))))
  (.leaf (.one (.bool false))))
noncomputable def Tr7_T91 : List Ent := ⟨91, [.agg [some .i64, some .i64, some .u64, some .i64, some .u64, some .i64, some .i64, some .i64, some .i64, some .u64], .one (some .i64)], .one (.one none), treeFn tr91, false⟩ :: Tr7_T90
set_option maxHeartbeats 4000000 in
theorem Tr7_ok91 : TbOK Try.prog Tr7_T91 := tb_tree (b := bW.loops TbF_L) (loops_ok bW_ok _) (lb_of Tr7_lb90) (d := 300) Tr7_ok90 (fn rfl) (by kernel_rfl)
theorem Tr7_lb91 : LBs Try.prog TbF_L Tr7_T91 := lbs_cons Tr7_lb90 (by kernel_rfl)
def Tr7_L : List LEnt := TbF_L
noncomputable def Tr7_T : List Ent := Tr7_T91
theorem Tr7_ok : TbOK Try.prog Tr7_T := Tr7_ok91
theorem Tr7_lb : LBs Try.prog TbF_L Tr7_T := Tr7_lb91
end Go.Proofs.Ytedfbamihjnhhaa.Own
end
