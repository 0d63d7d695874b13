/- Contracts of functions: found by program, checked by the kernel. -/
import Derived.Test.YtilkebpcjklmfaaGreatGpA
set_option linter.unusedVariables false
set_option linter.unusedSimpArgs false
set_option linter.unusedSectionVars false
namespace Go.Proofs.YtilkebpcjklmfaaGreat.Own
open Go Go.RowKit Go.Proofs
set_option maxRecDepth 100000
set_option maxHeartbeats 40000000
theorem yea:qay z2j mgD10=true:=by kernel_rfl
theorem yd9:qay zyp mgD18=true:=by kernel_rfl
theorem ya6:qay z0h mgD26=true:=by kernel_rfl
theorem z8g:qay z06 mgD35=true:=by kernel_rfl
theorem ybk:qay zz1 mgD43=true:=by kernel_rfl
theorem yfq:qay zt0 mgD51=true:=by kernel_rfl
theorem z8i:qay z3m mgD59=true:=by kernel_rfl
theorem yc8:qay zyb mgD67=true:=by kernel_rfl
theorem ygj:qay z2l mgD79=true:=by kernel_rfl
theorem ygs:qay z2v mgD87=true:=by kernel_rfl
theorem zss:qay q7h yhl=true:=by kernel_rfl
theorem zsl:qay q68 ybi=true:=by kernel_rfl
theorem z3k:qay zag ybx=true:=by kernel_rfl
theorem zwd:qay zf_ ya1=true:=by kernel_rfl
theorem z3f:qay q94 yan=true:=by kernel_rfl
theorem zxs:qay zfi ybo=true:=by kernel_rfl
theorem zx6:qay zc6 yca=true:=by kernel_rfl
theorem z00:qay q8g yb2=true:=by kernel_rfl
theorem zq9:qay q9w z7t=true:=by kernel_rfl
theorem zwo:qay q7j z75=true:=by kernel_rfl
theorem zr4:qay zab yhm=true:=by kernel_rfl
theorem ztc:qay zfn z68=true:=by kernel_rfl
theorem z2d:qay zek z4_=true:=by kernel_rfl
theorem zyl:qay zaw z8p=true:=by kernel_rfl
theorem ztl:qay q9n yed=true:=by kernel_rfl
theorem zse:qay zfu yg9=true:=by kernel_rfl
theorem zvj:qay zdl z6b=true:=by kernel_rfl
theorem zso:qay q8q z54=true:=by kernel_rfl
end Go.Proofs.YtilkebpcjklmfaaGreat.Own
