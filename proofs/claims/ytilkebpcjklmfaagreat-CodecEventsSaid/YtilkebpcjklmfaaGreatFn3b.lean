/- Contracts of functions: found by program, checked by the kernel. -/
import Derived.Test.YtilkebpcjklmfaaGreatGpA
set_option linter.unusedVariables false
set_option linter.unusedSimpArgs false
set_option linter.unusedSectionVars false
namespace Go.Proofs.YtilkebpcjklmfaaGreat.Own
open Go Go.RowKit Go.Proofs
set_option maxRecDepth 100000
set_option maxHeartbeats 40000000
theorem mg_c4:qay mgT4 mgD4=true:=by kernel_rfl
theorem z9z:qay zt3 mgD12=true:=by kernel_rfl
theorem yey:qay zvw mgD20=true:=by kernel_rfl
theorem z60:qay z3c mgD28=true:=by kernel_rfl
theorem z6g:qay z1z mgD37=true:=by kernel_rfl
theorem z6k:qay z0p mgD45=true:=by kernel_rfl
theorem z4k:qay z22 mgD52=true:=by kernel_rfl
theorem z51:qay z2x mgD61=true:=by kernel_rfl
theorem yaa:qay zuk mgD69=true:=by kernel_rfl
theorem yaw:qay ztu mgD81=true:=by kernel_rfl
theorem yfh:qay ztj mgD89=true:=by kernel_rfl
theorem zr2:qay zd4 yad=true:=by kernel_rfl
theorem zu6:qay zap z93=true:=by kernel_rfl
theorem zxm:qay q6t z88=true:=by kernel_rfl
theorem zve:qay zds yem=true:=by kernel_rfl
theorem zz4:qay zgd yhj=true:=by kernel_rfl
theorem zu2:qay ze0 ydq=true:=by kernel_rfl
theorem z1r:qay q9g ygh=true:=by kernel_rfl
theorem z1v:qay q8e yge=true:=by kernel_rfl
theorem zzr:qay q7z yel=true:=by kernel_rfl
theorem zwb:qay zfr yg4=true:=by kernel_rfl
theorem zz8:qay zcl z6h=true:=by kernel_rfl
theorem zx_:qay zb8 z4o=true:=by kernel_rfl
theorem z19:qay zdm yco=true:=by kernel_rfl
theorem zzc:qay q8_ z4z=true:=by kernel_rfl
theorem zui:qay zfa yfg=true:=by kernel_rfl
theorem z1g:qay zfj yc5=true:=by kernel_rfl
theorem zym:qay zgb z40=true:=by kernel_rfl
theorem zwa:qay q9o z9r=true:=by kernel_rfl
end Go.Proofs.YtilkebpcjklmfaaGreat.Own
