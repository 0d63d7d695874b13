/- Contracts of functions: found by program, checked by the kernel. -/
import Derived.Test.YtilkebpcjklmfaaGreatGpA
set_option linter.unusedVariables false
set_option linter.unusedSimpArgs false
set_option linter.unusedSectionVars false
namespace Go.Proofs.YtilkebpcjklmfaaGreat.Own
open Go Go.RowKit Go.Proofs
set_option maxRecDepth 100000
set_option maxHeartbeats 40000000
theorem mg_c8:qay mgT8 mgD8=true:=by kernel_rfl
theorem ycv:qay zw2 mgD16=true:=by kernel_rfl
theorem ycr:qay z10 mgD24=true:=by kernel_rfl
theorem ybt:qay z0y mgD32=true:=by kernel_rfl
theorem z4u:qay zr1 mgD41=true:=by kernel_rfl
theorem yc2:qay zs_ mgD49=true:=by kernel_rfl
theorem z89:qay zrq mgD57=true:=by kernel_rfl
theorem ydu:qay z1x mgD65=true:=by kernel_rfl
theorem z69:qay z3a mgD72=true:=by kernel_rfl
theorem z90:qay zyu mgD85=true:=by kernel_rfl
theorem yhu:qay zwk mgD93=true:=by kernel_rfl
theorem z3u:qay zgg yam=true:=by kernel_rfl
theorem zxp:qay zct z5h=true:=by kernel_rfl
theorem zsg:qay q7l z8h=true:=by kernel_rfl
theorem zzs:qay q9i ydb=true:=by kernel_rfl
theorem zua:qay q6l z8x=true:=by kernel_rfl
theorem zxf:qay q99 yex=true:=by kernel_rfl
theorem zrv:qay zcd ydr=true:=by kernel_rfl
theorem zvb:qay zad ya0=true:=by kernel_rfl
theorem zv6:qay zd6 z42=true:=by kernel_rfl
theorem zt7:qay q72 yd_=true:=by kernel_rfl
theorem z1a:qay zgc ydg=true:=by kernel_rfl
theorem zsv:qay q7e yho=true:=by kernel_rfl
theorem ztw:qay ze7 z7x=true:=by kernel_rfl
theorem z0g:qay q6p yek=true:=by kernel_rfl
theorem z3l:qay zcy z8t=true:=by kernel_rfl
theorem zyq:qay q89 z7f=true:=by kernel_rfl
theorem zrp:qay zf3 z7m=true:=by kernel_rfl
end Go.Proofs.YtilkebpcjklmfaaGreat.Own
