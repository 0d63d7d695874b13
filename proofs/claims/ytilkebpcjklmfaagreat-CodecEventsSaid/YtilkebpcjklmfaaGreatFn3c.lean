/- Contracts of functions: found by program, checked by the kernel. -/
import Derived.Test.YtilkebpcjklmfaaGreatGpA
set_option linter.unusedVariables false
set_option linter.unusedSimpArgs false
set_option linter.unusedSectionVars false
namespace Go.Proofs.YtilkebpcjklmfaaGreat.Own
open Go Go.RowKit Go.Proofs
set_option maxRecDepth 100000
set_option maxHeartbeats 40000000
theorem mg_c6:qay mgT6 mgD6=true:=by kernel_rfl
theorem yc6:qay z1q mgD14=true:=by kernel_rfl
theorem yd8:qay zyt mgD22=true:=by kernel_rfl
theorem yej:qay zzm mgD30=true:=by kernel_rfl
theorem z7h:qay z0a mgD39=true:=by kernel_rfl
theorem z9y:qay zr3 mgD47=true:=by kernel_rfl
theorem z9k:qay z20 mgD55=true:=by kernel_rfl
theorem z8o:qay zzy mgD63=true:=by kernel_rfl
theorem yb0:qay ztr mgD71=true:=by kernel_rfl
theorem z7a:qay zrw mgD83=true:=by kernel_rfl
theorem z6v:qay zrd mgD91=true:=by kernel_rfl
theorem z21:qay q9l z6o=true:=by kernel_rfl
theorem z3o:qay q6e z6n=true:=by kernel_rfl
theorem z3j:qay zdi z62=true:=by kernel_rfl
theorem z01:qay zff yfo=true:=by kernel_rfl
theorem zsz:qay q8u z82=true:=by kernel_rfl
theorem z0q:qay q6u yen=true:=by kernel_rfl
theorem zzu:qay zc7 z6s=true:=by kernel_rfl
theorem zz5:qay zdk z4y=true:=by kernel_rfl
theorem z17:qay zdy z6q=true:=by kernel_rfl
theorem zsd:qay zai yao=true:=by kernel_rfl
theorem zsq:qay ze9 z4n=true:=by kernel_rfl
theorem zrl:qay q6v z6w=true:=by kernel_rfl
theorem zvv:qay q74 yc3=true:=by kernel_rfl
theorem zup:qay zfp z5d=true:=by kernel_rfl
theorem zuo:qay q8a z48=true:=by kernel_rfl
theorem z2c:qay zez ya2=true:=by kernel_rfl
theorem zs5:qay zfq yak=true:=by kernel_rfl
theorem zwl:qay q8r z6f=true:=by kernel_rfl
end Go.Proofs.YtilkebpcjklmfaaGreat.Own
