/- Contracts of functions: found by program, checked by the kernel. What codec.Get takes out of a world's bytes is the world: the way through its tree. What codec.Get takes out of a world's bytes is the world. The bytes that codec.Put makes. Same of a world with itself. Contracts of loops that go through lists: found by program, checked by the kernel. -/
import Derived.Test.YtilkebpcjklmfaaGreatFn3b
import Derived.Test.YtilkebpcjklmfaaGreatFn3c
import Derived.Test.YtilkebpcjklmfaaGreatFn3d
import Derived.Test.YtilkebpcjklmfaaGreatFn3e
import Derived.Test.YtilkebpcjklmfaaGreatWmD
set_option linter.unusedVariables false
set_option linter.unusedSimpArgs false
set_option linter.unusedSectionVars false
namespace Go.Proofs.YtilkebpcjklmfaaGreat.Own
open Go Go.RowKit Go.Proofs
set_option maxRecDepth 100000
set_option maxHeartbeats 40000000
theorem zvd:qay za3 qz6=true:=qae (x:=(.not (.app 30001 1 none (.cons (.conv .i64 (.wd (.ldr (.lvar 0) (.lit .i64 4)) 8)) (.cons (.conv .i64 (.wd (.ldr (.lvar 0) (.lit .i64 12)) 8)) (.cons (.wd (.ldr (.lvar 0) (.lit .i64 20)) 8) (.cons (.conv .i64 (.wd (.ldr (.lvar 0) (.lit .i64 28)) 8)) (.cons (.wd (.ldr (.lvar 0) (.lit .i64 36)) 8) (.cons (.conv .i64 (.wd (.ldr (.lvar 0) (.lit .i64 44)) 8)) (.cons (.wd (.ldr (.lvar 0) (.lit .i64 52)) 8) (.cons (.conv .i64 (.wd (.ldr (.lvar 0) (.lit .i64 60)) 8)) (.cons (.wd (.ldr (.lvar 0) (.lit .i64 68)) 8) (.cons (.conv .i64 (.wd (.ldr (.lvar 0) (.lit .i64 76)) 8)) (.cons (.wd (.ldr (.lvar 0) (.lit .i64 84)) 8) (.cons (.conv .i64 (.wd (.ldr (.lvar 0) (.lit .i64 92)) 8)) (.cons (.conv .i64 (.wd (.ldr (.lvar 0) (.lit .i64 100)) 8)) (.cons mgV52 (.cons mgV53 (.cons mgV54 (.cons mgV55 (.cons mgV57 (.cons zd7 (.cons zdx (.cons za2 (.cons za0 (.cons q9j (.cons mgV56 .nil))))))))))))))))))))))))))) (t:=q8q) (e:=q9o) (ds:=qz6) (by kernel_rfl) zso zwa
theorem zrn:qay zau zbb=true:=qa2 (by kernel_rfl) zvd
theorem z2z:qay zg4 q61=true:=qa2 (by kernel_rfl) zrn
theorem zxn:qay zcj zfs=true:=qa2 (by kernel_rfl) z2z
theorem z1c:qay zf9 zep=true:=qa2 (by kernel_rfl) zxn
theorem z0d:qay q7c q69=true:=qa2 (by kernel_rfl) z1c
theorem zue:qay zb0 qyj=true:=qae (by kernel_rfl) zrp z0d
theorem z2b:qay q9z qzv=true:=qae (by kernel_rfl) zs5 zue
theorem zyo:qay q9_ q8c=true:=qa2 (by kernel_rfl) z2b
theorem zvr:qay ze5 q11=true:=qae (by kernel_rfl) zym zyo
theorem zq8:qay q88 q04=true:=qae (by kernel_rfl) zvj zvr
theorem zu_:qay q8s q3w=true:=qae (by kernel_rfl) zyq zq8
theorem z3e:qay zcw q0y=true:=qae (by kernel_rfl) z2c zu_
theorem z2a:qay q53 q2o=true:=qae (by kernel_rfl) z1g z3e
theorem zsk:qay zfv q0i=true:=qae (by kernel_rfl) zse z2a
theorem zwm:qay zam qyp=true:=qae (by kernel_rfl) z3l zsk
theorem zz6:qay zc8 qzh=true:=qae (by kernel_rfl) zuo zwm
theorem zzw:qay zeh qz7=true:=qae (by kernel_rfl) zui zz6
theorem z1w:qay q6n q05=true:=qae (by kernel_rfl) ztl zzw
theorem zyj:qay zeo q63=true:=qa2 (by kernel_rfl) z1w
theorem zrc:qay zac zdn=true:=qa2 (by kernel_rfl) zyj
theorem zud:qay q8y zdq=true:=qa2 (by kernel_rfl) zrc
theorem zwh:qay zcv zbp=true:=qa2 (by kernel_rfl) zud
theorem zye:qay q7n zem=true:=qa2 (by kernel_rfl) z0g
theorem z0k:qay q91 qzt=true:=qae (by kernel_rfl) zup zye
theorem zyr:qay zcm qzs=true:=qae (by kernel_rfl) zzc z0k
theorem zxz:qay zg5 qyw=true:=qae (by kernel_rfl) zyl zyr
theorem zw4:qay zel q07=true:=qae (by kernel_rfl) ztw zxz
theorem zwq:qay zax q3z=true:=qae (by kernel_rfl) zvv zw4
theorem z15:qay q5_ q32=true:=qae (by kernel_rfl) z19 zwq
theorem zw0:qay zb3 q1o=true:=qae (by kernel_rfl) z2d z15
theorem zs0:qay zej zc5=true:=qa2 (by kernel_rfl) zw0
theorem zs4:qay zd2 q6q=true:=qa2 (by kernel_rfl) zs0
theorem zrb:qay q6b qzw=true:=qae (by kernel_rfl) zs4 zwh
theorem zx3:qay zbo zg1=true:=qa2 (by kernel_rfl) zsv
theorem zs7:qay ze1 q0o=true:=qae (by kernel_rfl) zrl zx3
theorem zv4:qay q9a q3x=true:=qae (by kernel_rfl) zx_ zs7
theorem zya:qay q9c q0c=true:=qae (by kernel_rfl) ztc zv4
theorem zzg:qay zeg qyx=true:=qae (by kernel_rfl) z1a zya
theorem zvk:qay zf1 q1v=true:=qae (by kernel_rfl) zsq zzg
theorem zu7:qay q9v q29=true:=qae (by kernel_rfl) zz8 zvk
theorem zwt:qay zbm q1c=true:=qae (by kernel_rfl) zr4 zu7
theorem zr0:qay zd0 ze_=true:=qa2 (by kernel_rfl) zwt
theorem z0f:qay q6_ zd9=true:=qa2 (by kernel_rfl) zr0
theorem z3r:qay q75 qz8=true:=qae (by kernel_rfl) z0f zrb
theorem zxc:qay zbk zdw=true:=qa2 (by kernel_rfl) z3r
theorem zvf:qay q6i zfy=true:=qa2 (by kernel_rfl) zt7
theorem z0i:qay q70 qzc=true:=qae (by kernel_rfl) zsd zvf
theorem zzl:qay zf2 q3u=true:=qae (by kernel_rfl) zwb z0i
theorem z29:qay zgw qyo=true:=qae (by kernel_rfl) zwo zzl
theorem z2u:qay q6h q1j=true:=qae (by kernel_rfl) zv6 z29
theorem ztd:qay zed q37=true:=qae (by kernel_rfl) z17 z2u
theorem zuv:qay zg6 qzl=true:=qae (by kernel_rfl) zzr ztd
theorem z13:qay q7g qzo=true:=qae (by kernel_rfl) zq9 zuv
theorem zyn:qay q6m zce=true:=qa2 (by kernel_rfl) z13
theorem zvh:qay q9m q64=true:=qa2 (by kernel_rfl) zyn
theorem zs8:qay zee qyh=true:=qae (by kernel_rfl) zvh zxc
theorem z2g:qay zc1 zbz=true:=qa2 (by kernel_rfl) zs8
theorem zsh:qay q8x q9q=true:=qa2 (by kernel_rfl) z2g
theorem z1s:qay q8w q71=true:=qa2 (by kernel_rfl) zvb
theorem z1u:qay zd3 q2i=true:=qae (by kernel_rfl) zz5 z1s
theorem zv2:qay zbi q16=true:=qae (by kernel_rfl) z1v z1u
theorem zr8:qay q58 q25=true:=qae (by kernel_rfl) z00 zv2
theorem zzv:qay zcq qyi=true:=qae (by kernel_rfl) zrv zr8
theorem zts:qay q8p q08=true:=qae (by kernel_rfl) zzu zzv
theorem z0z:qay zas qzu=true:=qae (by kernel_rfl) z1r zts
theorem zv8:qay zbn qzb=true:=qae (by kernel_rfl) zx6 z0z
theorem zz_:qay zdr q9s=true:=qa2 (by kernel_rfl) zv8
theorem zxi:qay zdv zbv=true:=qa2 (by kernel_rfl) zz_
theorem zut:qay zfz q6w=true:=qa2 (by kernel_rfl) zxf
theorem zvc:qay zeb q2t=true:=qae (by kernel_rfl) z0q zut
theorem zzd:qay q80 q1w=true:=qae (by kernel_rfl) zu2 zvc
theorem zvo:qay zc9 q21=true:=qae (by kernel_rfl) zxs zzd
theorem z3p:qay zf7 q06=true:=qae (by kernel_rfl) zua zvo
theorem zy6:qay zeu q1z=true:=qae (by kernel_rfl) zsz z3p
theorem z1k:qay zd8 q18=true:=qae (by kernel_rfl) zz4 zy6
theorem z0j:qay q95 qy2=true:=qae (by kernel_rfl) z3f z1k
theorem zwf:qay q9r q7f=true:=qa2 (by kernel_rfl) z0j
theorem ztn:qay zak zdu=true:=qa2 (by kernel_rfl) zwf
theorem z3q:qay zg9 q2v=true:=qae (by kernel_rfl) ztn zxi
theorem zyy:qay zdb q4c=true:=qae (by kernel_rfl) z3q zsh
theorem zr6:qay zer zdt=true:=qa2 (by kernel_rfl) zzs
theorem zur:qay q6s q3e=true:=qae (by kernel_rfl) z01 zr6
theorem zub:qay zb7 q1a=true:=qae (by kernel_rfl) zve zur
theorem zx4:qay zfc qyl=true:=qae (by kernel_rfl) zwd zub
theorem zw9:qay zaf q1t=true:=qae (by kernel_rfl) zsg zx4
theorem zty:qay zbw qy9=true:=qae (by kernel_rfl) z3j zw9
theorem ztz:qay zcf q4i=true:=qae (by kernel_rfl) zxm zty
theorem zyk:qay zfw qy4=true:=qae (by kernel_rfl) z3k ztz
theorem zza:qay q9y za7=true:=qa2 (by kernel_rfl) zyk
theorem zvt:qay q7k zfx=true:=qa2 (by kernel_rfl) zza
theorem zxw:qay zgm zco=true:=qa2 (by kernel_rfl) zxp
theorem zxa:qay zgj qz5=true:=qae (by kernel_rfl) z3o zxw
theorem zy9:qay q6g q3p=true:=qae (by kernel_rfl) zu6 zxa
theorem zzx:qay q90 q4e=true:=qae (by kernel_rfl) zsl zy9
theorem zxk:qay q7m q2h=true:=qae (by kernel_rfl) z3u zzx
theorem zw6:qay q8n q28=true:=qae (by kernel_rfl) z21 zxk
theorem zsp:qay q86 q2e=true:=qae (by kernel_rfl) zr2 zw6
theorem z8k:qay zuq zjo=true:=qae (by kernel_rfl) zss zsp
theorem ycl:qay z09 zv9=true:=qa2 (by kernel_rfl) z8k
theorem ybb:qay z25 zyf=true:=qa2 (by kernel_rfl) ycl
theorem yeb:qay zy2 zkf=true:=qae (by kernel_rfl) ybb zvt
theorem z94:qay z1l zm8=true:=qae (by kernel_rfl) yeb zyy
theorem ycm:qay zrg zyc=true:=qa2 (by kernel_rfl) z94
theorem z9t:qay zvs zx7=true:=qa2 (by kernel_rfl) yhu
theorem z43:qay zre zif=true:=qae (by kernel_rfl) z6v z9t
theorem ygb:qay zta znc=true:=qae (by kernel_rfl) yfh z43
theorem yd5:qay zyi zin=true:=qae (by kernel_rfl) ygs ygb
theorem z4x:qay zys zjv=true:=qae (by kernel_rfl) z90 yd5
theorem z5a:qay zxh zjl=true:=qae (by kernel_rfl) z7a z4x
theorem z92:qay z0e zkz=true:=qae (by kernel_rfl) yaw z5a
theorem yer:qay zuw zmv=true:=qae (by kernel_rfl) ygj z92
theorem ych:qay zu3 zvg=true:=qa2 (by kernel_rfl) yer
theorem z4f:qay z3g z03=true:=qa2 (by kernel_rfl) ych
theorem z9h:qay zum zkc=true:=qae (by kernel_rfl) z4f ycm
theorem yhe:qay zrs zrm=true:=qa2 (by kernel_rfl) z9h
theorem z5j:qay zw_ z3b=true:=qa2 (by kernel_rfl) yhe
theorem yhk:qay zsn zlr=true:=qae (by kernel_rfl) yb0 z69
theorem z6c:qay z1d zk_=true:=qae (by kernel_rfl) yaa yhk
theorem z5t:qay zwi zjq=true:=qae (by kernel_rfl) yc8 z6c
theorem ybn:qay zsu zk0=true:=qae (by kernel_rfl) ydu z5t
theorem yee:qay z1p zkh=true:=qae (by kernel_rfl) z8o ybn
theorem z7o:qay zva zip=true:=qae (by kernel_rfl) z51 yee
theorem z73:qay zvy zi9=true:=qae (by kernel_rfl) z8i z7o
theorem yhr:qay z0w zm1=true:=qae (by kernel_rfl) z89 z73
theorem ydm:qay zry zjk=true:=qae (by kernel_rfl) z9k yhr
theorem z6d:qay zzb zji=true:=qae (by kernel_rfl) ydm z5j
theorem z9b:qay z12 zj1=true:=qae (by kernel_rfl) yfq z4k
theorem z50:qay zru zms=true:=qae (by kernel_rfl) yc2 z9b
theorem yap:qay zsr znx=true:=qae (by kernel_rfl) z9y z50
theorem yae:qay z3h znb=true:=qae (by kernel_rfl) z6k yap
theorem ybe:qay z07 zh6=true:=qae (by kernel_rfl) ybk yae
theorem z5f:qay zv0 zmp=true:=qae (by kernel_rfl) z4u ybe
theorem yhg:qay zy0 znk=true:=qae (by kernel_rfl) z7h z5f
theorem z6_:qay zu8 zmm=true:=qae (by kernel_rfl) z6g yhg
theorem yhi:qay zuh zih=true:=qae (by kernel_rfl) z8g z6_
theorem yfn:qay zt8 zlg=true:=qae (by kernel_rfl) yhi z6d
theorem z47:qay zxb zi6=true:=qae (by kernel_rfl) ybt yfn
theorem z8e:qay z2y zh7=true:=qae (by kernel_rfl) yej z47
theorem z66:qay zs2 zk4=true:=qae (by kernel_rfl) z60 z8e
theorem z8r:qay zrt zk7=true:=qae (by kernel_rfl) ya6 z66
theorem z9q:qay z1t zlo=true:=qae (by kernel_rfl) ycr z8r
theorem ybw:qay z1i zia=true:=qae (by kernel_rfl) yd8 z9q
theorem yds:qay zrh zk8=true:=qae (by kernel_rfl) yey ybw
theorem yhd:qay z1h zjn=true:=qae (by kernel_rfl) yd9 yds
theorem yfm:qay ztt zml=true:=qae (by kernel_rfl) ycv yhd
theorem ydo:qay z3i znn=true:=qae (by kernel_rfl) yc6 yfm
theorem ybf:qay z2n zjr=true:=qae (by kernel_rfl) z9z ydo
theorem mg_c9:qay mgT9 mgD9=true:=qae (by kernel_rfl) yea ybf
theorem mg_c7:qay mgT7 mgD7=true:=qae (by kernel_rfl) mg_c8 mg_c9
theorem mg_c5:qay mgT5 mgD5=true:=qae (by kernel_rfl) mg_c6 mg_c7
theorem mg_c3:qay mgT3 mgD3=true:=qae (by kernel_rfl) mg_c4 mg_c5
theorem mg_c2:qay mgT2 mgD2=true:=qa2 (by kernel_rfl) mg_c3
theorem mg_c1:qay mgT1 mgD1=true:=qae (by kernel_rfl) mg_c2 zwl
theorem mg_c0:qay mgT mgD0=true:=qa2 (by kernel_rfl) mg_c1
theorem ycs:qg1 (bW.loops q5d) qdw kNo zhl 300 mgY mgT []=true:=mg_c0
theorem yg7:FCT Tryz.prog mgY (FT qdw) (fun xs=>(mgT.get (qaa (FT qdw) xs)).2):=
 qum (b:=bW.loops q5d) (Tb:=qdw) (y:=mgY) (qag qbi _) (qtx) (qbj zqh) zo3 zn7 (d:=300) (T:=mgT) (by kernel_rfl) (by kernel_rfl) ycs (fun xs hp=>ydk xs hp)
noncomputable def qod:List Ent:=⟨30005,[],.tup [],qv0 mgT,true⟩::qdw
def q81:List FEnt:=mgY::zhl
theorem zkn:qcd Tryz.prog qod:=qbw zo3 rfl (by kernel_rfl)
theorem ziw:LBs Tryz.prog q5d qod:=qao zqh (by kernel_rfl)
theorem zlw:FBs Tryz.prog q81 qod:=qqh zn7 (by kernel_rfl) (by kernel_rfl) (by kernel_rfl) yg7 (fun _=>rfl)
noncomputable def qr5:List Ent:=qod
def zil:List LEnt:=q5d
def zjg:List FEnt:=q81
theorem zqo:qcd Tryz.prog qr5:=zkn
theorem zoh:LBs Tryz.prog zil qr5:=ziw
theorem yg_:FBs Tryz.prog zjg qr5:=zlw
end Go.Proofs.YtilkebpcjklmfaaGreat.Own
namespace Go.Proofs.YtilkebpcjklmfaaGreat.Own
open Go Go.RowKit Go.Proofs Go.Proofs.YtilkebpcjklmfaaGreat.Plain
set_option maxRecDepth 100000
set_option maxHeartbeats 40000000
def mgP:List (SE×Bool):=[
 ((.cmp .geq (.len (.lvar 0)) (.lit .i64 4)),true),
 ((.not (.seq (.ltk (.lvar 0) (.lit .i64 4)) (.lbs [80,82,71,49]))),false),
 ((.cmp .lss (.len (.ldr (.lvar 0) (.lit .i64 4))) (.lit .i64 8)),false),
 ((.cmp .lss (.len (.ldr (.lvar 0) (.lit .i64 12))) (.lit .i64 8)),false),
 ((.cmp .lss (.len (.ldr (.lvar 0) (.lit .i64 20))) (.lit .i64 8)),false),
 ((.cmp .lss (.len (.ldr (.lvar 0) (.lit .i64 28))) (.lit .i64 8)),false),
 ((.cmp .lss (.len (.ldr (.lvar 0) (.lit .i64 36))) (.lit .i64 8)),false),
 ((.cmp .lss (.len (.ldr (.lvar 0) (.lit .i64 44))) (.lit .i64 8)),false),
 ((.cmp .lss (.len (.ldr (.lvar 0) (.lit .i64 52))) (.lit .i64 8)),false),
 ((.cmp .lss (.len (.ldr (.lvar 0) (.lit .i64 60))) (.lit .i64 8)),false),
 ((.cmp .lss (.len (.ldr (.lvar 0) (.lit .i64 68))) (.lit .i64 8)),false),
 ((.cmp .lss (.len (.ldr (.lvar 0) (.lit .i64 76))) (.lit .i64 8)),false),
 ((.cmp .lss (.len (.ldr (.lvar 0) (.lit .i64 84))) (.lit .i64 8)),false),
 ((.cmp .lss (.len (.ldr (.lvar 0) (.lit .i64 92))) (.lit .i64 8)),false),
 ((.cmp .lss (.len (.ldr (.lvar 0) (.lit .i64 100))) (.lit .i64 8)),false),
 ((.cmp .lss (.len (.ldr (.lvar 0) (.lit .i64 108))) (.lit .i64 8)),false),
 ((.cmp .lss (.conv .i64 (.wd (.ldr (.lvar 0) (.lit .i64 108)) 8)) (.lit .i64 0)),false),
 ((.cmp .gtr (.conv .i64 (.wd (.ldr (.lvar 0) (.lit .i64 108)) 8)) (.lit .i64 32)),false),
 ((.cmp .lss zy4 (.lit .i64 8)),false),
 ((.cmp .lss mgV12 (.lit .i64 0)),false),
 ((.cmp .gtr mgV12 (.lit .i64 32)),false),
 ((.cmp .lss qwz (.lit .i64 8)),false),
 ((.cmp .lss mgV29 (.lit .i64 0)),false),
 ((.cmp .gtr mgV29 (.lit .i64 16)),false),
 ((.cmp .lss q4j (.lit .i64 8)),false),
 ((.cmp .lss (.len zhr) (.lit .i64 8)),false),
 ((.cmp .lss (.len zm_) (.lit .i64 8)),false),
 ((.cmp .lss (.len zny) (.lit .i64 8)),false),
 ((.cmp .lss (.len zld) (.lit .i64 8)),false),
 ((.cmp .lss (.len zku) (.lit .i64 8)),false),
 ((.cmp .lss (.len mgV46) (.lit .i64 8)),false),
 (mgV47,false),
 ((.cmp .lss mgV48 (.lit .i64 0)),false),
 ((.cmp .gtr mgV48 (.lit .i64 400)),false),
 ((.app 20105 4 none qk3),false),
 ((.not (.seq (.lap 20105 3 qk3) (.lbs []))),false),
 ((.not (.app 30001 1 none (.cons (.conv .i64 (.wd (.ldr (.lvar 0) (.lit .i64 4)) 8)) (.cons (.conv .i64 (.wd (.ldr (.lvar 0) (.lit .i64 12)) 8)) (.cons (.wd (.ldr (.lvar 0) (.lit .i64 20)) 8) (.cons (.conv .i64 (.wd (.ldr (.lvar 0) (.lit .i64 28)) 8)) (.cons (.wd (.ldr (.lvar 0) (.lit .i64 36)) 8) (.cons (.conv .i64 (.wd (.ldr (.lvar 0) (.lit .i64 44)) 8)) (.cons (.wd (.ldr (.lvar 0) (.lit .i64 52)) 8) (.cons (.conv .i64 (.wd (.ldr (.lvar 0) (.lit .i64 60)) 8)) (.cons (.wd (.ldr (.lvar 0) (.lit .i64 68)) 8) (.cons (.conv .i64 (.wd (.ldr (.lvar 0) (.lit .i64 76)) 8)) (.cons (.wd (.ldr (.lvar 0) (.lit .i64 84)) 8) (.cons (.conv .i64 (.wd (.ldr (.lvar 0) (.lit .i64 92)) 8)) (.cons (.conv .i64 (.wd (.ldr (.lvar 0) (.lit .i64 100)) 8)) (.cons mgV52 (.cons mgV53 (.cons mgV54 (.cons mgV55 (.cons mgV57 (.cons zd7 (.cons zdx (.cons za2 (.cons za0 (.cons q9j (.cons mgV56 .nil)))))))))))))))))))))))))),false)]
def mgZ:List SE:=[(.conv .i64 (.wd (.ldr (.lvar 0) (.lit .i64 4)) 8)),(.conv .i64 (.wd (.ldr (.lvar 0) (.lit .i64 12)) 8)),(.wd (.ldr (.lvar 0) (.lit .i64 20)) 8),(.conv .i64 (.wd (.ldr (.lvar 0) (.lit .i64 28)) 8)),(.wd (.ldr (.lvar 0) (.lit .i64 36)) 8),(.conv .i64 (.wd (.ldr (.lvar 0) (.lit .i64 44)) 8)),(.wd (.ldr (.lvar 0) (.lit .i64 52)) 8),(.conv .i64 (.wd (.ldr (.lvar 0) (.lit .i64 60)) 8)),(.wd (.ldr (.lvar 0) (.lit .i64 68)) 8),(.conv .i64 (.wd (.ldr (.lvar 0) (.lit .i64 76)) 8)),(.wd (.ldr (.lvar 0) (.lit .i64 84)) 8),(.conv .i64 (.wd (.ldr (.lvar 0) (.lit .i64 92)) 8)),(.conv .i64 (.wd (.ldr (.lvar 0) (.lit .i64 100)) 8)),mgV52,mgV53,mgV54,mgV55,mgV57,zd7,zdx,za2,za0,q9j,mgV56,(.cmp .eql (.lit .i64 1) (.lit .i64 1))]
theorem zda:qly mgP mgT=some mgZ:=by kernel_rfl
section
variable {zs vs:List Int} (hz:dec (zs.getD 0 0)=qf6 vs) (hv:WOK vs)
include hz hv
theorem gp_s:(SE.lvar 0).lst (mgE zs)=qf6 vs:=by rw [←hz];simp only [SE.lst,SE.val];rfl
theorem q4h:(qf6 vs).length≤100000∧116≤(qf6 vs).length:=by
 have h1:=q40 vs
 have h2:=q82 vs
 have h3:=zgu vs
 have h4:=qq8 vs
 have h5:=q0k vs
 have h6:=qre vs
 have h7:=qr8 vs
 have h8:=qs7 vs
 have:=hv.l13;have:=hv.l14;have:=hv.l15;have:=hv.l16;have:=hv.l23
 omega
theorem yby {k:Nat} (hk:k≤1000000):(SE.ldr (.lvar 0) (.lit .i64 (k:Int))).lst (mgE zs)=(qf6 vs).drop k:=by
 rw [q96 hk,gp_s hz hv]
theorem q1b {k:Nat} (hk:k≤108):((SE.cmp .lss (.len (.ldr (.lvar 0) (.lit .i64 (k:Int)))) (.lit .i64 8)).val (mgE zs) !=0)=false:=by
 obtain ⟨h1,h2⟩:=q4h hz hv
 apply ybr<;>rw [yby hz hv (by omega),List.length_drop]<;>omega
theorem q7p:(SE.ldr (.lvar 0) (.lit .i64 116)).lst (mgE zs)=wb0 vs:=by
 have h:=yby hz hv (k:=116) (by omega)
 exact h.trans rfl
theorem zu1:(SE.conv .i64 (.wd (.ldr (.lvar 0) (.lit .i64 108)) 8)).val (mgE zs)=((wl vs 13).length:Int):=by
 have h:(SE.ldr (.lvar 0) (.lit .i64 108)).lst (mgE zs)=be8 ((wl vs 13).length:Int)++wb0 vs:=(yby hz hv (k:=108) (by omega)).trans rfl
 rw [qv_,h]
 exact znl (by have:=hv.l13;omega) _
theorem qyc:mgV0.lst (mgE zs)=List.replicate (wl vs 13).length [0,0,0,0,0,0,0,0,0,0,0,0,0,0,0,0,0,0,0,0]:=(zcx (zu1 hz hv)).trans rfl
theorem qg4:Hol (mgE zs) qjd:=qhh (x:=mgV0) (n:=1000) (by omega) (by rw [qyc hz hv,List.length_replicate];have:=hv.l13;omega)
theorem qie:(dec (zs.getD 0 0)).length≤100000:=by rw [hz];exact (q4h hz hv).1
theorem zw3:(mgV11.val (mgE zs) !=0)=false:=by
 have g:=z37 (qie hz hv) (qg4 hz hv)
 cases hb:(mgV11.val (mgE zs) !=0) with
 |false=>rfl
 |true=>
  rcases g.d.1 hb with q |q
  ·exact absurd zqp q
  ·rw [q7p hz hv,qyc hz hv,List.length_replicate,q82] at q;omega
theorem gp_3:mgV3.lst (mgE zs)=wb3 vs:=by
 have g:=(z37 (qie hz hv) (qg4 hz hv)).g (zw3 hz hv)
 have h:mgV3.lst (mgE zs)=_:=g.1
 rw [h,q7p hz hv,qyc hz hv,List.length_replicate]
 exact qjv gbfs (wl vs 13) (wb3 vs)
theorem gp_52:mgV52.lst (mgE zs)=wl vs 13:=by
 have g:=z37 (qie hz hv) (qg4 hz hv)
 refine qj6 (t:=wb3 vs) z_b hv.n13 (g.l.trans (by rw [qyc hz hv,List.length_replicate])) fun j hj=> ?_
 have:=(g.g (zw3 hz hv)).2 j (by rw [qyc hz hv,List.length_replicate];exact hj)
 rw [q7p hz hv,qyc hz hv] at this
 refine this.trans ?_
 rw [List.getD_eq_getElem?_getD,List.getElem?_replicate,if_pos hj];rfl
theorem ztf:mgV12.val (mgE zs)=((wl vs 14).length:Int):=by
 have h:mgV12.val (mgE zs)=_:=qv_
 rw [h,gp_3 hz hv];exact znl (by have:=hv.l14;omega) _
theorem zrj:mgV13.lst (mgE zs)=z33 vs:=(q96 (x:=mgV3) (k:=8) (by omega)).trans (by rw [gp_3 hz hv];rfl)
theorem qp2:mgV20.lst (mgE zs)=List.replicate (wl vs 14).length [0,0,0,0,0,0]:=(zcx (ztf hz hv)).trans rfl
theorem qkm:Hol (mgE zs) qqg:=qhh (x:=mgV20) (n:=1000) (by omega) (by rw [qp2 hz hv,List.length_replicate];have:=hv.l14;omega)
theorem z2_:(mgV28.val (mgE zs) !=0)=false:=by
 have g:=z4c (qie hz hv) (qg4 hz hv) (qkm hz hv)
 cases hb:(mgV28.val (mgE zs) !=0) with
 |false=>rfl
 |true=>
  rcases g.d.1 hb with q |q
  ·have:=zw3 hz hv;exact absurd (by simpa using this) q
  ·rw [zrj hz hv,qp2 hz hv,List.length_replicate,qq8] at q;omega
theorem zkk:mgV23.lst (mgE zs)=zq7 vs:=by
 have g:=(z4c (qie hz hv) (qg4 hz hv) (qkm hz hv)).g (z2_ hz hv)
 have h:mgV23.lst (mgE zs)=_:=g.1
 rw [h,zrj hz hv,qp2 hz hv,List.length_replicate]
 exact qjv gtfs (wl vs 14) (zq7 vs)
theorem gp_53:mgV53.lst (mgE zs)=wl vs 14:=by
 have g:=z4c (qie hz hv) (qg4 hz hv) (qkm hz hv)
 refine qj6 (t:=zq7 vs) z_t hv.n14 (g.l.trans (by rw [qp2 hz hv,List.length_replicate])) fun j hj=> ?_
 have:=(g.g (z2_ hz hv)).2 j (by rw [qp2 hz hv,List.length_replicate];exact hj)
 rw [zrj hz hv,qp2 hz hv] at this
 refine this.trans ?_
 rw [List.getD_eq_getElem?_getD,List.getElem?_replicate,if_pos hj];rfl
theorem zti:mgV29.val (mgE zs)=((wl vs 15).length:Int):=by
 have h:mgV29.val (mgE zs)=_:=qv_
 rw [h,zkk hz hv];exact znl (by have:=hv.l15;omega) _
theorem z0c:mgV30.lst (mgE zs)=z36 vs:=(q96 (x:=mgV23) (k:=8) (by omega)).trans (by rw [zkk hz hv];rfl)
theorem qp0:mgV34.lst (mgE zs)=List.replicate (wl vs 15).length [0,0,0,0,0,0,0,0,0,0]:=(zcx (zti hz hv)).trans rfl
theorem qnp:Hol (mgE zs) zhe:=qhh (x:=mgV34) (n:=1000) (by omega) (by rw [qp0 hz hv,List.length_replicate];have:=hv.l15;omega)
theorem gp_r:((SE.app 20103 4 none qts).val (mgE zs) !=0)=false:=by
 have g:=z97 (qie hz hv) (qg4 hz hv) (qkm hz hv) (qnp hz hv)
 cases hb:((SE.app 20103 4 none qts).val (mgE zs) !=0) with
 |false=>rfl
 |true=>
  rcases g.d.1 hb with q |q
  ·have:=z2_ hz hv;exact absurd (by simpa using this) q
  ·rw [z0c hz hv,qp0 hz hv,List.length_replicate,qre] at q;omega
theorem zt5:mgV37.lst (mgE zs)=zps vs:=by
 have g:=(z97 (qie hz hv) (qg4 hz hv) (qkm hz hv) (qnp hz hv)).g (gp_r hz hv)
 have h:mgV37.lst (mgE zs)=_:=g.1
 rw [h,z0c hz hv,qp0 hz hv,List.length_replicate]
 exact qjv grfs (wl vs 15) (zps vs)
theorem gp_54:mgV54.lst (mgE zs)=wl vs 15:=by
 have g:=z97 (qie hz hv) (qg4 hz hv) (qkm hz hv) (qnp hz hv)
 refine qj6 (t:=zps vs) z_r hv.n15 (g.l.trans (by rw [qp0 hz hv,List.length_replicate])) fun j hj=> ?_
 have:=(g.g (gp_r hz hv)).2 j (by rw [qp0 hz hv,List.length_replicate];exact hj)
 rw [z0c hz hv,qp0 hz hv] at this
 refine this.trans ?_
 rw [List.getD_eq_getElem?_getD,List.getElem?_replicate,if_pos hj];rfl
theorem zgl:mgV5.lst (mgE zs)=List.replicate (wl vs 16).length [0]:=by
 have h0:(mgV0.lst (mgE zs)).length=(wl vs 16).length:=by rw [qyc hz hv,List.length_replicate,hv.l16]
 have h:mgV1.val (mgE zs)=((wl vs 16).length:Int):=by
  show (SE.len mgV0).val (mgE zs)=_
  rw [qgn,h0,qcz (by have:=hv.l16;have:=hv.l13;unfold maxLen;omega)]
 exact (zcx h).trans rfl
theorem zj3:(mgV47.val (mgE zs) !=0)=false:=by
 have g:=zdz (c:= .app 20103 4 none qts) (qg4 hz hv) (qvl (qie hz hv) (qg4 hz hv) (qkm hz hv) (qnp hz hv))
 cases hb:(mgV47.val (mgE zs) !=0) with
 |false=>rfl
 |true=>
  rcases g.d.1 hb with q |q
  ·have:=gp_r hz hv;exact absurd (by simpa using this) q
  ·rw [zt5 hz hv,zgl hz hv,List.length_replicate,qr8] at q;omega
theorem q60:mgV39.lst (mgE zs)=qwi vs:=by
 have g:=(zdz (c:= .app 20103 4 none qts) (qg4 hz hv) (qvl (qie hz hv) (qg4 hz hv) (qkm hz hv) (qnp hz hv))).g (zj3 hz hv)
 have h:mgV39.lst (mgE zs)=_:=g.1
 rw [h,zt5 hz hv,zgl hz hv,List.length_replicate]
 exact qjv gafs (wl vs 16) (qwi vs)
theorem gp_55:mgV55.lst (mgE zs)=wl vs 16:=by
 have g:=zdz (c:= .app 20103 4 none qts) (qg4 hz hv) (qvl (qie hz hv) (qg4 hz hv) (qkm hz hv) (qnp hz hv))
 refine qj6 (t:=qwi vs) z_a hv.n16 (g.l.trans (by rw [zgl hz hv,List.length_replicate])) fun j hj=> ?_
 have:=(g.g (zj3 hz hv)).2 j (by rw [zgl hz hv,List.length_replicate];exact hj)
 rw [zt5 hz hv,zgl hz hv] at this
 refine this.trans ?_
 rw [List.getD_eq_getElem?_getD,List.getElem?_replicate,if_pos hj];rfl
theorem z3_ {k:Nat} (hk:k≤48):((SE.cmp .lss (.len (.ldr mgV39 (.lit .i64 (k:Int)))) (.lit .i64 8)).val (mgE zs) !=0)=false:=by
 have h1:=qs7 vs
 have:=hv.l23
 apply ybr<;>rw [q96 (by omega),q60 hz hv,List.length_drop]<;>omega
theorem zh2 {k:Nat} (hk:k≤1000000):(SE.ldr mgV39 (.lit .i64 (k:Int))).lst (mgE zs)=(qwi vs).drop k:=by
 rw [q96 hk,q60 hz hv]
theorem zzn:mgV48.val (mgE zs)=((wl vs 23).length:Int):=by
 have h:mgV48.val (mgE zs)=_:=qv_
 have h2:mgV46.lst (mgE zs)=be8 ((wl vs 23).length:Int)++qd1 gefs (wl vs 23):=(zh2 hz hv (k:=48) (by omega)).trans rfl
 rw [h,h2];exact znl (by have:=hv.l23;omega) _
theorem qp5:mgV49.lst (mgE zs)=List.replicate (wl vs 23).length [0,0,0,0]:=(zcx (zzn hz hv)).trans rfl
theorem znm:Hol (mgE zs) mgK5:=qhh (x:=mgV49) (n:=1000) (by omega) (by rw [qp5 hz hv,List.length_replicate];have:=hv.l23;omega)
theorem zbx:(SE.ldr mgV39 (.lit .i64 56)).lst (mgE zs)=qd1 gefs (wl vs 23)++[]:=(zh2 hz hv (k:=56) (by omega)).trans (by rw [List.append_nil];rfl)
theorem gp_e:((SE.app 20105 4 none qk3).val (mgE zs) !=0)=false:=by
 have g:=zk3 (qie hz hv) (qg4 hz hv) (qkm hz hv) (qnp hz hv) (znm hz hv)
 cases hb:((SE.app 20105 4 none qk3).val (mgE zs) !=0) with
 |false=>rfl
 |true=>
  rcases g.d.1 hb with q |q
  ·have:=zj3 hz hv;exact absurd (by simpa using this) q
  ·rw [zbx hz hv,qp5 hz hv,List.length_replicate,List.append_nil,qdl] at q
   have:gefs.length=4:=rfl
   rw [this] at q;omega
theorem gp_er:(SE.lap 20105 3 qk3).lst (mgE zs)=[]:=by
 have g:=(zk3 (qie hz hv) (qg4 hz hv) (qkm hz hv) (qnp hz hv) (znm hz hv)).g (gp_e hz hv)
 have h:(SE.lap 20105 3 qk3).lst (mgE zs)=_:=g.1
 rw [h,zbx hz hv,qp5 hz hv,List.length_replicate]
 exact qjv gefs (wl vs 23) []
theorem gp_56:mgV56.lst (mgE zs)=wl vs 23:=by
 have g:=zk3 (qie hz hv) (qg4 hz hv) (qkm hz hv) (qnp hz hv) (znm hz hv)
 refine qj6 (t:=[]) z_e hv.n23 (g.l.trans (by rw [qp5 hz hv,List.length_replicate])) fun j hj=> ?_
 have:=(g.g (gp_e hz hv)).2 j (by rw [qp5 hz hv,List.length_replicate];exact hj)
 rw [zbx hz hv,qp5 hz hv] at this
 refine this.trans ?_
 rw [List.getD_eq_getElem?_getD,List.getElem?_replicate,if_pos hj];rfl
end
theorem qlk {E:Env} {n z:SE}:Cod ((SE.lrep n z).val E):=⟨List.replicate (n.val E).toNat (z.vals E),by simp only [SE.val]⟩
theorem qlg {Tb:List Ent} {xs:List Int} {f m:Nat} {fs:List (Bool×Nat)} {F:Nat→List Int→List Int} (hf:FT Tb f=gpG fs F) (hm:fs.length=m) (hm2:m≤100) {a b c:SE} (hN:(a.lst (qaa (FT Tb) xs)).length≤1000) (hS:(b.lst (qaa (FT Tb) xs)).length≤1000000) (hc:Cod (a.val (qaa (FT Tb) xs))):Cod ((SE.lap f 2 (.cons a (.cons b (.cons c .nil)))).val (qaa (FT Tb) xs)):=by
 subst hm
 have:=z9j (fs:=fs) (F:=F) (xs:=[a.val (qaa (FT Tb) xs),b.val (qaa (FT Tb) xs),c.val (qaa (FT Tb) xs)]) hN hS hm2 hc
 rw [qcp,hf,qab,qab,qab,qad];exact this
section
variable {zs vs:List Int} (hz:dec (zs.getD 0 0)=qf6 vs) (hv:WOK vs)
include hz hv
theorem qkk {k:Nat} {p:Bool×Nat} (hk:k≤1000000) (hp:p.1=false) (h:(qf6 vs).drop k=be8 (fld p vs)++(qf6 vs).drop (k+8)):(SE.conv .i64 (.wd (.ldr (.lvar 0) (.lit .i64 (k:Int))) 8)).val (mgE zs)=IntKind.i64.wrap (vs.getD p.2 0):=by
 obtain ⟨b,j⟩:=p
 cases hp
 rw [qv_,yby hz hv hk,h]
 exact qkc (false,j) vs _
theorem qpw {k:Nat} {p:Bool×Nat} (hk:k≤1000000) (hp:p.1=true) (h:(qf6 vs).drop k=be8 (fld p vs)++(qf6 vs).drop (k+8)):(SE.wd (.ldr (.lvar 0) (.lit .i64 (k:Int))) 8).val (mgE zs)=IntKind.u64.wrap (vs.getD p.2 0):=by
 obtain ⟨b,j⟩:=p
 cases hp
 rw [wd_v,yby hz hv hk,h]
 exact qkc (true,j) vs _
theorem zi7 {k:Nat} {p:Bool×Nat} (hk:k≤1000000) (hp:p.1=false) (h:(qwi vs).drop k=be8 (fld p vs)++(qwi vs).drop (k+8)):(SE.conv .i64 (.wd (.ldr mgV39 (.lit .i64 (k:Int))) 8)).val (mgE zs)=IntKind.i64.wrap (vs.getD p.2 0):=by
 obtain ⟨b,j⟩:=p
 cases hp
 rw [qv_,zh2 hz hv hk,h]
 exact qkc (false,j) vs _
theorem q4x {k:Nat} {p:Bool×Nat} (hk:k≤1000000) (hp:p.1=true) (h:(qwi vs).drop k=be8 (fld p vs)++(qwi vs).drop (k+8)):(SE.wd (.ldr mgV39 (.lit .i64 (k:Int))) 8).val (mgE zs)=IntKind.u64.wrap (vs.getD p.2 0):=by
 obtain ⟨b,j⟩:=p
 cases hp
 rw [wd_v,zh2 hz hv hk,h]
 exact qkc (true,j) vs _
theorem yfx:mgV57.val (mgE zs)=IntKind.i64.wrap (vs.getD 17 0):=by
 have h:mgV57.val (mgE zs)=_:=qv_
 have h2:qwi vs=be8 (fld (false,17) vs)++(qwi vs).drop 8:=rfl
 rw [h,q60 hz hv,h2]
 exact qkc (false,17) vs _
theorem zqb:mgV52.val (mgE zs)=vs.getD 13 0:=qpk (qlg (m:=20) fg01 rfl (by omega) (ql9 (by omega) (qg4 hz hv)) (Nat.le_trans (mg_s (qie hz hv)) (by omega)) qlk) hv.c13 (gp_52 hz hv)
theorem zq2:mgV53.val (mgE zs)=vs.getD 14 0:=qpk (qlg (m:=6) fg02 rfl (by omega) (ql9 (by omega) (qkm hz hv)) (Nat.le_trans (qsp (qie hz hv) (qg4 hz hv)) (by omega)) qlk) hv.c14 (gp_53 hz hv)
theorem zqu:mgV54.val (mgE zs)=vs.getD 15 0:=qpk (qlg (m:=10) fg03 rfl (by omega) (ql9 (by omega) (qnp hz hv)) (Nat.le_trans (q5k (qie hz hv) (qg4 hz hv) (qkm hz hv)) (by omega)) qlk) hv.c15 (gp_54 hz hv)
theorem zq6:mgV55.val (mgE zs)=vs.getD 16 0:=qpk (qlg (m:=1) fg04 rfl (by omega) (mg_5 (qg4 hz hv)) (Nat.le_trans (qvl (qie hz hv) (qg4 hz hv) (qkm hz hv) (qnp hz hv)) (by omega)) qlk) hv.c16 (gp_55 hz hv)
theorem zp4:mgV56.val (mgE zs)=vs.getD 23 0:=qpk (qlg (m:=4) fg05 rfl (by omega) (ql9 (by omega) (znm hz hv)) (Nat.le_trans (Nat.le_trans qus (zx2 (qie hz hv) (qg4 hz hv) (qkm hz hv) (qnp hz hv))) (by omega)) qlk) hv.c23 (gp_56 hz hv)
omit hz hv in
theorem qbe {α:Type} {a b:α} {l m:List α} (h:a=b) (t:l=m):a::l=b::m:=by rw [h,t]
theorem z1o {F:Nat→List Int→List Int}:mgA.vals (mgE zs)=muA.vals (qaa F vs):=by
 unfold mgA muA
 simp only [qab,qad]
 exact qbe ((qkk hz hv (k:=4) (p:=(false,0)) (by omega) rfl rfl)) (qbe ((qkk hz hv (k:=12) (p:=(false,1)) (by omega) rfl rfl)) (qbe ((qpw hz hv (k:=20) (p:=(true,2)) (by omega) rfl rfl)) (qbe ((qkk hz hv (k:=28) (p:=(false,3)) (by omega) rfl rfl)) (qbe ((qpw hz hv (k:=36) (p:=(true,4)) (by omega) rfl rfl)) (qbe ((qkk hz hv (k:=44) (p:=(false,5)) (by omega) rfl rfl)) (qbe ((qpw hz hv (k:=52) (p:=(true,6)) (by omega) rfl rfl)) (qbe ((qkk hz hv (k:=60) (p:=(false,7)) (by omega) rfl rfl)) (qbe ((qpw hz hv (k:=68) (p:=(true,8)) (by omega) rfl rfl)) (qbe ((qkk hz hv (k:=76) (p:=(false,9)) (by omega) rfl rfl)) (qbe ((qpw hz hv (k:=84) (p:=(true,10)) (by omega) rfl rfl)) (qbe ((qkk hz hv (k:=92) (p:=(false,11)) (by omega) rfl rfl)) (qbe ((qkk hz hv (k:=100) (p:=(false,12)) (by omega) rfl rfl)) (qbe (zqb hz hv) (qbe (zq2 hz hv) (qbe (zqu hz hv) (qbe (zq6 hz hv) (qbe (yfx hz hv) (qbe (q4x hz hv (k:=8) (p:=(true,18)) (by omega) rfl rfl) (qbe (zi7 hz hv (k:=16) (p:=(false,19)) (by omega) rfl rfl) (qbe (q4x hz hv (k:=24) (p:=(true,20)) (by omega) rfl rfl) (qbe (zi7 hz hv (k:=32) (p:=(false,21)) (by omega) rfl rfl) (qbe (q4x hz hv (k:=40) (p:=(true,22)) (by omega) rfl rfl) (qbe (zp4 hz hv) (rfl))))))))))))))))))))))))
theorem zxx (hm:(FT qdw 30001 (muA.vals (qaa (FT qdw) vs))).getD 1 0≠0):AllH (mgE zs) mgP:=by
 obtain ⟨hl1,hl2⟩:=q4h hz hv
 have b3:=zgu vs
 have b13:=qq8 vs
 have b23:=q0k vs
 have b30:=qre vs
 have b37:=qr8 vs
 have b39:=qs7 vs
 have:=hv.l13;have:=hv.l14;have:=hv.l15;have:=hv.l16;have:=hv.l23
 refine ⟨?_,?_,q1b hz hv (k:=4) (by omega),q1b hz hv (k:=12) (by omega),q1b hz hv (k:=20) (by omega),q1b hz hv (k:=28) (by omega),q1b hz hv (k:=36) (by omega),q1b hz hv (k:=44) (by omega),q1b hz hv (k:=52) (by omega),q1b hz hv (k:=60) (by omega),q1b hz hv (k:=68) (by omega),q1b hz hv (k:=76) (by omega),q1b hz hv (k:=84) (by omega),q1b hz hv (k:=92) (by omega),q1b hz hv (k:=100) (by omega),q1b hz hv (k:=108) (by omega),lt0 (zu1 hz hv),gtm (m:=32) (zu1 hz hv) (by omega) hv.l13,ybr (x:=mgV3) (by rw [gp_3 hz hv];omega) (by rw [gp_3 hz hv];omega),lt0 (ztf hz hv),gtm (m:=32) (ztf hz hv) (by omega) hv.l14,ybr (x:=mgV23) (by rw [zkk hz hv];omega) (by rw [zkk hz hv];omega),lt0 (zti hz hv),gtm (m:=16) (zti hz hv) (by omega) hv.l15,ybr (x:=mgV39) (by rw [q60 hz hv];omega) (by rw [q60 hz hv];omega),z3_ hz hv (k:=8) (by omega),z3_ hz hv (k:=16) (by omega),z3_ hz hv (k:=24) (by omega),z3_ hz hv (k:=32) (by omega),z3_ hz hv (k:=40) (by omega),z3_ hz hv (k:=48) (by omega),zj3 hz hv,lt0 (zzn hz hv),gtm (m:=400) (zzn hz hv) (by omega) hv.l23,gp_e hz hv,?_,?_,trivial⟩
 ·show ((SE.cmp .geq (.len (.lvar 0)) (.lit .i64 4)).val (mgE zs) !=0)=true
  rw [qce,qai,qmb (n:=(qf6 vs).length) (by rw [show dec ((SE.lvar 0).val (mgE zs))=(SE.lvar 0).lst (mgE zs) from rfl,gp_s hz hv]) (by omega)]
  exact decide_eq_true (p:=((qf6 vs).length:Int)≥IntKind.i64.wrap 4) (by rw [show IntKind.i64.wrap 4=4 from rfl];omega)
 ·have t:(SE.ltk (.lvar 0) (.lit .i64 4)).lst (mgE zs)=prgL:=by
   have q:(SE.ltk (.lvar 0) (.lit .i64 4)).lst (mgE zs)=((SE.lvar 0).lst (mgE zs)).take 4:=by simp only [SE.lst,SE.val,qan];rfl
   rw [q,gp_s hz hv];rfl
  show ((SE.not (.seq (.ltk (.lvar 0) (.lit .i64 4)) (.lbs [80,82,71,49]))).val (mgE zs) !=0)=false
  rw [qec]
  have e:((SE.seq (.ltk (.lvar 0) (.lit .i64 4)) (.lbs [80,82,71,49])).val (mgE zs) !=0)=true:=by
   have e0:((SE.seq (.ltk (.lvar 0) (.lit .i64 4)) (.lbs [80,82,71,49])).val (mgE zs) !=0)=decide (qa_ ((SE.ltk (.lvar 0) (.lit .i64 4)).lst (mgE zs))=qa_ ((SE.lbs [80,82,71,49]).lst (mgE zs))):=by
    simp only [SE.val,qas];rfl
   rw [e0,t]
   refine decide_eq_true ?_
   have:(SE.lbs [80,82,71,49]).lst (mgE zs)=prgL:=by simp only [SE.lst,SE.val,qan];rfl
   rw [this]
  rw [e];rfl
 ·show ((SE.not (.seq (.lap 20105 3 qk3) (.lbs []))).val (mgE zs) !=0)=false
  rw [qec]
  have e:((SE.seq (.lap 20105 3 qk3) (.lbs [])).val (mgE zs) !=0)=true:=by
   have e0:((SE.seq (.lap 20105 3 qk3) (.lbs [])).val (mgE zs) !=0)=decide (qa_ ((SE.lap 20105 3 qk3).lst (mgE zs))=qa_ ((SE.lbs []).lst (mgE zs))):=by
    simp only [SE.val,qas];rfl
   rw [e0,gp_er hz hv]
   refine decide_eq_true ?_
   have:(SE.lbs []).lst (mgE zs)=[]:=by simp only [SE.lst,SE.val,qan];rfl
   rw [this]
  rw [e];rfl
 ·show ((SE.not (.app 30001 1 none mgA)).val (mgE zs) !=0)=false
  rw [qec]
  have e:((SE.app 30001 1 none mgA).val (mgE zs) !=0)=true:=by
   unfold mgE
   rw [qgk]
   have:=z1o (F:=FT qdw) hz hv
   unfold mgE at this
   rw [this]
   have h2:((FT qdw 30001 (muA.vals (qaa (FT qdw) vs))).getD 1 0 !=0)=true:=by simpa using hm
   show (b2i ((FT qdw 30001 (muA.vals (qaa (FT qdw) vs))).getD 1 0 !=0) !=0)=true
   rw [h2];rfl
  rw [e];rfl
theorem yeh (hm:(FT qdw 30001 (muA.vals (qaa (FT qdw) vs))).getD 1 0≠0):(mgT.get (mgE zs)).2=muA.vals (qaa (FT qdw) vs)++[1]:=by
 rw [qh0 (zxx hz hv hm).mem zda]
 unfold mgZ muA
 simp only [qab,qad,List.map,List.cons_append,List.nil_append]
 exact qbe ((qkk hz hv (k:=4) (p:=(false,0)) (by omega) rfl rfl)) (qbe ((qkk hz hv (k:=12) (p:=(false,1)) (by omega) rfl rfl)) (qbe ((qpw hz hv (k:=20) (p:=(true,2)) (by omega) rfl rfl)) (qbe ((qkk hz hv (k:=28) (p:=(false,3)) (by omega) rfl rfl)) (qbe ((qpw hz hv (k:=36) (p:=(true,4)) (by omega) rfl rfl)) (qbe ((qkk hz hv (k:=44) (p:=(false,5)) (by omega) rfl rfl)) (qbe ((qpw hz hv (k:=52) (p:=(true,6)) (by omega) rfl rfl)) (qbe ((qkk hz hv (k:=60) (p:=(false,7)) (by omega) rfl rfl)) (qbe ((qpw hz hv (k:=68) (p:=(true,8)) (by omega) rfl rfl)) (qbe ((qkk hz hv (k:=76) (p:=(false,9)) (by omega) rfl rfl)) (qbe ((qpw hz hv (k:=84) (p:=(true,10)) (by omega) rfl rfl)) (qbe ((qkk hz hv (k:=92) (p:=(false,11)) (by omega) rfl rfl)) (qbe ((qkk hz hv (k:=100) (p:=(false,12)) (by omega) rfl rfl)) (qbe (zqb hz hv) (qbe (zq2 hz hv) (qbe (zqu hz hv) (qbe (zq6 hz hv) (qbe (yfx hz hv) (qbe (q4x hz hv (k:=8) (p:=(true,18)) (by omega) rfl rfl) (qbe (zi7 hz hv (k:=16) (p:=(false,19)) (by omega) rfl rfl) (qbe (q4x hz hv (k:=24) (p:=(true,20)) (by omega) rfl rfl) (qbe (zi7 hz hv (k:=32) (p:=(false,21)) (by omega) rfl rfl) (qbe (q4x hz hv (k:=40) (p:=(true,22)) (by omega) rfl rfl) (qbe (zp4 hz hv) (qbe zib rfl))))))))))))))))))))))))
end
theorem zzf (e:Env):(SE.lbs [80,82,71,49]).lst e=prgL:=by simp only [SE.lst,SE.val,qan];rfl
section
variable {F:Nat→List Int→List Int} {vs:List Int}
theorem pu_i {j:Nat}:(SE.conv .u64 (.ivar .i64 j)).val (qaa F vs)=IntKind.u64.wrap (IntKind.i64.wrap (vs.getD j 0)):=by simp only [SE.val];rfl
theorem pu_u {j:Nat}:(SE.ivar .u64 j).val (qaa F vs)=IntKind.u64.wrap (vs.getD j 0):=by simp only [SE.val];rfl
theorem pu_n {j:Nat} (h:(dec (vs.getD j 0)).length≤400):(SE.conv .u64 (.len (.lvar j))).val (qaa F vs)=((wl vs j).length:Int):=by
 have e:(SE.conv .u64 (.len (.lvar j))).val (qaa F vs)=IntKind.u64.wrap ((SE.len (.lvar j)).val (qaa F vs)):=by simp only [SE.val]
 rw [e,qby (n:=(wl vs j).length) rfl (by unfold maxLen wl;omega)]
 exact qp7 (by unfold wl;omega)
end
noncomputable def q5z (vs:List Int):Int:=(mpT.get (qaa (FT qd_) (muA.vals (qaa (FT qdp) vs)))).2.getD 0 0
theorem zl_ {vs:List Int} (h:q5z vs≠0):muV9.lst (qaa (FT qdp) vs)=qf6 vs:=by
 obtain ⟨a13,a14,a15,a16,a23,b1,b3,b5,b6,b9,_⟩:=zpg vs h _ rfl
 rw [b9]
 unfold muV8
 simp only [qc3,qnh]
 rw [b6,b5]
 unfold muV4
 simp only [qc3,qnh]
 rw [b3]
 unfold muV2
 simp only [qc3,qnh]
 rw [b1]
 unfold muV0
 simp only [qc3,qnh,zzf,pu_i,pu_u]
 rw [pu_n (by omega),pu_n (by omega),pu_n (by omega),pu_n (by omega)]
 unfold qf6 wb0 wb3 z33 zq7 z36 zps qwi
 simp only [qvz,hwfs,mwfs,List.flatMap_cons,List.flatMap_nil,List.append_assoc,List.append_nil,fld]
 rfl
theorem z7w:FT qdw 30004=qv0 muT (FT qdp):=by kernel_rfl
theorem ft_mp:FT qdw 30001=qv0 mpT (FT qd_):=by kernel_rfl
theorem z1e {f:Nat} {Tb:List Ent} {vs:List Int} {z:SE} {t:RT} {F:Nat→List Int→List Int} (h:FT Tb f=qv0 t F):((SE.app f 1 none z).val (qaa (FT Tb) vs) !=0)=((t.get (qaa F (z.vals (qaa (FT Tb) vs)))).2.getD 0 0 !=0):=by
 rw [qgk,h]
 have:(qv0 t F (z.vals (qaa (FT Tb) vs))).getD 1 0=(t.get (qaa F (z.vals (qaa (FT Tb) vs)))).2.getD 0 0:=rfl
 rw [this]
 show (b2i _ !=0)=_
 rw [qas]
theorem ybu {vs:List Int} (h:q5z vs≠0):dec ((FT qdw 30004 vs).getD 1 0)=qf6 vs:=by
 have e:((SE.app 30001 1 none muA).val (qaa (FT qdp) vs) !=0)=true:=by
  rw [z1e fb01];have:=h;unfold q5z at this;simpa using this
 have e2:((SE.not (.app 30001 1 none muA)).val (qaa (FT qdp) vs) !=0)=false:=by rw [qec,e];rfl
 have g:(FT qdw 30004 vs).getD 1 0=(muT.get (qaa (FT qdp) vs)).2.getD 0 0:=by rw [z7w];rfl
 have g2:(muT.get (qaa (FT qdp) vs))=muT15.get (qaa (FT qdp) vs):=by
  show (bif (SE.not (.app 30001 1 none muA)).val (qaa (FT qdp) vs) !=0 then _ else _)=_
  rw [e2,cond_false]
 rw [g,g2]
 have g3:(muT15.get (qaa (FT qdp) vs)).2.getD 0 0=(SE.lap 30000 1 (.cons muV9 .nil)).val (qaa (FT qdp) vs):=rfl
 rw [g3,qcp,fb00,qab,qad]
 exact zl_ h
theorem pu_no {vs:List Int} (h:q5z vs=0):dec ((FT qdw 30004 vs).getD 1 0)=[]:=by
 have e:((SE.app 30001 1 none muA).val (qaa (FT qdp) vs) !=0)=false:=by
  rw [z1e fb01];have:=h;unfold q5z at this;simpa using this
 have e2:((SE.not (.app 30001 1 none muA)).val (qaa (FT qdp) vs) !=0)=true:=by rw [qec,e];rfl
 have g:(FT qdw 30004 vs).getD 1 0=(muT.get (qaa (FT qdp) vs)).2.getD 0 0:=by rw [z7w];rfl
 have g2:(muT.get (qaa (FT qdp) vs))=(RT.out 0 [.lbs []]).get (qaa (FT qdp) vs):=by
  show (bif (SE.not (.app 30001 1 none muA)).val (qaa (FT qdp) vs) !=0 then _ else _)=_
  rw [e2,cond_true]
 rw [g,g2]
 show dec ((SE.lbs []).val (qaa (FT qdp) vs))=[]
 simp only [SE.val,qan,List.map_nil]
def ql2:SE→SE
 | .ivar k i=> .ivar k (bif Nat.ble 24 i&&Nat.blt i 48 then i - 24 else i)
 | .lvar i=> .lvar (bif Nat.ble 24 i&&Nat.blt i 48 then i - 24 else i)
 | .len x=> .len (ql2 x)
 | .cmp o a b=> .cmp o (ql2 a) (ql2 b)
 | .and a b=> .and (ql2 a) (ql2 b)
 | .not a=> .not (ql2 a)
 |x=>x
theorem q2z {E:Env} (h:∀j,j<24→E.iv (j+24)=E.iv j) (i:Nat):E.iv (bif Nat.ble 24 i&&Nat.blt i 48 then i - 24 else i)=E.iv i:=by
 cases hb:(Nat.ble 24 i&&Nat.blt i 48) with
 |false=>rfl
 |true=>
  rw [cond_true]
  simp only [Bool.and_eq_true,Nat.ble_eq,Nat.blt_eq] at hb
  have:=h (i - 24) (by omega)
  rw [show i - 24+24=i by omega] at this
  exact this.symm
theorem zf4 {E:Env} (h:∀j,j<24→E.iv (j+24)=E.iv j):∀x:SE,(ql2 x).val E=x.val E:=by
 intro x
 induction x with
 |ivar k i=>simp only [ql2,SE.val,q2z h]
 |lvar i=>simp only [ql2,SE.val,q2z h]
 |len x ih=>simp only [ql2,SE.val,ih]
 |cmp o a b iha ihb=>simp only [ql2,SE.val,iha,ihb]
 |and a b iha ihb=>simp only [ql2,SE.val,iha,ihb]
 |not a ih=>simp only [ql2,SE.val,ih]
 |_=>rfl
def qip (A:List (SE×Bool)):RT→Option (List SE)
 | .out _ ys=>some ys
 | .next _=>none
 | .ask x t e=>(match rfB (ql2 x) with
  |some true=>qip A t
  |some false=>qip A e
  |none=>bif qyf (x,true) A then qip A t else bif qyf (x,false) A then qip A e else none)
 | .know _ _ t=>qip A t
theorem qg5 {E:Env} (hE:∀j,j<24→E.iv (j+24)=E.iv j) {A:List (SE×Bool)} (hA:∀p∈A,Hol E p):∀{t:RT} {ys:List SE},qip A t=some ys→(t.get E).2=ys.map (SE.val E)
 | .out _ _,ys,h=>by cases h;rfl
 | .next _,ys,h=>by cases h
 | .ask x t e,ys,h=>by
  simp only [qip] at h
  have hr:=zf4 hE x
  split at h
  ·rename_i hq
   have:=q22 (E:=E) hq
   rw [hr] at this
   simp only [RT.get,this,cond_true]
   exact qg5 hE hA h
  ·rename_i hq
   have:=q22 (E:=E) hq
   rw [hr] at this
   simp only [RT.get,this,cond_false]
   exact qg5 hE hA h
  ·cases h1:qyf (x,true) A with
   |true=>
    rw [h1,cond_true] at h
    have:(x.val E !=0)=true:=hA _ (qiq h1)
    simp only [RT.get,this,cond_true]
    exact qg5 hE hA h
   |false=>
    rw [h1,cond_false] at h
    cases h2:qyf (x,false) A with
    |true=>
     rw [h2,cond_true] at h
     have:(x.val E !=0)=false:=hA _ (qiq h2)
     simp only [RT.get,this,cond_false]
     exact qg5 hE hA h
    |false=>rw [h2,cond_false] at h;cases h
 | .know _ _ t,ys,h=>by
  simp only [qip] at h
  simp only [RT.get]
  exact qg5 hE hA h
def smA:SE:= .cons (.ivar .i64 0) (.cons (.ivar .i64 1) (.cons (.ivar .u64 2) (.cons (.ivar .i64 3) (.cons (.ivar .u64 4) (.cons (.ivar .i64 5) (.cons (.ivar .u64 6) (.cons (.ivar .i64 7) (.cons (.ivar .u64 8) (.cons (.ivar .i64 9) (.cons (.ivar .u64 10) (.cons (.ivar .i64 11) (.cons (.ivar .i64 12) (.cons (.lvar 13) (.cons (.lvar 14) (.cons (.lvar 15) (.cons (.lvar 16) (.cons (.ivar .i64 17) (.cons (.ivar .u64 18) (.cons (.ivar .i64 19) (.cons (.ivar .u64 20) (.cons (.ivar .i64 21) (.cons (.ivar .u64 22) (.cons (.lvar 23) (.cons (.ivar .i64 24) (.cons (.ivar .i64 25) (.cons (.ivar .u64 26) (.cons (.ivar .i64 27) (.cons (.ivar .u64 28) (.cons (.ivar .i64 29) (.cons (.ivar .u64 30) (.cons (.ivar .i64 31) (.cons (.ivar .u64 32) (.cons (.ivar .i64 33) (.cons (.ivar .u64 34) (.cons (.ivar .i64 35) (.cons (.ivar .i64 36) (.cons (.lvar 37) (.cons (.lvar 38) (.cons (.lvar 39) (.cons (.lvar 40) (.cons (.ivar .i64 41) (.cons (.ivar .u64 42) (.cons (.ivar .i64 43) (.cons (.ivar .u64 44) (.cons (.ivar .i64 45) (.cons (.ivar .u64 46) (.cons (.lvar 47) .nil)))))))))))))))))))))))))))))))))))))))))))))))
def smQ (f:Nat):SE:= .cmp .eql (.app f 0 (some .i64) smA) (.lit .i64 0)
def smP:List (SE×Bool):=[(smQ 20111,false),(smQ 20112,false),(smQ 20113,false),(smQ 20114,false),(smQ 20115,false)]
theorem zcr:qip smP msT=some [.cmp .eql (.lit .i64 1) (.lit .i64 1)]:=by kernel_rfl
theorem ft_ms:FT qdw 30003=qv0 msT (FT qba):=by kernel_rfl
theorem qti {E:Env} {F:Nat→List Int→List Int} {x:List Int} {f:Nat} (h:(F f (smA.vals (qaa F x))).getD 0 0=1):Hol (qaa F x) (smQ f,false):=by
 show ((smQ f).val (qaa F x) !=0)=false
 unfold smQ
 rw [qce,qgk,qai,h];rfl
section
variable {x:List Int} (hx:∀j,j<24→x.getD (j+24) 0=x.getD j 0) (h13:(dec (x.getD 13 0)).length≤maxLen) (h14:(dec (x.getD 14 0)).length≤maxLen) (h15:(dec (x.getD 15 0)).length≤maxLen) (h16:(dec (x.getD 16 0)).length≤maxLen) (h23:(dec (x.getD 23 0)).length≤maxLen)
include hx h13 h14 h15 h16 h23
theorem ze4:∀c∈sbL.lv,(dec ((smA.vals (qaa (FT qba) x)).getD c.2 0)).length≤maxLen:=by
 have a13:=hx 13 (by omega);have a14:=hx 14 (by omega);have a15:=hx 15 (by omega);have a16:=hx 16 (by omega);have a23:=hx 23 (by omega)
 intro c hc
 simp only [sbL,List.mem_cons,List.not_mem_nil,or_false] at hc
 rcases hc with rfl |rfl |rfl |rfl |rfl |rfl |rfl |rfl |rfl |rfl
 ·exact h13
 ·exact h14
 ·exact h15
 ·exact h16
 ·exact h23
 ·show (dec (x.getD 37 0)).length≤maxLen;rw [a13];exact h13
 ·show (dec (x.getD 38 0)).length≤maxLen;rw [a14];exact h14
 ·show (dec (x.getD 39 0)).length≤maxLen;rw [a15];exact h15
 ·show (dec (x.getD 40 0)).length≤maxLen;rw [a16];exact h16
 ·show (dec (x.getD 47 0)).length≤maxLen;rw [a23];exact h23
theorem sm_sb:((FT qba) 20111 (smA.vals (qaa (FT qba) x))).getD 0 0=1:=by
 have e:FT qba 20111=sbG (FT qpv):=by kernel_rfl
 have q:(smA.vals (qaa (FT qba) x)).getD 13 0=(smA.vals (qaa (FT qba) x)).getD 37 0:=(hx 13 (by omega)).symm
 rw [e]
 exact qpf (T:=sbT) (C:=sbC) (outs:=sbL.outs) (la:=13) (lb:=37) (by kernel_rfl) (by kernel_rfl) (by simp [sbC]) (by simp [sbC]) (by kernel_rfl) (by kernel_rfl) (zqz _ _ ⟨ze4 hx h13 h14 h15 h16 h23,fun j hj=>(by cases hj),fun c hc=>by
  rcases List.mem_cons.1 hc with rfl |hc
  ·exact qi9 (by show (dec _).length=(dec _).length;rw [show (SE.lvar 13).val (qaa (FT qpv) (smA.vals (qaa (FT qba) x)))=_ from lvar_at,show (SE.lvar 37).val (qaa (FT qpv) (smA.vals (qaa (FT qba) x)))=_ from lvar_at,q])
  ·cases hc⟩) q
theorem sm_sq:((FT qba) 20112 (smA.vals (qaa (FT qba) x))).getD 0 0=1:=by
 have e:FT qba 20112=sqG (FT qhr):=by kernel_rfl
 have q:(smA.vals (qaa (FT qba) x)).getD 14 0=(smA.vals (qaa (FT qba) x)).getD 38 0:=(hx 14 (by omega)).symm
 rw [e]
 exact qpf (T:=sqT) (C:=sqC) (outs:=sqL.outs) (la:=14) (lb:=38) (by kernel_rfl) (by kernel_rfl) (by simp [sqC]) (by simp [sqC]) (by kernel_rfl) (by kernel_rfl) (zqn _ _ ⟨ze4 hx h13 h14 h15 h16 h23,fun j hj=>(by cases hj),fun c hc=>by
  rcases List.mem_cons.1 hc with rfl |hc
  ·exact qi9 (by show (dec _).length=(dec _).length;rw [show (SE.lvar 14).val (qaa (FT qhr) (smA.vals (qaa (FT qba) x)))=_ from lvar_at,show (SE.lvar 38).val (qaa (FT qhr) (smA.vals (qaa (FT qba) x)))=_ from lvar_at,q])
  ·cases hc⟩) q
theorem sm_sr:((FT qba) 20113 (smA.vals (qaa (FT qba) x))).getD 0 0=1:=by
 have e:FT qba 20113=srG (FT qhw):=by kernel_rfl
 have q:(smA.vals (qaa (FT qba) x)).getD 15 0=(smA.vals (qaa (FT qba) x)).getD 39 0:=(hx 15 (by omega)).symm
 rw [e]
 exact qpf (T:=srT) (C:=srC) (outs:=srL.outs) (la:=15) (lb:=39) (by kernel_rfl) (by kernel_rfl) (by simp [srC]) (by simp [srC]) (by kernel_rfl) (by kernel_rfl) (zo2 _ _ ⟨ze4 hx h13 h14 h15 h16 h23,fun j hj=>(by cases hj),fun c hc=>by
  rcases List.mem_cons.1 hc with rfl |hc
  ·exact qi9 (by show (dec _).length=(dec _).length;rw [show (SE.lvar 15).val (qaa (FT qhw) (smA.vals (qaa (FT qba) x)))=_ from lvar_at,show (SE.lvar 39).val (qaa (FT qhw) (smA.vals (qaa (FT qba) x)))=_ from lvar_at,q])
  ·cases hc⟩) q
theorem sm_sa:((FT qba) 20114 (smA.vals (qaa (FT qba) x))).getD 0 0=1:=by
 have e:FT qba 20114=saG (FT qhq):=by kernel_rfl
 have q:(smA.vals (qaa (FT qba) x)).getD 16 0=(smA.vals (qaa (FT qba) x)).getD 40 0:=(hx 16 (by omega)).symm
 rw [e]
 exact qpf (T:=saT) (C:=saC) (outs:=saL.outs) (la:=16) (lb:=40) (by kernel_rfl) (by kernel_rfl) (by simp [saC]) (by simp [saC]) (by kernel_rfl) (by kernel_rfl) (zog _ _ ⟨ze4 hx h13 h14 h15 h16 h23,fun j hj=>(by cases hj),fun c hc=>by
  rcases List.mem_cons.1 hc with rfl |hc
  ·exact qi9 (by show (dec _).length=(dec _).length;rw [show (SE.lvar 16).val (qaa (FT qhq) (smA.vals (qaa (FT qba) x)))=_ from lvar_at,show (SE.lvar 40).val (qaa (FT qhq) (smA.vals (qaa (FT qba) x)))=_ from lvar_at,q])
  ·cases hc⟩) q
theorem sm_sv:((FT qba) 20115 (smA.vals (qaa (FT qba) x))).getD 0 0=1:=by
 have e:FT qba 20115=svG (FT qhv):=by kernel_rfl
 have q:(smA.vals (qaa (FT qba) x)).getD 23 0=(smA.vals (qaa (FT qba) x)).getD 47 0:=(hx 23 (by omega)).symm
 rw [e]
 exact qpf (T:=svT) (C:=svC) (outs:=svL.outs) (la:=23) (lb:=47) (by kernel_rfl) (by kernel_rfl) (by simp [svC]) (by simp [svC]) (by kernel_rfl) (by kernel_rfl) (zq1 _ _ ⟨ze4 hx h13 h14 h15 h16 h23,fun j hj=>(by cases hj),fun c hc=>by
  rcases List.mem_cons.1 hc with rfl |hc
  ·exact qi9 (by show (dec _).length=(dec _).length;rw [show (SE.lvar 23).val (qaa (FT qhv) (smA.vals (qaa (FT qba) x)))=_ from lvar_at,show (SE.lvar 47).val (qaa (FT qhv) (smA.vals (qaa (FT qba) x)))=_ from lvar_at,q])
  ·cases hc⟩) q
theorem yf2:(FT qdw 30003 x).getD 1 0=1:=by
 have g:(FT qdw 30003 x).getD 1 0=(msT.get (qaa (FT qba) x)).2.getD 0 0:=by rw [ft_ms];rfl
 have hA:AllH (qaa (FT qba) x) smP:=⟨qti (E:=qaa (FT qba) x) (sm_sb hx h13 h14 h15 h16 h23),qti (E:=qaa (FT qba) x) (sm_sq hx h13 h14 h15 h16 h23),qti (E:=qaa (FT qba) x) (sm_sr hx h13 h14 h15 h16 h23),qti (E:=qaa (FT qba) x) (sm_sa hx h13 h14 h15 h16 h23),qti (E:=qaa (FT qba) x) (sm_sv hx h13 h14 h15 h16 h23),trivial⟩
 rw [g,qg5 (E:=qaa (FT qba) x) (fun j hj=>hx j hj) hA.mem zcr]
 show (SE.cmp .eql (.lit .i64 1) (.lit .i64 1)).val (qaa (FT qba) x)=1
 exact zib
end
end Go.Proofs.YtilkebpcjklmfaaGreat.Own
namespace Go.Proofs.YtilkebpcjklmfaaGreat.Own
open Go Go.RowKit Go.Proofs
set_option maxRecDepth 100000
set_option maxHeartbeats 40000000
abbrev BJ:SE:=.ivar .i64 13
def xvS:List (Nat×V):=[(1,CB),(9,C5),(10,(.one (.opq BJ))),(0,(.any 0)),(2,(.any 2)),(3,(.any 3)),(7,(.any 7)),(8,(.any 8)),(13,(.any 13)),(14,(.any 14)),(15,(.any 15))]
abbrev FW:C:=.int .i64 1000
abbrev BU:SE:=.lvar 11
abbrev FX:SE:=.lvar 12
abbrev JK:Nat×List C×Nat×Bool:=(4,[(.big AW BX)],72,true)
abbrev JL:Nat×List C×Nat×Bool:=(5,[(.big Bf BM)],3,true)
def xvM:MB:=[(1,([FW,Ad,BB,BA,Bc,Ad,Br,Ad,Bt,Ad,BE,Bj,CG,B7,CH,Ef,(.sli 5 Bf)]++zz 3++[(.sli 6 BU)]),35,false),(2,[(.big FX Bm)],54,true),Jy,JK,JL,(6,[(.big BU B3)],38,true)]
def xvF:MB:=Jk
abbrev FY:SE:=.bin .add .i64 BJ Cu
abbrev FZ:SE:=.bin .add .i64 BJ Aw
def xvT:RT:=(.ask (.cmp .lss FY AD) (.ask (.cmp .lss BJ (.lit .i64 120)) (.know (.cmp .geq BJ Aa) true (.know (.cmp .lss BJ AD) true (.know (.cmp .geq FZ Aa) true (.know (.cmp .lss FZ AD) true (.know (.cmp .geq FY Aa) true (.know (.cmp .leq (.len BU) AC) true (.next [Ab,Af,Am,Av,As,Aq,AY,AE,AG,AW,Bf,(.lcat BU (.lone (.cons BJ (.cons (.bin .add .i64 Aw (.bin .rem .i64 (.conv .i64 (.el (some .u8) Ab BJ 0)) Ae)) (.cons (.bin .sub .i64 (.conv .i64 (.el (some .u8) Ab FZ 0)) Aw) (.cons (.bin .sub .i64 (.conv .i64 (.el (some .u8) Ab FY 0)) Aw) .nil)))))),FX,(.bin .add .i64 BJ CU)]))))))) (.out 0 [Af,Am,Av,As,Aq,AY,AE,AG,AW,Bf,BU,FX])) (.out 0 [Af,Am,Av,As,Aq,AY,AE,AG,AW,Bf,BU,FX]))
abbrev JM:Nat×List C×Nat×Bool:=(2,[(.big BU Bm)],54,true)
def xvL:LEnt:={f:=3,id:=4,num:=20121,nx:=7,S:=[(1,CB),(9,C5),(10,Bi),(0,(.any 0)),(2,(.any 2)),(3,(.any 3)),(7,(.any 7)),(8,(.any 8)),(13,(.any 13)),(14,(.any 14)),(15,(.any 15))],M:=[(1,([FW,Ad,BB,BA,Bc,Ad,Br,Ad,Bt,Ad,BE,Bj,CG,B7,CH,Ef,(.sli 5 Bf)]++zz 3++[.nils]),35,false),JM,Jy,JK,JL],F:=xvF,kk:=[0,1,2,3,4,5],outs:=[{x:=(.exit 0),S:=[(9,C5),(0,(.any 0)),(2,(.any 2)),(3,(.any 3)),(7,(.any 7)),(8,(.any 8)),(13,(.any 13)),(14,(.any 14)),(15,(.any 15))],M:=[(1,([FW,Ad,BB,BD,Bz,Ad,Br,Ad,Bc,Ad,Bt,B6,Bj,Ee,(.sli 3 AE),(.sli 4 AG),(.sli 5 AW)]++zz 3++[(.sli 6 Bf)]),35,false),JM,(3,[(.big AE BZ)],70,true),(4,[(.big AG BX)],72,true),(5,Jw,3,true),(6,[(.big Bf B3)],38,true)],cv:=[(0,1,(some (some .i64))),(1,2,(some (some .u64))),(2,3,(some (some .u64))),(3,4,(some (some .u64))),(4,5,(some (some .i64))),(5,6,(some (some .i64))),(6,7,none),(7,8,none),(8,9,none),(9,10,none),(11,11,none)]}],lv:=[(2,11),(3,8),(4,9),(5,10),(0,0)],sm:=[],pre:=[]}
def xvI:List SE:=[Ab,Af,Am,Av,As,Aq,AY,AE,AG,AW,Bf,.lnil,BU,Aa]
def xvC:List (Nat×Nat×Option (Option IntKind)):=[(0,0,none),(1,1,(some (some .i64))),(2,2,(some (some .u64))),(3,3,(some (some .u64))),(4,4,(some (some .u64))),(5,5,(some (some .i64))),(6,6,(some (some .i64))),(7,7,none),(8,8,none),(9,9,none),(10,10,none),(12,11,none)]
def xvn:Nat:=88
def xvU (xs:List Int):Nat:=41
noncomputable def xvG:(Nat→List Int→List Int)→List Int→List Int:=qfv xvI (fun _=>xvT) xvU
theorem zu0 (z:Int):IntKind.i64.wrap (IntKind.i64.wrap z)=IntKind.i64.wrap z:=by rw [IntKind.wrap_i64,IntKind.wrap_i64];omega
structure xvJ (x0:Int) (i:Nat) (ys:List Int):Prop where
 x:ys.getD 0 0=x0
 ix:ys.getD 13 0=((3 * i:Nat):Int)
 n:i≤40
 l:(dec (ys.getD 11 0)).length=i
 nr:zla gefs (dec (ys.getD 11 0))
 c:Cod (ys.getD 11 0)
section
variable {F:Nat→List Int→List Int} {x0:Int} {i:Nat} {ys:List Int} (hl:(dec x0).length≤maxLen)
include hl
theorem xv_c (h:xvJ x0 i ys):((SE.cmp .lss (.bin .add .i64 (.ivar .i64 13) (.lit .i64 2)) (.len (.lvar 0))).val (qaa F ys) !=0)=decide (3 * i+2<(dec x0).length)∧((SE.cmp .lss (.ivar .i64 13) (.lit .i64 120)).val (qaa F ys) !=0)=decide (3 * i<120):=by
 have:=h.n
 have a2:=qcu (F:=F) (k:=2) h.ix (by omega)
 have a0:=qez (F:=F) h.ix (by omega)
 have el:=qby (F:=F) (lv:=0) (xs:=ys) (n:=(dec x0).length) (by rw [h.x]) hl
 exact ⟨qdx a2 el,qdx a0 (qd5 (k:=120) (by omega))⟩
theorem yf3 (h:xvJ x0 i ys):xvT.ok (qaa F ys):=by
 have:=h.n
 obtain ⟨c1,c2⟩:=xv_c (F:=F) hl h
 have a2:=qcu (F:=F) (k:=2) h.ix (by omega)
 have a1:=qcu (F:=F) (k:=1) h.ix (by omega)
 have a0:=qez (F:=F) h.ix (by omega)
 have el:=qby (F:=F) (lv:=0) (xs:=ys) (n:=(dec x0).length) (by rw [h.x]) hl
 have e11:=qby (F:=F) (lv:=11) (xs:=ys) (n:=i) h.l (by unfold maxLen;omega)
 refine ⟨fun q1=>⟨fun q2=> ?_,fun _=>trivial⟩,fun _=>trivial⟩
 rw [c1] at q1
 have q1:=of_decide_eq_true q1
 refine ⟨?_,?_,?_,?_,?_,?_,trivial⟩
 ·exact (qf7 a0 (qd5 (k:=0) (by omega))).trans (decide_eq_true (by omega))
 ·exact (qdx a0 el).trans (decide_eq_true (by omega))
 ·exact (qf7 a1 (qd5 (k:=0) (by omega))).trans (decide_eq_true (by omega))
 ·exact (qdx a1 el).trans (decide_eq_true (by omega))
 ·exact (qf7 a2 (qd5 (k:=0) (by omega))).trans (decide_eq_true (by omega))
 ·exact (qm9 e11 (qd5 (k:=1000000) (by omega))).trans (decide_eq_true (by omega))
theorem zr9 (h:xvJ x0 i ys) (zs:List Int) (hz:xvT.get (qaa F ys)=(none,zs)):i<40∧xvJ x0 (i+1) zs:=by
 have:=h.n
 obtain ⟨c1,c2⟩:=xv_c (F:=F) hl h
 unfold xvT at hz
 simp only [RT.get,c1,c2] at hz
 by_cases q1:3 * i+2<(dec x0).length
 ·rw [decide_eq_true q1,cond_true] at hz
  by_cases q2:3 * i<120
  ·rw [decide_eq_true q2,cond_true] at hz
   cases hz
   have e0:(SE.lvar 0).val (qaa F ys)=ys.getD 0 0:=lvar_at
   have e11:(SE.lvar 11).val (qaa F ys)=ys.getD 11 0:=lvar_at
   have hd:∀az:SE,dec ((SE.lcat (.lvar 11) (.lone az)).val (qaa F ys))=dec (ys.getD 11 0)++[az.vals (qaa F ys)]:=fun az=>by
    have h1:(SE.lcat (.lvar 11) (.lone az)).lst (qaa F ys)=(SE.lvar 11).lst (qaa F ys)++(SE.lone az).lst (qaa F ys):=qc3 _ _
    rw [qf3] at h1
    have h2:(SE.lvar 11).lst (qaa F ys)=dec (ys.getD 11 0):=by show dec _=_;rw [e11]
    rw [h2] at h1
    exact h1
   refine ⟨by omega,⟨e0.trans h.x,by rw [show 3 * (i+1)=3 * i+3 by omega];exact qcu (F:=F) (k:=3) h.ix (by omega),by omega,?_,?_,?_⟩⟩
   ·exact (congrArg List.length (hd _)).trans (by rw [List.length_append,h.l];rfl)
   ·intro r hr
    have hr:r∈dec ((SE.lcat (.lvar 11) (.lone _)).val (qaa F ys)):=hr
    rw [hd] at hr
    rcases List.mem_append.1 hr with hr |hr
    ·exact h.nr r hr
    ·rw [List.mem_singleton] at hr
     subst hr
     unfold z1y gefs
     simp only [qab,qad,List.map,nrm,SE.val,qbg]
     simp [zu0]
   ·exact ⟨dec (ys.getD 11 0)++[_],by
     have h1:=hd (.cons (.ivar .i64 13) (.cons (.bin .add .i64 (.lit .i64 1) (.bin .rem .i64 (.conv .i64 (.el (some .u8) (.lvar 0) (.ivar .i64 13) 0)) (.lit .i64 8))) (.cons (.bin .sub .i64 (.conv .i64 (.el (some .u8) (.lvar 0) (.bin .add .i64 (.ivar .i64 13) (.lit .i64 1)) 0)) (.lit .i64 1)) (.cons (.bin .sub .i64 (.conv .i64 (.el (some .u8) (.lvar 0) (.bin .add .i64 (.ivar .i64 13) (.lit .i64 2)) 0)) (.lit .i64 1)) .nil))))
     have h2:∀az:SE,(SE.lcat (.lvar 11) (.lone az)).val (qaa F ys)=enc (dec ((SE.lcat (.lvar 11) (.lone az)).val (qaa F ys))):=fun az=>by
      have:∃l,(SE.lcat (.lvar 11) (.lone az)).val (qaa F ys)=enc l:=⟨_,by simp only [SE.val];rfl⟩
      obtain ⟨l,hl⟩:=this
      rw [hl,qan]
     exact (h2 _).trans (congrArg enc h1)⟩
  ·rw [decide_eq_false q2,cond_false] at hz;cases hz
 ·rw [decide_eq_false q1,cond_false] at hz;cases hz
end
theorem xv_J0 {F:Nat→List Int→List Int} {xs:List Int}:xvJ (xs.getD 0 0) 0 (xvI.map (SE.val (qaa F xs))):=by
 have e0:(SE.lvar 0).val (qaa F xs)=xs.getD 0 0:=lvar_at
 have en:SE.lnil.val (qaa F xs)=enc []:=by simp only [SE.val]
 refine ⟨e0,by show (SE.lit .i64 0).val (qaa F xs)=_;rw [qai];rfl,by omega,?_,?_,⟨[],en⟩⟩
 ·show (dec (SE.lnil.val (qaa F xs))).length=0;rw [en,qan];rfl
 ·show zla gefs (dec (SE.lnil.val (qaa F xs)));rw [en,qan];intro r hr;cases hr
theorem ydt (F:Nat→List Int→List Int) (xs:List Int) (hp:Pre xvL F xs):qdn (fun _=>xvT) F 0 (xvU xs) (xvI.map (SE.val (qaa F xs))):=
 qi5 (xvJ (xs.getD 0 0)) 40 (fun i ys _ hj=>yf3 (hp.lv (0,0) (by decide)) hj) (fun i ys zs hi hj hy=>zr9 (hp.lv (0,0) (by decide)) hj zs hy) _ 0 0 _ (by unfold xvU;omega) (by unfold xvU;omega) xv_J0
theorem z9w:qak (bW.loops zil) qr5 300 xvL.f xvn (qa3 Tryz.prog xvL.f xvL.id) xvS xvM xvL.F xvL.nx xvS xvL.outs xvL.kk xvT []=true:=by kernel_rfl
theorem xv_ok:LCT Tryz.prog xvL (FT qr5) (xvG (FT qr5)):=
 qc8 (b:=bW.loops zil) (Tb:=qr5) (y:=xvL) (M:=xvM) (T:=fun _=>xvT) (S:=fun _=>xvS) (init:=xvI) (qag qbi _) (qbj zoh) zqo (d:=300) (n:=xvn) (by kernel_rfl) (by kernel_rfl) (by kernel_rfl) (by kernel_rfl) (fun _ _ _=>z9w) (fun xs hp=>ydt _ xs hp)
theorem z71 (F:Nat→List Int→List Int):Cst xvL (xvG F):=qdh xvC (by kernel_rfl) (fun _ _ _=>by kernel_rfl)
noncomputable def qxm:List Ent:=⟨20121,[],.tup [],xvG,true⟩::qr5
def zbr:List LEnt:=xvL::zil
theorem zh_:qcd Tryz.prog qxm:=qbw zqo rfl (by kernel_rfl)
theorem ziq:LBs Tryz.prog zbr qxm:=qbl (y:=xvL) zoh (by kernel_rfl) (by kernel_rfl) (by kernel_rfl) xv_ok (z71 _)
noncomputable def qgs:List Ent:=qxm
def zht:List LEnt:=zbr
theorem ycq:qcd Tryz.prog qgs:=zh_
theorem z44:LBs Tryz.prog zht qgs:=ziq
end Go.Proofs.YtilkebpcjklmfaaGreat.Own
