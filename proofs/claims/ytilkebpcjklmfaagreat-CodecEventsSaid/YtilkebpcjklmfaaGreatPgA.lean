/- Contracts of loops that go through lists: found by program, checked by the kernel. Numbers out of eight bytes: a loop that reads a row's numbers off what is left of a string. -/
import Derived.Test.YtilkebpcjklmfaaGreatPwB
set_option linter.unusedVariables false
set_option linter.unusedSimpArgs false
namespace Go.Proofs.YtilkebpcjklmfaaGreat.Own
open Go Go.RowKit Go.Proofs
set_option maxRecDepth 100000
set_option maxHeartbeats 40000000
abbrev CJ:List C:=[(.ptr 2 0)]
def pbS:List (Nat×V):=[(1,CB),(0,C5),(2,(.one (.fn 57 CJ))),(9,(.one C2)),(8,C0),(7,(.any 7))]
abbrev Bw:Nat×List C×Nat×Bool:=(2,[D3],61,false)
abbrev Jj:MB:=[(1,[D3,(.sli 3 Ar),(.str ⟨#[]⟩),BK,BK],66,false),Bw,(3,[(.big Ar [some .u8])],5,true)]
def pbM:MB:=Jj
abbrev C9:SE:=.lvar 2
def pbF:MB:=[(0,[(.big C9 Bm)],54,false)]
def pbfs:List (Bool×Nat):=[(false,0),(true,1),(false,2),(true,3),(false,4),(true,5),(false,6),(true,7),(false,8),(true,9),(false,10),(true,11),(false,12),(true,13),(false,14),(true,15),(false,16),(true,17),(false,18),(false,19)]
def pbT:RT:=pvT pbfs
abbrev HJ:List (Nat×V):=[(1,CB),(0,C5),(2,(.one (.fn 57 CJ))),(9,Bi),(8,C0),(7,(.any 7))]
abbrev HK:List (Nat×V):=[(1,CB),(0,C5),(2,(.one (.fn 57 CJ))),(7,(.any 7))]
abbrev BF:SE:=.lit .i64 400
abbrev B9:SE:=.lit .i64 20000
def pbL:LEnt:={f:=90,id:=1,num:=20091,nx:=4,S:=HJ,M:=Jj,F:=pbF,kk:=[0,1,2],outs:=[{x:=(.exit 0),S:=HK,M:=Jj,cv:=mrC}],lv:=[(3,1),(0,2)],sm:=[],pre:=[(.cmp .neq AD (.len C9),false),(.cmp .leq AD BF,true),(.cmp .leq BN B9,true)]}
def pbI:List SE:=[Ab,Ar,C9,Aa]
def pbC:List (Nat×Nat×Option (Option IntKind)):=[(0,0,none)]
def pbn:Nat:=23
noncomputable def pbU:List Int→Nat:=pvU
noncomputable def pbG:(Nat→List Int→List Int)→List Int→List Int:=pvG pbfs
theorem z63 (F:Nat→List Int→List Int) (xs:List Int) (hp:Pre pbL F xs):qdn (fun _=>pbT) F 0 (pbU xs) (pbI.map (SE.val (qaa F xs))):=yab (fs:=pbfs) (by simp [pbfs]) (by decide) (hp.lv (0,2) (by decide)) hp.pre
theorem ya5:qak (bW.loops zjs) yh1 300 pbL.f pbn (qa3 Tryz.prog pbL.f pbL.id) pbS pbM pbL.F pbL.nx pbS pbL.outs pbL.kk pbT []=true:=by kernel_rfl
theorem pb_ok:LCT Tryz.prog pbL (FT yh1) (pbG (FT yh1)):=
 qc8 (b:=bW.loops zjs) (Tb:=yh1) (y:=pbL) (M:=pbM) (T:=fun _=>pbT) (S:=fun _=>pbS) (init:=pbI) (qag qbi _) (qbj zpl) zpx (d:=300) (n:=pbn) (by kernel_rfl) (by kernel_rfl) (by kernel_rfl) (by kernel_rfl) (fun _ _ _=>ya5) (fun xs hp=>z63 _ xs hp)
theorem z5e (F:Nat→List Int→List Int):Cst pbL (pbG F):=qdh pbC (by kernel_rfl) (fun _ _ _=>by kernel_rfl)
noncomputable def qjg:List Ent:=⟨20091,[],.tup [],pbG,true⟩::yh1
def qs2:List LEnt:=pbL::zjs
theorem q2r:qcd Tryz.prog qjg:=qbw zpx rfl (by kernel_rfl)
theorem q1p:LBs Tryz.prog qs2 qjg:=qbl (y:=pbL) zpl (by kernel_rfl) (by kernel_rfl) (by kernel_rfl) pb_ok (z5e _)
def ptS:List (Nat×V):=[(1,CB),(0,C5),(2,(.one (.fn 60 CJ))),(9,C1),(8,C0),(7,(.any 7))]
def ptM:MB:=Jj
def ptF:MB:=[JD]
def ptfs:List (Bool×Nat):=[(false,0),(false,1),(false,2),(true,3),(false,4),(true,5)]
def ptT:RT:=pwT ptfs
abbrev HL:List (Nat×V):=[(1,CB),(0,C5),(2,(.one (.fn 60 CJ))),(9,Bi),(8,C0),(7,(.any 7))]
abbrev HM:List (Nat×V):=[(1,CB),(0,C5),(2,(.one (.fn 60 CJ))),(7,(.any 7))]
def ptL:LEnt:={f:=91,id:=1,num:=20092,nx:=4,S:=HL,M:=Jj,F:=ptF,kk:=[0,1,2],outs:=[{x:=(.exit 0),S:=HM,M:=Jj,cv:=mrC}],lv:=[(3,1),(0,0)],sm:=[],pre:=[(.cmp .leq AD BF,true),(.cmp .leq BN B9,true)]}
def ptI:List SE:=CI
def ptC:List (Nat×Nat×Option (Option IntKind)):=[(0,0,none)]
def ptn:Nat:=23
noncomputable def ptU:List Int→Nat:=pwU
noncomputable def ptG:(Nat→List Int→List Int)→List Int→List Int:=pwG ptfs
theorem ybl (F:Nat→List Int→List Int) (xs:List Int) (hp:Pre ptL F xs):qdn (fun _=>ptT) F 0 (ptU xs) (ptI.map (SE.val (qaa F xs))):=q2q (fs:=ptfs) (by simp [ptfs]) (by decide) hp.pre
theorem yai:qak (bW.loops qs2) qjg 300 ptL.f ptn (qa3 Tryz.prog ptL.f ptL.id) ptS ptM ptL.F ptL.nx ptS ptL.outs ptL.kk ptT []=true:=by kernel_rfl
theorem pt_ok:LCT Tryz.prog ptL (FT qjg) (ptG (FT qjg)):=
 qc8 (b:=bW.loops qs2) (Tb:=qjg) (y:=ptL) (M:=ptM) (T:=fun _=>ptT) (S:=fun _=>ptS) (init:=ptI) (qag qbi _) (qbj q1p) q2r (d:=300) (n:=ptn) (by kernel_rfl) (by kernel_rfl) (by kernel_rfl) (by kernel_rfl) (fun _ _ _=>yai) (fun xs hp=>ybl _ xs hp)
theorem yb1 (F:Nat→List Int→List Int):Cst ptL (ptG F):=qdh ptC (by kernel_rfl) (fun _ _ _=>by kernel_rfl)
noncomputable def qjq:List Ent:=⟨20092,[],.tup [],ptG,true⟩::qjg
def qr9:List LEnt:=ptL::qs2
theorem qz0:qcd Tryz.prog qjq:=qbw q2r rfl (by kernel_rfl)
theorem qy6:LBs Tryz.prog qr9 qjq:=qbl (y:=ptL) q1p (by kernel_rfl) (by kernel_rfl) (by kernel_rfl) pt_ok (yb1 _)
def prS:List (Nat×V):=[(1,CB),(0,C5),(2,(.one (.fn 62 CJ))),(9,C1),(8,C0),(7,(.any 7))]
def prM:MB:=Jj
def prF:MB:=JB
def prfs:List (Bool×Nat):=[(false,0),(false,1),(true,2),(false,3),(true,4),(false,5),(false,6),(false,7),(false,8),(true,9)]
def prT:RT:=pwT prfs
abbrev HN:List (Nat×V):=[(1,CB),(0,C5),(2,(.one (.fn 62 CJ))),(9,Bi),(8,C0),(7,(.any 7))]
abbrev HO:List (Nat×V):=[(1,CB),(0,C5),(2,(.one (.fn 62 CJ))),(7,(.any 7))]
def prL:LEnt:={f:=92,id:=1,num:=20093,nx:=4,S:=HN,M:=Jj,F:=prF,kk:=[0,1,2],outs:=[{x:=(.exit 0),S:=HO,M:=Jj,cv:=mrC}],lv:=[(3,1),(0,0)],sm:=[],pre:=[(.cmp .leq AD BF,true),(.cmp .leq BN B9,true)]}
def prI:List SE:=CI
def prC:List (Nat×Nat×Option (Option IntKind)):=[(0,0,none)]
def prn:Nat:=23
noncomputable def prU:List Int→Nat:=pwU
noncomputable def prG:(Nat→List Int→List Int)→List Int→List Int:=pwG prfs
theorem ygx (F:Nat→List Int→List Int) (xs:List Int) (hp:Pre prL F xs):qdn (fun _=>prT) F 0 (prU xs) (prI.map (SE.val (qaa F xs))):=q2q (fs:=prfs) (by simp [prfs]) (by decide) hp.pre
theorem yhq:qak (bW.loops qr9) qjq 300 prL.f prn (qa3 Tryz.prog prL.f prL.id) prS prM prL.F prL.nx prS prL.outs prL.kk prT []=true:=by kernel_rfl
theorem pr_ok:LCT Tryz.prog prL (FT qjq) (prG (FT qjq)):=
 qc8 (b:=bW.loops qr9) (Tb:=qjq) (y:=prL) (M:=prM) (T:=fun _=>prT) (S:=fun _=>prS) (init:=prI) (qag qbi _) (qbj qy6) qz0 (d:=300) (n:=prn) (by kernel_rfl) (by kernel_rfl) (by kernel_rfl) (by kernel_rfl) (fun _ _ _=>yhq) (fun xs hp=>ygx _ xs hp)
theorem z80 (F:Nat→List Int→List Int):Cst prL (prG F):=qdh prC (by kernel_rfl) (fun _ _ _=>by kernel_rfl)
noncomputable def qjm:List Ent:=⟨20093,[],.tup [],prG,true⟩::qjq
def qr_:List LEnt:=prL::qr9
theorem qzg:qcd Tryz.prog qjm:=qbw qz0 rfl (by kernel_rfl)
theorem q1q:LBs Tryz.prog qr_ qjm:=qbl (y:=prL) qy6 (by kernel_rfl) (by kernel_rfl) (by kernel_rfl) pr_ok (z80 _)
def paS:List (Nat×V):=[(1,CB),(0,C5),(2,(.one (.fn 64 CJ))),(9,C1),(8,C0),(7,(.any 7))]
def paM:MB:=Jj
def paF:MB:=[JE]
def pafs:List (Bool×Nat):=[(false,0)]
def paT:RT:=pwT pafs
abbrev HP:List (Nat×V):=[(1,CB),(0,C5),(2,(.one (.fn 64 CJ))),(9,Bi),(8,C0),(7,(.any 7))]
abbrev HQ:List (Nat×V):=[(1,CB),(0,C5),(2,(.one (.fn 64 CJ))),(7,(.any 7))]
def paL:LEnt:={f:=63,id:=1,num:=20094,nx:=4,S:=HP,M:=Jj,F:=paF,kk:=[0,1,2],outs:=[{x:=(.exit 0),S:=HQ,M:=Jj,cv:=mrC}],lv:=[(3,1),(0,0)],sm:=[],pre:=[(.cmp .leq AD BF,true),(.cmp .leq BN B9,true)]}
def paI:List SE:=CI
def paC:List (Nat×Nat×Option (Option IntKind)):=[(0,0,none)]
def pan:Nat:=23
noncomputable def paU:List Int→Nat:=pwU
noncomputable def paG:(Nat→List Int→List Int)→List Int→List Int:=pwG pafs
theorem z4m (F:Nat→List Int→List Int) (xs:List Int) (hp:Pre paL F xs):qdn (fun _=>paT) F 0 (paU xs) (paI.map (SE.val (qaa F xs))):=q2q (fs:=pafs) (by simp [pafs]) (by decide) hp.pre
theorem z9n:qak (bW.loops qr_) qjm 300 paL.f pan (qa3 Tryz.prog paL.f paL.id) paS paM paL.F paL.nx paS paL.outs paL.kk paT []=true:=by kernel_rfl
theorem pa_ok:LCT Tryz.prog paL (FT qjm) (paG (FT qjm)):=
 qc8 (b:=bW.loops qr_) (Tb:=qjm) (y:=paL) (M:=paM) (T:=fun _=>paT) (S:=fun _=>paS) (init:=paI) (qag qbi _) (qbj q1q) qzg (d:=300) (n:=pan) (by kernel_rfl) (by kernel_rfl) (by kernel_rfl) (by kernel_rfl) (fun _ _ _=>z9n) (fun xs hp=>z4m _ xs hp)
theorem ybg (F:Nat→List Int→List Int):Cst paL (paG F):=qdh paC (by kernel_rfl) (fun _ _ _=>by kernel_rfl)
noncomputable def qjj:List Ent:=⟨20094,[],.tup [],paG,true⟩::qjm
def qs3:List LEnt:=paL::qr_
theorem q1u:qcd Tryz.prog qjj:=qbw qzg rfl (by kernel_rfl)
theorem q30:LBs Tryz.prog qs3 qjj:=qbl (y:=paL) q1q (by kernel_rfl) (by kernel_rfl) (by kernel_rfl) pa_ok (ybg _)
def peS:List (Nat×V):=[(1,CB),(0,C5),(2,(.one (.fn 66 CJ))),(9,C1),(8,C0),(7,(.any 7))]
def peM:MB:=Jj
def peF:MB:=JF
def pefs:List (Bool×Nat):=[(false,0),(false,1),(false,2),(false,3)]
def peT:RT:=pwT pefs
abbrev HR:List (Nat×V):=[(1,CB),(0,C5),(2,(.one (.fn 66 CJ))),(9,Bi),(8,C0),(7,(.any 7))]
abbrev HS:List (Nat×V):=[(1,CB),(0,C5),(2,(.one (.fn 66 CJ))),(7,(.any 7))]
def peL:LEnt:={f:=93,id:=1,num:=20095,nx:=4,S:=HR,M:=Jj,F:=peF,kk:=[0,1,2],outs:=[{x:=(.exit 0),S:=HS,M:=Jj,cv:=mrC}],lv:=[(3,1),(0,0)],sm:=[],pre:=[(.cmp .leq AD BF,true),(.cmp .leq BN B9,true)]}
def peI:List SE:=CI
def peC:List (Nat×Nat×Option (Option IntKind)):=[(0,0,none)]
def pen:Nat:=23
noncomputable def peU:List Int→Nat:=pwU
noncomputable def peG:(Nat→List Int→List Int)→List Int→List Int:=pwG pefs
theorem yhb (F:Nat→List Int→List Int) (xs:List Int) (hp:Pre peL F xs):qdn (fun _=>peT) F 0 (peU xs) (peI.map (SE.val (qaa F xs))):=q2q (fs:=pefs) (by simp [pefs]) (by decide) hp.pre
theorem ybp:qak (bW.loops qs3) qjj 300 peL.f pen (qa3 Tryz.prog peL.f peL.id) peS peM peL.F peL.nx peS peL.outs peL.kk peT []=true:=by kernel_rfl
theorem pe_ok:LCT Tryz.prog peL (FT qjj) (peG (FT qjj)):=
 qc8 (b:=bW.loops qs3) (Tb:=qjj) (y:=peL) (M:=peM) (T:=fun _=>peT) (S:=fun _=>peS) (init:=peI) (qag qbi _) (qbj q30) q1u (d:=300) (n:=pen) (by kernel_rfl) (by kernel_rfl) (by kernel_rfl) (by kernel_rfl) (fun _ _ _=>ybp) (fun xs hp=>yhb _ xs hp)
theorem z9l (F:Nat→List Int→List Int):Cst peL (peG F):=qdh peC (by kernel_rfl) (fun _ _ _=>by kernel_rfl)
noncomputable def qwg:List Ent:=⟨20095,[],.tup [],peG,true⟩::qjj
def q8d:List LEnt:=peL::qs3
theorem znd:qcd Tryz.prog qwg:=qbw q1u rfl (by kernel_rfl)
theorem zii:LBs Tryz.prog q8d qwg:=qbl (y:=peL) q30 (by kernel_rfl) (by kernel_rfl) (by kernel_rfl) pe_ok (z9l _)
noncomputable def qfz:List Ent:=qwg
def qgo:List LEnt:=q8d
theorem zow:qcd Tryz.prog qfz:=znd
theorem zpw:LBs Tryz.prog qgo qfz:=zii
def zk:Nat→SE
 |0=> .lvar 2
 |k+1=> .ldr (.lvar 2) (.lit .i64 (Int.ofNat (8 * (k+1))))
def gvl (p:Bool×Nat) (k:Nat):SE:=match p.1 with |true=> .wd (zk k) 8 |false=> .conv .i64 (.wd (zk k) 8)
def zhb (l:SE) (p:Bool×Nat) (k:Nat):SE:= .lset l (.ivar .i64 4) p.2 (.cons (gvl p k) .nil)
def qdf:SE→List (Bool×Nat)→SE
 |l,[]=>l
 |l,(true,_)::r=>qdf l r
 |l,(false,j)::r=>qdf (.lset l (.ivar .i64 4) j (.cons (.conv .i64 (.conv .u64 (.el (some .i64) (.lvar 1) (.ivar .i64 4) j))) .nil)) r
def gi1:SE:= .bin .add .i64 (.ivar .i64 4) (.lit .i64 1)
def qjb (l:SE) (k:Nat):List (Bool×Nat)→RT
 |[]=> .next [.lvar 0,l,zk k,.bvar 3,gi1]
 |p::r=> .ask (.cmp .lss (.len (zk k)) (.lit .i64 8)) (.next [.lvar 0,qdf l (p::r),zk k,.cmp .eql (.lit .i64 1) (.lit .i64 1),gi1]) (qjb (zhb l p k) (k+1) r)
def gpT (fs:List (Bool×Nat)):RT:= .ask (.cmp .lss (.ivar .i64 4) (.len (.lvar 0)))
 (.ask (.not (.bvar 3)) (.know (.cmp .geq (.ivar .i64 4) (.lit .i64 0)) true (.know (.cmp .lss (.ivar .i64 4) (.len (.lvar 1))) true (.know (.cmp .leq (.len (.lvar 2)) (.lit .i64 1000000)) true (qjb (.lvar 1) 0 fs))))
  (.next [.lvar 0,.lvar 1,.lvar 2,.bvar 3,gi1]))
 (.out 0 [.lvar 0,.lvar 1,.lvar 2,.bvar 3])
def gpI:List SE:=[.lvar 0,.lvar 0,.lvar 1,.bvar 2,.lit .i64 0]
noncomputable def gpU (xs:List Int):Nat:=(dec (xs.getD 0 0)).length+1
noncomputable def gpG (fs:List (Bool×Nat)):(Nat→List Int→List Int)→List Int→List Int:=qfv gpI (fun _=>gpT fs) gpU
def rd8 (t:List (List Int)):Int:=IntKind.u64.wrap (rdN t 8)
def gval (p:Bool×Nat) (t:List (List Int)):Int:=match p.1 with |true=>rd8 t |false=>IntKind.i64.wrap (rd8 t)
def q52 (s:List (List Int)):List (Bool×Nat)→Nat→List Int→List Int
 |[],_,el=>el
 |p::r,k,el=>q52 s r (k+1) (qb1 el p.2 [gval p (s.drop (8 * k))])
def qcy:SE→Nat→List (Bool×Nat)→SE
 |l,_,[]=>l
 |l,k,p::r=>qcy (zhb l p k) (k+1) r
theorem ze2 {e:Env} (op:BinOp) (a b:SE):((SE.cmp op a b).val e !=0)=qa8 op (a.val e) (b.val e):=by simp only [SE.val,qas]
theorem qpl (l:List (List Int)) (i off:Nat) (az:List Int):(qkn l i off az).length=l.length:=by unfold qkn;rw [List.length_set]
section
variable {F:Nat→List Int→List Int} {ys:List Int} {i:Nat} (hi:ys.getD 4 0=(i:Int)) (hi2:i≤1000000) (hs:(dec (ys.getD 2 0)).length≤1000000)
theorem qub {k:Nat} (hk:k≤1000):(zk k).lst (qaa F ys)=(dec (ys.getD 2 0)).drop (8 * k):=by
 have e2:(qaa F ys).iv 2=ys.getD 2 0:=rfl
 cases k with
 |zero=>unfold zk;simp only [SE.lst,SE.val,e2];rfl
 |succ k=>
  unfold zk
  simp only [SE.lst,SE.val,e2,qan]
  rw [show (IntKind.i64.wrap (Int.ofNat (8 * (k+1)))).toNat=8 * (k+1) by rw [show Int.ofNat (8 * (k+1))=((8 * (k+1):Nat):Int) from rfl,qck (by unfold maxLen;omega)];rfl]
include hs in
theorem zp6 {k:Nat} (hk:k≤1000):((SE.cmp .lss (.len (zk k)) (.lit .i64 8)).val (qaa F ys) !=0)=decide ((dec (ys.getD 2 0)).length - 8 * k<8):=by
 have e:=qgn (qaa F ys) (zk k)
 rw [qub hk,List.length_drop,qcz (by unfold maxLen;omega)] at e
 have e1:=ze2 (e:=qaa F ys) .lss (.len (zk k)) (.lit .i64 8)
 rw [e,qv2,show IntKind.i64.wrap 8=8 from rfl] at e1
 rw [e1]
 exact decide_eq_decide.2 (by omega)
theorem z91 (p:Bool×Nat) {k:Nat} (hk:k≤1000):(gvl p k).val (qaa F ys)=gval p ((dec (ys.getD 2 0)).drop (8 * k)):=by
 have e:(SE.wd (zk k) 8).val (qaa F ys)=rd8 ((dec (ys.getD 2 0)).drop (8 * k)):=by
  rw [←qub (F:=F) hk];simp only [SE.val,SE.lst,rd8]
 obtain ⟨b,j⟩:=p
 cases b with
 |true=>exact e
 |false=>
  show (SE.conv .i64 (.wd (zk k) 8)).val (qaa F ys)=IntKind.i64.wrap _
  rw [show (SE.conv .i64 (.wd (zk k) 8)).val (qaa F ys)=IntKind.i64.wrap ((SE.wd (zk k) 8).val (qaa F ys)) by simp only [SE.val],e]
include hi hi2 in
theorem ix_v:((SE.ivar .i64 4).val (qaa F ys)).toNat=i:=by
 have e:(qaa F ys).iv 4=(i:Int):=hi
 simp only [SE.val,e]
 rw [qck (by unfold maxLen;omega)];rfl
include hi hi2 in
theorem q2g (l:SE) (p:Bool×Nat) {k:Nat} (hk:k≤1000):(zhb l p k).lst (qaa F ys)=qkn (l.lst (qaa F ys)) i p.2 [gval p ((dec (ys.getD 2 0)).drop (8 * k))]:=by
 unfold zhb
 rw [qgi,ix_v hi hi2]
 simp only [SE.vals,z91 p hk]
include hi hi2 in
theorem qtm:∀(r:List (Bool×Nat)) (l:SE) (k:Nat),k+r.length≤1000→i<(l.lst (qaa F ys)).length→(qcy l k r).lst (qaa F ys)=(l.lst (qaa F ys)).set i (q52 (dec (ys.getD 2 0)) r k ((l.lst (qaa F ys)).getD i []))
 |[],l,k,_,h=>by
  unfold qcy q52
  rw [List.getD_eq_getElem?_getD,List.getElem?_eq_getElem h,Option.getD_some,List.set_getElem_self]
 |p::r,l,k,hk,h=>by
  simp only [List.length_cons] at hk
  have e:=q2g (F:=F) hi hi2 l p (k:=k) (by omega)
  unfold qcy q52
  rw [qtm r (zhb l p k) (k+1) (by omega) (by rw [e,qpl];exact h),e,qka h]
  unfold qkn
  rw [List.set_set]
include hi in
theorem zt2 (hi2:i≤1000000):gi1.val (qaa F ys)=((i+1:Nat):Int):=qcu (k:=1) hi (by omega)
theorem qpo:∀(r:List (Bool×Nat)) (l:SE),((qdf l r).lst (qaa F ys)).length=(l.lst (qaa F ys)).length
 |[],l=>rfl
 |(true,_)::r,l=>by unfold qdf;exact qpo r l
 |(false,j)::r,l=>by unfold qdf;rw [qpo r,qgi,qpl]
include hi hi2 hs in
theorem qoa:∀(r:List (Bool×Nat)) (l:SE) (k:Nat),k+r.length≤1000→8 * k≤(dec (ys.getD 2 0)).length→
  (8 * (k+r.length)≤(dec (ys.getD 2 0)).length→(qjb l k r).get (qaa F ys)=(none,[ys.getD 0 0,(qcy l k r).val (qaa F ys),(zk (k+r.length)).val (qaa F ys),b2i (ys.getD 3 0 !=0),((i+1:Nat):Int)]))∧
  ((dec (ys.getD 2 0)).length<8 * (k+r.length)→∃l' j,(qjb l k r).get (qaa F ys)=(none,[ys.getD 0 0,l',(zk j).val (qaa F ys),1,((i+1:Nat):Int)])∧j≤1000∧(dec l').length=(l.lst (qaa F ys)).length)
 |[],l,k,hk,h8=>by
  have e0:(SE.lvar 0).val (qaa F ys)=ys.getD 0 0:=lvar_at
  have e3:(SE.bvar 3).val (qaa F ys)=b2i (ys.getD 3 0 !=0):=by simp only [SE.val];rfl
  refine ⟨fun _=> ?_,fun q=>by rw [List.length_nil,Nat.add_zero] at q;omega⟩
  unfold qjb qcy
  simp only [RT.get,List.map,e0,e3,zt2 hi hi2,List.length_nil,Nat.add_zero]
 |p::r,l,k,hk,h8=>by
  simp only [List.length_cons] at hk ⊢
  have e0:(SE.lvar 0).val (qaa F ys)=ys.getD 0 0:=lvar_at
  have e1:(SE.cmp .eql (.lit .i64 1) (.lit .i64 1)).val (qaa F ys)=1:=by simp only [SE.val];rfl
  have c:=zp6 (F:=F) hs (k:=k) (by omega)
  unfold qjb
  simp only [RT.get,c]
  by_cases q:(dec (ys.getD 2 0)).length - 8 * k<8
  ·rw [decide_eq_true q,cond_true]
   refine ⟨fun q'=>by omega,fun _=>⟨_,k,?_,by omega,qpo (F:=F) (ys:=ys) (p::r) l⟩⟩
   simp only [List.map,e0,e1,zt2 hi hi2]
  ·rw [decide_eq_false q,cond_false]
   obtain ⟨h1,h2⟩:=qoa r (zhb l p k) (k+1) (by omega) (by omega)
   rw [show k+1+r.length=k+(r.length+1) by omega] at h1 h2
   refine ⟨h1,fun q'=> ?_⟩
   obtain ⟨l',j,g1,g2,g3⟩:=h2 q'
   exact ⟨l',j,g1,g2,by rw [g3,q2g hi hi2 l p (by omega),qpl]⟩
theorem q39:∀(r:List (Bool×Nat)) (l:SE) (k:Nat),(qjb l k r).ok (qaa F ys)
 |[],_,_=>trivial
 |p::r,l,k=>⟨fun _=>trivial,fun _=>q39 r _ _⟩
end
structure gpJ (fs:List (Bool×Nat)) (x0 s0 b0:Int) (i:Nat) (ys:List Int):Prop where
 x:ys.getD 0 0=x0
 ix:ys.getD 4 0=(i:Int)
 n:i≤(dec x0).length
 l:(dec (ys.getD 1 0)).length=(dec x0).length
 s:(dec (ys.getD 2 0)).length≤(dec s0).length
 b:ys.getD 3 0≠0↔(b0≠0∨(dec s0).length<8 * fs.length * i)
 g:ys.getD 3 0=0→dec (ys.getD 2 0)=(dec s0).drop (8 * fs.length * i)∧∀j,(dec (ys.getD 1 0)).getD j []=if j<i then q52 ((dec s0).drop (8 * fs.length * j)) fs 0 ((dec x0).getD j []) else (dec x0).getD j []
section
variable {F:Nat→List Int→List Int} {fs:List (Bool×Nat)} {x0 s0 b0:Int} {i:Nat} {ys:List Int} (hN:(dec x0).length≤1000) (hS:(dec s0).length≤1000000) (hm:fs.length≤100)
include hN hS hm
theorem qj1 (h:gpJ fs x0 s0 b0 i ys):((gpT fs).ok (qaa F ys))∧
  (∀zs,(gpT fs).get (qaa F ys)=(none,zs)→i<(dec x0).length∧gpJ fs x0 s0 b0 (i+1) zs)∧
  (∀e zs,(gpT fs).get (qaa F ys)=(some e,zs)→e=0∧i=(dec x0).length∧zs=[x0,ys.getD 1 0,ys.getD 2 0,b2i (ys.getD 3 0 !=0)]):=by
 have hn:=h.n
 have hs2:(dec (ys.getD 2 0)).length≤1000000:=Nat.le_trans h.s hS
 have ei:=qez (F:=F) h.ix (by omega)
 have el:=qby (F:=F) (lv:=0) (xs:=ys) (n:=(dec x0).length) (by rw [h.x]) (by unfold maxLen;omega)
 have c:=qdx (F:=F) ei el
 have e0:(SE.lvar 0).val (qaa F ys)=x0:=lvar_at.trans h.x
 have e1:(SE.lvar 1).val (qaa F ys)=ys.getD 1 0:=lvar_at
 have e2:(SE.lvar 2).val (qaa F ys)=ys.getD 2 0:=lvar_at
 have e3:(SE.bvar 3).val (qaa F ys)=b2i (ys.getD 3 0 !=0):=by simp only [SE.val];rfl
 have e4:((SE.not (.bvar 3)).val (qaa F ys) !=0)= !(ys.getD 3 0 !=0):=by
  have:(SE.not (.bvar 3)).val (qaa F ys)=b2i (!((SE.bvar 3).val (qaa F ys) !=0)):=by simp only [SE.val]
  rw [this,e3,qas,qas]
 have eg:gi1.val (qaa F ys)=((i+1:Nat):Int):=zt2 h.ix (by omega)
 refine ⟨⟨fun q=>⟨fun _=>⟨?_,?_,?_,q39 _ _ _⟩,fun _=>trivial⟩,fun _=>trivial⟩,?_,?_⟩
 ·show ((SE.cmp .geq (.ivar .i64 4) (.lit .i64 ((0:Nat):Int))).val (qaa F ys) !=0)=true
  rw [qf7 ei (qd5 (k:=0) (by omega))];exact decide_eq_true (by omega)
 ·rw [c] at q
  rw [qdx ei (qby (F:=F) (lv:=1) (xs:=ys) (n:=(dec x0).length) h.l (by unfold maxLen;omega))];exact q
 ·show ((SE.cmp .leq (.len (.lvar 2)) (.lit .i64 ((1000000:Nat):Int))).val (qaa F ys) !=0)=true
  rw [qm9 (qby (F:=F) (lv:=2) (xs:=ys) rfl (by unfold maxLen;omega)) (qd5 (k:=1000000) (by omega))];exact decide_eq_true hs2
 ·intro zs hz
  unfold gpT at hz
  simp only [RT.get,c,e4] at hz
  by_cases q:i<(dec x0).length
  ·rw [decide_eq_true q,cond_true] at hz
   refine ⟨q,?_⟩
   by_cases hb:ys.getD 3 0=0
   ·have hb':(!(ys.getD 3 0 !=0))=true:=by rw [hb];rfl
    rw [hb',cond_true] at hz
    have nb:¬(b0≠0∨(dec s0).length<8 * fs.length * i):=fun q'=>(h.b.2 q') hb
    obtain ⟨g1,g2⟩:=h.g hb
    have hle:8 * fs.length * i≤(dec s0).length:=by omega
    have hsl:(dec (ys.getD 2 0)).length=(dec s0).length - 8 * fs.length * i:=by rw [g1,List.length_drop]
    obtain ⟨t1,t2⟩:=qoa (F:=F) h.ix (by omega) hs2 fs (.lvar 1) 0 (by omega) (by omega)
    rw [Nat.zero_add] at t1 t2
    have hmul:8 * fs.length * (i+1)=8 * fs.length * i+8 * fs.length:=by rw [Nat.mul_add];omega
    by_cases hl:8 * fs.length≤(dec (ys.getD 2 0)).length
    ·rw [t1 hl] at hz
     cases hz
     have ll:((SE.lvar 1).lst (qaa F ys))=dec (ys.getD 1 0):=by simp only [SE.lst,e1]
     have gl:dec ((qcy (.lvar 1) 0 fs).val (qaa F ys))=(dec (ys.getD 1 0)).set i (q52 (dec (ys.getD 2 0)) fs 0 ((dec (ys.getD 1 0)).getD i [])):=by
      have:=qtm (F:=F) h.ix (by omega) fs (.lvar 1) 0 (by omega) (by rw [ll,h.l];exact q)
      rw [ll] at this;exact this
     have gz:dec ((zk fs.length).val (qaa F ys))=(dec (ys.getD 2 0)).drop (8 * fs.length):=qub (F:=F) (by omega)
     refine ⟨h.x,rfl,q,by show (dec ((qcy (.lvar 1) 0 fs).val (qaa F ys))).length=_;rw [gl,List.length_set,h.l],by show (dec ((zk fs.length).val (qaa F ys))).length≤_;rw [gz,List.length_drop];omega,?_,fun _=>⟨?_,fun j=> ?_⟩⟩
     ·show b2i (ys.getD 3 0 !=0)≠0↔_
      rw [hb]
      refine ⟨fun q'=>absurd rfl q',fun q'=> ?_⟩
      rcases q' with q' |q'
      ·exact absurd (.inl q') nb
      ·omega
     ·show dec ((zk fs.length).val (qaa F ys))=_
      rw [gz,g1,List.drop_drop,hmul]
     ·show (dec ((qcy (.lvar 1) 0 fs).val (qaa F ys))).getD j []=_
      rw [gl]
      by_cases hj:j=i
      ·subst hj
       rw [List.getD_eq_getElem?_getD,List.getElem?_set_self (by rw [h.l];exact q),Option.getD_some,if_pos (by omega),g1,g2 j,if_neg (by omega)]
      ·rw [List.getD_eq_getElem?_getD,List.getElem?_set_ne (Ne.symm hj),←List.getD_eq_getElem?_getD,g2 j]
       by_cases hj2:j<i
       ·rw [if_pos hj2,if_pos (by omega)]
       ·rw [if_neg hj2,if_neg (by omega)]
    ·obtain ⟨l',j,t3,t4,t5⟩:=t2 (by omega)
     rw [t3] at hz
     cases hz
     have ll:((SE.lvar 1).lst (qaa F ys))=dec (ys.getD 1 0):=by simp only [SE.lst,e1]
     rw [ll] at t5
     have gz:dec ((zk j).val (qaa F ys))=(dec (ys.getD 2 0)).drop (8 * j):=qub (F:=F) t4
     refine ⟨h.x,rfl,q,by show (dec l').length=_;rw [t5,h.l],by show (dec ((zk j).val (qaa F ys))).length≤_;rw [gz,List.length_drop];omega,?_,fun q'=>by cases q'⟩
     show (1:Int)≠0↔_
     exact ⟨fun _=> .inr (by omega),fun _=>by decide⟩
   ·have hb':(!(ys.getD 3 0 !=0))=false:=by
     have:(ys.getD 3 0 !=0)=true:=by simpa using hb
     rw [this];rfl
    rw [hb',cond_false] at hz
    cases hz
    simp only [List.map]
    have hbt:(ys.getD 3 0 !=0)=true:=by simpa using hb
    refine ⟨by show (SE.lvar 0).val _=_;rw [e0],by show gi1.val _=_;rw [eg],q,by show (dec ((SE.lvar 1).val _)).length=_;rw [e1];exact h.l,by show (dec ((SE.lvar 2).val _)).length≤_;rw [e2];exact h.s,?_,fun q'=> ?_⟩
    ·show (SE.bvar 3).val _≠0↔_
     rw [e3,hbt]
     refine ⟨fun _=> ?_,fun _=>by decide⟩
     rcases h.b.1 hb with q' |q'
     ·exact .inl q'
     ·have hmul:8 * fs.length * (i+1)=8 * fs.length * i+8 * fs.length:=by rw [Nat.mul_add];omega
      exact .inr (by omega)
    ·exfalso
     have q':(SE.bvar 3).val (qaa F ys)=0:=q'
     rw [e3,hbt] at q';cases q'
  ·rw [decide_eq_false q,cond_false] at hz;cases hz
 ·intro e zs hz
  unfold gpT at hz
  simp only [RT.get,c,e4] at hz
  by_cases q:i<(dec x0).length
  ·exfalso
   rw [decide_eq_true q,cond_true] at hz
   cases hb:(!(ys.getD 3 0 !=0)) with
   |false=>rw [hb,cond_false] at hz;cases hz
   |true=>
    rw [hb,cond_true] at hz
    obtain ⟨t1,t2⟩:=qoa (F:=F) h.ix (by omega) hs2 fs (.lvar 1) 0 (by omega) (by omega)
    rw [Nat.zero_add] at t1 t2
    by_cases hl:8 * fs.length≤(dec (ys.getD 2 0)).length
    ·rw [t1 hl] at hz;cases hz
    ·obtain ⟨l',j,t3,_⟩:=t2 (by omega)
     rw [t3] at hz;cases hz
  ·rw [decide_eq_false q,cond_false] at hz
   cases hz
   exact ⟨rfl,by omega,by simp only [List.map,e0,e1,e2,e3]⟩
end
section
variable {F:Nat→List Int→List Int} {fs:List (Bool×Nat)} {xs:List Int} (hN:(dec (xs.getD 0 0)).length≤1000) (hS:(dec (xs.getD 1 0)).length≤1000000) (hm:fs.length≤100)
theorem q9k:gpJ fs (xs.getD 0 0) (xs.getD 1 0) (xs.getD 2 0) 0 (gpI.map (SE.val (qaa F xs))):=by
 have e0:(SE.lvar 0).val (qaa F xs)=xs.getD 0 0:=lvar_at
 have e1:(SE.lvar 1).val (qaa F xs)=xs.getD 1 0:=lvar_at
 have e2:(SE.bvar 2).val (qaa F xs)=b2i (xs.getD 2 0 !=0):=by simp only [SE.val];rfl
 have e3:(SE.lit .i64 0).val (qaa F xs)=0:=by simp only [SE.val];rfl
 simp only [gpI,List.map,e0,e1,e2,e3]
 refine ⟨rfl,rfl,Nat.zero_le _,rfl,Nat.le_refl _,?_,fun _=>⟨by simp,fun j=>by simp⟩⟩
 show b2i (xs.getD 2 0 !=0)≠0↔_
 cases hb:(xs.getD 2 0 !=0) with
 |true=>exact ⟨fun _=> .inl (by simpa using hb),fun _=>by decide⟩
 |false=>exact ⟨fun q=>absurd rfl q,fun q=>by
   rcases q with q |q
   ·exact absurd (by simpa using hb) q
   ·simp at q⟩
include hN hS hm
theorem qvd:qdn (fun _=>gpT fs) F 0 (gpU xs) (gpI.map (SE.val (qaa F xs))):=
 qi5 (gpJ fs (xs.getD 0 0) (xs.getD 1 0) (xs.getD 2 0)) (dec (xs.getD 0 0)).length (fun i ys _ hj=>(qj1 hN hS hm hj).1) (fun i ys zs hi hj hy=>(qj1 hN hS hm hj).2.1 zs hy) _ 0 0 _ (by unfold gpU;omega) (by unfold gpU;omega) q9k
end
def gq (k:Nat):SE:= .cmp .lss (.len (zk k)) (.lit .i64 8)
def gds (B:List (SE×Bool)):Nat→List (SE×Bool)
 |0=>B
 |k+1=>(gq k,false)::gds B k
def gEq:SE:= .cmp .eql (.lit .i64 1) (.lit .i64 1)
def gc0:SE:= .cmp .lss (.ivar .i64 4) (.len (.lvar 0))
def gpB:List (SE×Bool):=[(.cmp .leq (.len (.lvar 2)) (.lit .i64 1000000),true),(.cmp .lss (.ivar .i64 4) (.len (.lvar 1)),true),(.cmp .geq (.ivar .i64 4) (.lit .i64 0),true),(.not (.bvar 3),true),(gc0,true)]
section
variable {b:Cfg} {Tb:List Ent} {d f n:Nat} {a:Code} {S S':List (Nat×V)} {M F:MB} {nx:Nat} {outs:List Out} {kk:List Nat} {B:List (SE×Bool)}
theorem qh_:∀(r:List (Bool×Nat)) (l:SE) (k:Nat),
  (∀j,j<r.length→qak b Tb d f n a S M F nx S' outs kk (.next [.lvar 0,qdf (qcy l k (r.take j)) (r.drop j),zk (k+j),gEq,gi1]) ((gq (k+j),true)::gds B (k+j))=true)→
  qak b Tb d f n a S M F nx S' outs kk (.next [.lvar 0,qcy l k r,zk (k+r.length),.bvar 3,gi1]) (gds B (k+r.length))=true→qak b Tb d f n a S M F nx S' outs kk (qjb l k r) (gds B k)=true
 |[],l,k,_,h=>h
 |p::r,l,k,h0,h=>by
  have e:=h0 0 (Nat.succ_pos _)
  have ih:=qh_ r (zhb l p k) (k+1) (fun j hj=>by
   have:=h0 (j+1) (by simpa using hj)
   rw [show k+1+j=k+(j+1) by omega]
   exact this) (by
   rw [show k+1+r.length=k+(p::r).length by simp;omega]
   exact h)
  have e2:qak b Tb d f n a S M F nx S' outs kk (qjb l k (p::r)) (gds B k)=(qea (gq k)&&(qak b Tb d f n a S M F nx S' outs kk (.next [.lvar 0,qdf l (p::r),zk k,gEq,gi1]) ((gq k,true)::gds B k)&&qak b Tb d f n a S M F nx S' outs kk (qjb (zhb l p k) (k+1) r) ((gq k,false)::gds B k))):=rfl
  rw [e2]
  simp only [Bool.and_eq_true]
  exact ⟨rfl,e,ih⟩
theorem qn7 {fs:List (Bool×Nat)} (h0:qak b Tb d f n a S M F nx S' outs kk (.out 0 [.lvar 0,.lvar 1,.lvar 2,.bvar 3]) [(gc0,false)]=true) (h1:qak b Tb d f n a S M F nx S' outs kk (.next [.lvar 0,.lvar 1,.lvar 2,.bvar 3,gi1]) [(.not (.bvar 3),false),(gc0,true)]=true)
  (h2:qak b Tb d f n a S M F nx S' outs kk (qjb (.lvar 1) 0 fs) gpB=true):qak b Tb d f n a S M F nx S' outs kk (gpT fs) []=true:=by
 have e:qak b Tb d f n a S M F nx S' outs kk (gpT fs) []=(qea gc0&&((qea (.not (.bvar 3))&&((qea (.cmp .geq (.ivar .i64 4) (.lit .i64 0))&&(qea (.cmp .lss (.ivar .i64 4) (.len (.lvar 1)))&&(qea (.cmp .leq (.len (.lvar 2)) (.lit .i64 1000000))&&qak b Tb d f n a S M F nx S' outs kk (qjb (.lvar 1) 0 fs) gpB)))&&qak b Tb d f n a S M F nx S' outs kk (.next [.lvar 0,.lvar 1,.lvar 2,.bvar 3,gi1]) [(.not (.bvar 3),false),(gc0,true)]))&&qak b Tb d f n a S M F nx S' outs kk (.out 0 [.lvar 0,.lvar 1,.lvar 2,.bvar 3]) [(gc0,false)])):=rfl
 rw [e]
 simp only [Bool.and_eq_true]
 exact ⟨rfl,⟨rfl,⟨rfl,rfl,rfl,h2⟩,h1⟩,h0⟩
end
theorem qtw {F:Nat→List Int→List Int} {xs:List Int} (h:((SE.cmp .leq (.len (.lvar 0)) (.lit .i64 1000)).val (qaa F xs) !=0)=true):(dec (xs.getD 0 0)).length≤1000:=by
 rw [ze2,qv2,qmr] at h
 have h1:=of_decide_eq_true h
 rw [show IntKind.i64.wrap 1000=1000 from rfl] at h1
 exact qei (by omega) (by unfold maxLen;omega)
end Go.Proofs.YtilkebpcjklmfaaGreat.Own
