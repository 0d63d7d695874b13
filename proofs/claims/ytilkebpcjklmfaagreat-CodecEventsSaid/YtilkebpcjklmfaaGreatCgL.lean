/- Contracts of loops that go through lists: found by program, checked by the kernel. -/
import Derived.Test.YtilkebpcjklmfaaGreatPgA
set_option linter.unusedVariables false
set_option linter.unusedSimpArgs false
namespace Go.Proofs.YtilkebpcjklmfaaGreat.Own
open Go Go.RowKit Go.Proofs
set_option maxRecDepth 100000
set_option maxHeartbeats 40000000
def gbS:List (Nat×V):=[(1,CB),(0,C5),(2,(.one (.fn 57 CJ))),(9,(.one B6)),(8,C0),(7,(.any 7))]
def gbM:MB:=[(0,Jv,54,true),(1,[.nilp,.nils,(.sts C9),BQ,(.opq (.bvar 3))],66,false),Bw]
def gbF:MB:=[]
def gbfs:List (Bool×Nat):=[(false,0),(true,1),(false,2),(true,3),(false,4),(true,5),(false,6),(true,7),(false,8),(true,9),(false,10),(true,11),(false,12),(true,13),(false,14),(true,15),(false,16),(true,17),(false,18),(false,19)]
def gbT:RT:=gpT gbfs
abbrev Bg:SE:=.lit .i64 1000
def gbL:LEnt:={f:=90,id:=1,num:=20101,nx:=3,S:=HJ,M:=[(0,Jt,54,true),(1,[.nilp,.nils,(.sts Ar),BQ,(.opq (.bvar 2))],66,false),Bw],F:=gbF,kk:=[0,1,2],outs:=[{x:=(.exit 0),S:=HK,M:=[(0,Jv,54,true),(1,[.nilp,.nils,(.sts C9),BQ,(.opq (.bvar 3))],66,false),Bw],cv:=mrC}],lv:=[(0,0)],sm:=[1],pre:=[(.cmp .leq AD Bg,true)]}
abbrev CK:List SE:=[Ab,Ab,Ar,(.bvar 2),Aa]
def gbI:List SE:=CK
def gbC:List (Nat×Nat×Option (Option IntKind)):=[(0,0,none)]
def gbn:Nat:=23
noncomputable def gbU:List Int→Nat:=gpU
noncomputable def gbG:(Nat→List Int→List Int)→List Int→List Int:=gpG gbfs
theorem ybh (F:Nat→List Int→List Int) (xs:List Int) (hp:Pre gbL F xs):qdn (fun _=>gbT) F 0 (gbU xs) (gbI.map (SE.val (qaa F xs))):=qvd (fs:=gbfs) (qtw (hp.pre _ (.head _))) (hp.sm 1 (.head _)) (by decide)
theorem gb_k0:qak (bW.loops qgo) qfz 300 gbL.f gbn (qa3 Tryz.prog gbL.f gbL.id) gbS gbM gbL.F gbL.nx gbS gbL.outs gbL.kk (.next [.lvar 0,qdf (qcy (.lvar 1) 0 (gbfs.take 0)) (gbfs.drop 0),zk (0+0),gEq,gi1]) ((gq (0+0),true)::gds gpB (0+0))=true:=by kernel_rfl
theorem gb_k1:qak (bW.loops qgo) qfz 300 gbL.f gbn (qa3 Tryz.prog gbL.f gbL.id) gbS gbM gbL.F gbL.nx gbS gbL.outs gbL.kk (.next [.lvar 0,qdf (qcy (.lvar 1) 0 (gbfs.take 1)) (gbfs.drop 1),zk (0+1),gEq,gi1]) ((gq (0+1),true)::gds gpB (0+1))=true:=by kernel_rfl
theorem gb_k2:qak (bW.loops qgo) qfz 300 gbL.f gbn (qa3 Tryz.prog gbL.f gbL.id) gbS gbM gbL.F gbL.nx gbS gbL.outs gbL.kk (.next [.lvar 0,qdf (qcy (.lvar 1) 0 (gbfs.take 2)) (gbfs.drop 2),zk (0+2),gEq,gi1]) ((gq (0+2),true)::gds gpB (0+2))=true:=by kernel_rfl
theorem gb_k3:qak (bW.loops qgo) qfz 300 gbL.f gbn (qa3 Tryz.prog gbL.f gbL.id) gbS gbM gbL.F gbL.nx gbS gbL.outs gbL.kk (.next [.lvar 0,qdf (qcy (.lvar 1) 0 (gbfs.take 3)) (gbfs.drop 3),zk (0+3),gEq,gi1]) ((gq (0+3),true)::gds gpB (0+3))=true:=by kernel_rfl
theorem gb_k4:qak (bW.loops qgo) qfz 300 gbL.f gbn (qa3 Tryz.prog gbL.f gbL.id) gbS gbM gbL.F gbL.nx gbS gbL.outs gbL.kk (.next [.lvar 0,qdf (qcy (.lvar 1) 0 (gbfs.take 4)) (gbfs.drop 4),zk (0+4),gEq,gi1]) ((gq (0+4),true)::gds gpB (0+4))=true:=by kernel_rfl
theorem gb_k5:qak (bW.loops qgo) qfz 300 gbL.f gbn (qa3 Tryz.prog gbL.f gbL.id) gbS gbM gbL.F gbL.nx gbS gbL.outs gbL.kk (.next [.lvar 0,qdf (qcy (.lvar 1) 0 (gbfs.take 5)) (gbfs.drop 5),zk (0+5),gEq,gi1]) ((gq (0+5),true)::gds gpB (0+5))=true:=by kernel_rfl
theorem gb_k6:qak (bW.loops qgo) qfz 300 gbL.f gbn (qa3 Tryz.prog gbL.f gbL.id) gbS gbM gbL.F gbL.nx gbS gbL.outs gbL.kk (.next [.lvar 0,qdf (qcy (.lvar 1) 0 (gbfs.take 6)) (gbfs.drop 6),zk (0+6),gEq,gi1]) ((gq (0+6),true)::gds gpB (0+6))=true:=by kernel_rfl
theorem gb_k7:qak (bW.loops qgo) qfz 300 gbL.f gbn (qa3 Tryz.prog gbL.f gbL.id) gbS gbM gbL.F gbL.nx gbS gbL.outs gbL.kk (.next [.lvar 0,qdf (qcy (.lvar 1) 0 (gbfs.take 7)) (gbfs.drop 7),zk (0+7),gEq,gi1]) ((gq (0+7),true)::gds gpB (0+7))=true:=by kernel_rfl
theorem gb_k8:qak (bW.loops qgo) qfz 300 gbL.f gbn (qa3 Tryz.prog gbL.f gbL.id) gbS gbM gbL.F gbL.nx gbS gbL.outs gbL.kk (.next [.lvar 0,qdf (qcy (.lvar 1) 0 (gbfs.take 8)) (gbfs.drop 8),zk (0+8),gEq,gi1]) ((gq (0+8),true)::gds gpB (0+8))=true:=by kernel_rfl
theorem gb_k9:qak (bW.loops qgo) qfz 300 gbL.f gbn (qa3 Tryz.prog gbL.f gbL.id) gbS gbM gbL.F gbL.nx gbS gbL.outs gbL.kk (.next [.lvar 0,qdf (qcy (.lvar 1) 0 (gbfs.take 9)) (gbfs.drop 9),zk (0+9),gEq,gi1]) ((gq (0+9),true)::gds gpB (0+9))=true:=by kernel_rfl
theorem z7e:qak (bW.loops qgo) qfz 300 gbL.f gbn (qa3 Tryz.prog gbL.f gbL.id) gbS gbM gbL.F gbL.nx gbS gbL.outs gbL.kk (.next [.lvar 0,qdf (qcy (.lvar 1) 0 (gbfs.take 10)) (gbfs.drop 10),zk (0+10),gEq,gi1]) ((gq (0+10),true)::gds gpB (0+10))=true:=by kernel_rfl
theorem z6m:qak (bW.loops qgo) qfz 300 gbL.f gbn (qa3 Tryz.prog gbL.f gbL.id) gbS gbM gbL.F gbL.nx gbS gbL.outs gbL.kk (.next [.lvar 0,qdf (qcy (.lvar 1) 0 (gbfs.take 11)) (gbfs.drop 11),zk (0+11),gEq,gi1]) ((gq (0+11),true)::gds gpB (0+11))=true:=by kernel_rfl
theorem z7d:qak (bW.loops qgo) qfz 300 gbL.f gbn (qa3 Tryz.prog gbL.f gbL.id) gbS gbM gbL.F gbL.nx gbS gbL.outs gbL.kk (.next [.lvar 0,qdf (qcy (.lvar 1) 0 (gbfs.take 12)) (gbfs.drop 12),zk (0+12),gEq,gi1]) ((gq (0+12),true)::gds gpB (0+12))=true:=by kernel_rfl
theorem ygd:qak (bW.loops qgo) qfz 300 gbL.f gbn (qa3 Tryz.prog gbL.f gbL.id) gbS gbM gbL.F gbL.nx gbS gbL.outs gbL.kk (.next [.lvar 0,qdf (qcy (.lvar 1) 0 (gbfs.take 13)) (gbfs.drop 13),zk (0+13),gEq,gi1]) ((gq (0+13),true)::gds gpB (0+13))=true:=by kernel_rfl
theorem yhw:qak (bW.loops qgo) qfz 300 gbL.f gbn (qa3 Tryz.prog gbL.f gbL.id) gbS gbM gbL.F gbL.nx gbS gbL.outs gbL.kk (.next [.lvar 0,qdf (qcy (.lvar 1) 0 (gbfs.take 14)) (gbfs.drop 14),zk (0+14),gEq,gi1]) ((gq (0+14),true)::gds gpB (0+14))=true:=by kernel_rfl
theorem z8s:qak (bW.loops qgo) qfz 300 gbL.f gbn (qa3 Tryz.prog gbL.f gbL.id) gbS gbM gbL.F gbL.nx gbS gbL.outs gbL.kk (.next [.lvar 0,qdf (qcy (.lvar 1) 0 (gbfs.take 15)) (gbfs.drop 15),zk (0+15),gEq,gi1]) ((gq (0+15),true)::gds gpB (0+15))=true:=by kernel_rfl
theorem yha:qak (bW.loops qgo) qfz 300 gbL.f gbn (qa3 Tryz.prog gbL.f gbL.id) gbS gbM gbL.F gbL.nx gbS gbL.outs gbL.kk (.next [.lvar 0,qdf (qcy (.lvar 1) 0 (gbfs.take 16)) (gbfs.drop 16),zk (0+16),gEq,gi1]) ((gq (0+16),true)::gds gpB (0+16))=true:=by kernel_rfl
theorem yaj:qak (bW.loops qgo) qfz 300 gbL.f gbn (qa3 Tryz.prog gbL.f gbL.id) gbS gbM gbL.F gbL.nx gbS gbL.outs gbL.kk (.next [.lvar 0,qdf (qcy (.lvar 1) 0 (gbfs.take 17)) (gbfs.drop 17),zk (0+17),gEq,gi1]) ((gq (0+17),true)::gds gpB (0+17))=true:=by kernel_rfl
theorem yfy:qak (bW.loops qgo) qfz 300 gbL.f gbn (qa3 Tryz.prog gbL.f gbL.id) gbS gbM gbL.F gbL.nx gbS gbL.outs gbL.kk (.next [.lvar 0,qdf (qcy (.lvar 1) 0 (gbfs.take 18)) (gbfs.drop 18),zk (0+18),gEq,gi1]) ((gq (0+18),true)::gds gpB (0+18))=true:=by kernel_rfl
theorem z4r:qak (bW.loops qgo) qfz 300 gbL.f gbn (qa3 Tryz.prog gbL.f gbL.id) gbS gbM gbL.F gbL.nx gbS gbL.outs gbL.kk (.next [.lvar 0,qdf (qcy (.lvar 1) 0 (gbfs.take 19)) (gbfs.drop 19),zk (0+19),gEq,gi1]) ((gq (0+19),true)::gds gpB (0+19))=true:=by kernel_rfl
theorem gb_kz:qak (bW.loops qgo) qfz 300 gbL.f gbn (qa3 Tryz.prog gbL.f gbL.id) gbS gbM gbL.F gbL.nx gbS gbL.outs gbL.kk (.next [.lvar 0,qcy (.lvar 1) 0 gbfs,zk (0+gbfs.length),.bvar 3,gi1]) (gds gpB (0+gbfs.length))=true:=by kernel_rfl
theorem yfv:qak (bW.loops qgo) qfz 300 gbL.f gbn (qa3 Tryz.prog gbL.f gbL.id) gbS gbM gbL.F gbL.nx gbS gbL.outs gbL.kk gbT []=true:=qn7 (by kernel_rfl) (by kernel_rfl) (qh_ (B:=gpB) gbfs (.lvar 1) 0 (fun j hj=>match j,hj with |0,_=>gb_k0 |1,_=>gb_k1 |2,_=>gb_k2 |3,_=>gb_k3 |4,_=>gb_k4 |5,_=>gb_k5 |6,_=>gb_k6 |7,_=>gb_k7 |8,_=>gb_k8 |9,_=>gb_k9 |10,_=>z7e |11,_=>z6m |12,_=>z7d |13,_=>ygd |14,_=>yhw |15,_=>z8s |16,_=>yha |17,_=>yaj |18,_=>yfy |19,_=>z4r |j+20,hj=>absurd hj (by simp [gbfs])) gb_kz)
theorem gb_ok:LCT Tryz.prog gbL (FT qfz) (gbG (FT qfz)):=
 qc8 (b:=bW.loops qgo) (Tb:=qfz) (y:=gbL) (M:=gbM) (T:=fun _=>gbT) (S:=fun _=>gbS) (init:=gbI) (qag qbi _) (qbj zpw) zow (d:=300) (n:=gbn) (by kernel_rfl) (by kernel_rfl) (by kernel_rfl) (by kernel_rfl) (fun _ _ _=>yfv) (fun xs hp=>ybh _ xs hp)
theorem z9c (F:Nat→List Int→List Int):Cst gbL (gbG F):=qdh gbC (by kernel_rfl) (fun _ _ _=>by kernel_rfl)
noncomputable def qfr:List Ent:=⟨20101,[],.tup [],gbG,true⟩::qfz
def qhc:List LEnt:=gbL::qgo
theorem q0u:qcd Tryz.prog qfr:=qbw zow rfl (by kernel_rfl)
theorem q01:LBs Tryz.prog qhc qfr:=qbl (y:=gbL) zpw (by kernel_rfl) (by kernel_rfl) (by kernel_rfl) gb_ok (z9c _)
def gtS:List (Nat×V):=[(1,CB),(0,C5),(2,(.one (.fn 60 CJ))),(9,(.one B6)),(8,C0),(7,(.any 7))]
def gtM:MB:=[(0,[(.big Ar BZ)],70,true),(1,[.nilp,.nils,(.sts C9),BQ,(.opq (.bvar 3))],66,false),Bw]
def gtF:MB:=[]
def gtfs:List (Bool×Nat):=[(false,0),(false,1),(false,2),(true,3),(false,4),(true,5)]
def gtT:RT:=gpT gtfs
def gtL:LEnt:={f:=91,id:=1,num:=20102,nx:=3,S:=HL,M:=[(0,[(.big Ab BZ)],70,true),(1,[.nilp,.nils,(.sts Ar),BQ,(.opq (.bvar 2))],66,false),Bw],F:=gtF,kk:=[0,1,2],outs:=[{x:=(.exit 0),S:=HM,M:=[(0,[(.big Ar BZ)],70,true),(1,[.nilp,.nils,(.sts C9),BQ,(.opq (.bvar 3))],66,false),Bw],cv:=mrC}],lv:=[(0,0)],sm:=[1],pre:=[(.cmp .leq AD Bg,true)]}
def gtI:List SE:=CK
def gtC:List (Nat×Nat×Option (Option IntKind)):=[(0,0,none)]
def gtn:Nat:=23
noncomputable def gtU:List Int→Nat:=gpU
noncomputable def gtG:(Nat→List Int→List Int)→List Int→List Int:=gpG gtfs
theorem yg0 (F:Nat→List Int→List Int) (xs:List Int) (hp:Pre gtL F xs):qdn (fun _=>gtT) F 0 (gtU xs) (gtI.map (SE.val (qaa F xs))):=qvd (fs:=gtfs) (qtw (hp.pre _ (.head _))) (hp.sm 1 (.head _)) (by decide)
theorem gt_k0:qak (bW.loops qhc) qfr 300 gtL.f gtn (qa3 Tryz.prog gtL.f gtL.id) gtS gtM gtL.F gtL.nx gtS gtL.outs gtL.kk (.next [.lvar 0,qdf (qcy (.lvar 1) 0 (gtfs.take 0)) (gtfs.drop 0),zk (0+0),gEq,gi1]) ((gq (0+0),true)::gds gpB (0+0))=true:=by kernel_rfl
theorem gt_k1:qak (bW.loops qhc) qfr 300 gtL.f gtn (qa3 Tryz.prog gtL.f gtL.id) gtS gtM gtL.F gtL.nx gtS gtL.outs gtL.kk (.next [.lvar 0,qdf (qcy (.lvar 1) 0 (gtfs.take 1)) (gtfs.drop 1),zk (0+1),gEq,gi1]) ((gq (0+1),true)::gds gpB (0+1))=true:=by kernel_rfl
theorem gt_k2:qak (bW.loops qhc) qfr 300 gtL.f gtn (qa3 Tryz.prog gtL.f gtL.id) gtS gtM gtL.F gtL.nx gtS gtL.outs gtL.kk (.next [.lvar 0,qdf (qcy (.lvar 1) 0 (gtfs.take 2)) (gtfs.drop 2),zk (0+2),gEq,gi1]) ((gq (0+2),true)::gds gpB (0+2))=true:=by kernel_rfl
theorem gt_k3:qak (bW.loops qhc) qfr 300 gtL.f gtn (qa3 Tryz.prog gtL.f gtL.id) gtS gtM gtL.F gtL.nx gtS gtL.outs gtL.kk (.next [.lvar 0,qdf (qcy (.lvar 1) 0 (gtfs.take 3)) (gtfs.drop 3),zk (0+3),gEq,gi1]) ((gq (0+3),true)::gds gpB (0+3))=true:=by kernel_rfl
theorem gt_k4:qak (bW.loops qhc) qfr 300 gtL.f gtn (qa3 Tryz.prog gtL.f gtL.id) gtS gtM gtL.F gtL.nx gtS gtL.outs gtL.kk (.next [.lvar 0,qdf (qcy (.lvar 1) 0 (gtfs.take 4)) (gtfs.drop 4),zk (0+4),gEq,gi1]) ((gq (0+4),true)::gds gpB (0+4))=true:=by kernel_rfl
theorem gt_k5:qak (bW.loops qhc) qfr 300 gtL.f gtn (qa3 Tryz.prog gtL.f gtL.id) gtS gtM gtL.F gtL.nx gtS gtL.outs gtL.kk (.next [.lvar 0,qdf (qcy (.lvar 1) 0 (gtfs.take 5)) (gtfs.drop 5),zk (0+5),gEq,gi1]) ((gq (0+5),true)::gds gpB (0+5))=true:=by kernel_rfl
theorem gt_kz:qak (bW.loops qhc) qfr 300 gtL.f gtn (qa3 Tryz.prog gtL.f gtL.id) gtS gtM gtL.F gtL.nx gtS gtL.outs gtL.kk (.next [.lvar 0,qcy (.lvar 1) 0 gtfs,zk (0+gtfs.length),.bvar 3,gi1]) (gds gpB (0+gtfs.length))=true:=by kernel_rfl
theorem ye4:qak (bW.loops qhc) qfr 300 gtL.f gtn (qa3 Tryz.prog gtL.f gtL.id) gtS gtM gtL.F gtL.nx gtS gtL.outs gtL.kk gtT []=true:=qn7 (by kernel_rfl) (by kernel_rfl) (qh_ (B:=gpB) gtfs (.lvar 1) 0 (fun j hj=>match j,hj with |0,_=>gt_k0 |1,_=>gt_k1 |2,_=>gt_k2 |3,_=>gt_k3 |4,_=>gt_k4 |5,_=>gt_k5 |j+6,hj=>absurd hj (by simp [gtfs])) gt_kz)
theorem gt_ok:LCT Tryz.prog gtL (FT qfr) (gtG (FT qfr)):=
 qc8 (b:=bW.loops qhc) (Tb:=qfr) (y:=gtL) (M:=gtM) (T:=fun _=>gtT) (S:=fun _=>gtS) (init:=gtI) (qag qbi _) (qbj q01) q0u (d:=300) (n:=gtn) (by kernel_rfl) (by kernel_rfl) (by kernel_rfl) (by kernel_rfl) (fun _ _ _=>ye4) (fun xs hp=>yg0 _ xs hp)
theorem z8l (F:Nat→List Int→List Int):Cst gtL (gtG F):=qdh gtC (by kernel_rfl) (fun _ _ _=>by kernel_rfl)
noncomputable def qd2:List Ent:=⟨20102,[],.tup [],gtG,true⟩::qfr
def qfh:List LEnt:=gtL::qhc
theorem q1l:qcd Tryz.prog qd2:=qbw q0u rfl (by kernel_rfl)
theorem q4a:LBs Tryz.prog qfh qd2:=qbl (y:=gtL) q01 (by kernel_rfl) (by kernel_rfl) (by kernel_rfl) gt_ok (z8l _)
def grS:List (Nat×V):=[(1,CB),(0,C5),(2,(.one (.fn 62 CJ))),(9,(.one B6)),(8,C0),(7,(.any 7))]
def grM:MB:=[(0,[(.big Ar BX)],72,true),(1,[.nilp,.nils,(.sts C9),BQ,(.opq (.bvar 3))],66,false),Bw]
def grF:MB:=[]
def grfs:List (Bool×Nat):=[(false,0),(false,1),(true,2),(false,3),(true,4),(false,5),(false,6),(false,7),(false,8),(true,9)]
def grT:RT:=gpT grfs
def grL:LEnt:={f:=92,id:=1,num:=20103,nx:=3,S:=HN,M:=[(0,Js,72,true),(1,[.nilp,.nils,(.sts Ar),BQ,(.opq (.bvar 2))],66,false),Bw],F:=grF,kk:=[0,1,2],outs:=[{x:=(.exit 0),S:=HO,M:=[(0,[(.big Ar BX)],72,true),(1,[.nilp,.nils,(.sts C9),BQ,(.opq (.bvar 3))],66,false),Bw],cv:=mrC}],lv:=[(0,0)],sm:=[1],pre:=[(.cmp .leq AD Bg,true)]}
def grI:List SE:=CK
def grC:List (Nat×Nat×Option (Option IntKind)):=[(0,0,none)]
def grn:Nat:=23
noncomputable def grU:List Int→Nat:=gpU
noncomputable def grG:(Nat→List Int→List Int)→List Int→List Int:=gpG grfs
theorem ycp (F:Nat→List Int→List Int) (xs:List Int) (hp:Pre grL F xs):qdn (fun _=>grT) F 0 (grU xs) (grI.map (SE.val (qaa F xs))):=qvd (fs:=grfs) (qtw (hp.pre _ (.head _))) (hp.sm 1 (.head _)) (by decide)
theorem gr_k0:qak (bW.loops qfh) qd2 300 grL.f grn (qa3 Tryz.prog grL.f grL.id) grS grM grL.F grL.nx grS grL.outs grL.kk (.next [.lvar 0,qdf (qcy (.lvar 1) 0 (grfs.take 0)) (grfs.drop 0),zk (0+0),gEq,gi1]) ((gq (0+0),true)::gds gpB (0+0))=true:=by kernel_rfl
theorem gr_k1:qak (bW.loops qfh) qd2 300 grL.f grn (qa3 Tryz.prog grL.f grL.id) grS grM grL.F grL.nx grS grL.outs grL.kk (.next [.lvar 0,qdf (qcy (.lvar 1) 0 (grfs.take 1)) (grfs.drop 1),zk (0+1),gEq,gi1]) ((gq (0+1),true)::gds gpB (0+1))=true:=by kernel_rfl
theorem gr_k2:qak (bW.loops qfh) qd2 300 grL.f grn (qa3 Tryz.prog grL.f grL.id) grS grM grL.F grL.nx grS grL.outs grL.kk (.next [.lvar 0,qdf (qcy (.lvar 1) 0 (grfs.take 2)) (grfs.drop 2),zk (0+2),gEq,gi1]) ((gq (0+2),true)::gds gpB (0+2))=true:=by kernel_rfl
theorem gr_k3:qak (bW.loops qfh) qd2 300 grL.f grn (qa3 Tryz.prog grL.f grL.id) grS grM grL.F grL.nx grS grL.outs grL.kk (.next [.lvar 0,qdf (qcy (.lvar 1) 0 (grfs.take 3)) (grfs.drop 3),zk (0+3),gEq,gi1]) ((gq (0+3),true)::gds gpB (0+3))=true:=by kernel_rfl
theorem gr_k4:qak (bW.loops qfh) qd2 300 grL.f grn (qa3 Tryz.prog grL.f grL.id) grS grM grL.F grL.nx grS grL.outs grL.kk (.next [.lvar 0,qdf (qcy (.lvar 1) 0 (grfs.take 4)) (grfs.drop 4),zk (0+4),gEq,gi1]) ((gq (0+4),true)::gds gpB (0+4))=true:=by kernel_rfl
theorem gr_k5:qak (bW.loops qfh) qd2 300 grL.f grn (qa3 Tryz.prog grL.f grL.id) grS grM grL.F grL.nx grS grL.outs grL.kk (.next [.lvar 0,qdf (qcy (.lvar 1) 0 (grfs.take 5)) (grfs.drop 5),zk (0+5),gEq,gi1]) ((gq (0+5),true)::gds gpB (0+5))=true:=by kernel_rfl
theorem gr_k6:qak (bW.loops qfh) qd2 300 grL.f grn (qa3 Tryz.prog grL.f grL.id) grS grM grL.F grL.nx grS grL.outs grL.kk (.next [.lvar 0,qdf (qcy (.lvar 1) 0 (grfs.take 6)) (grfs.drop 6),zk (0+6),gEq,gi1]) ((gq (0+6),true)::gds gpB (0+6))=true:=by kernel_rfl
theorem gr_k7:qak (bW.loops qfh) qd2 300 grL.f grn (qa3 Tryz.prog grL.f grL.id) grS grM grL.F grL.nx grS grL.outs grL.kk (.next [.lvar 0,qdf (qcy (.lvar 1) 0 (grfs.take 7)) (grfs.drop 7),zk (0+7),gEq,gi1]) ((gq (0+7),true)::gds gpB (0+7))=true:=by kernel_rfl
theorem gr_k8:qak (bW.loops qfh) qd2 300 grL.f grn (qa3 Tryz.prog grL.f grL.id) grS grM grL.F grL.nx grS grL.outs grL.kk (.next [.lvar 0,qdf (qcy (.lvar 1) 0 (grfs.take 8)) (grfs.drop 8),zk (0+8),gEq,gi1]) ((gq (0+8),true)::gds gpB (0+8))=true:=by kernel_rfl
theorem gr_k9:qak (bW.loops qfh) qd2 300 grL.f grn (qa3 Tryz.prog grL.f grL.id) grS grM grL.F grL.nx grS grL.outs grL.kk (.next [.lvar 0,qdf (qcy (.lvar 1) 0 (grfs.take 9)) (grfs.drop 9),zk (0+9),gEq,gi1]) ((gq (0+9),true)::gds gpB (0+9))=true:=by kernel_rfl
theorem gr_kz:qak (bW.loops qfh) qd2 300 grL.f grn (qa3 Tryz.prog grL.f grL.id) grS grM grL.F grL.nx grS grL.outs grL.kk (.next [.lvar 0,qcy (.lvar 1) 0 grfs,zk (0+grfs.length),.bvar 3,gi1]) (gds gpB (0+grfs.length))=true:=by kernel_rfl
theorem z7k:qak (bW.loops qfh) qd2 300 grL.f grn (qa3 Tryz.prog grL.f grL.id) grS grM grL.F grL.nx grS grL.outs grL.kk grT []=true:=qn7 (by kernel_rfl) (by kernel_rfl) (qh_ (B:=gpB) grfs (.lvar 1) 0 (fun j hj=>match j,hj with |0,_=>gr_k0 |1,_=>gr_k1 |2,_=>gr_k2 |3,_=>gr_k3 |4,_=>gr_k4 |5,_=>gr_k5 |6,_=>gr_k6 |7,_=>gr_k7 |8,_=>gr_k8 |9,_=>gr_k9 |j+10,hj=>absurd hj (by simp [grfs])) gr_kz)
theorem gr_ok:LCT Tryz.prog grL (FT qd2) (grG (FT qd2)):=
 qc8 (b:=bW.loops qfh) (Tb:=qd2) (y:=grL) (M:=grM) (T:=fun _=>grT) (S:=fun _=>grS) (init:=grI) (qag qbi _) (qbj q4a) q1l (d:=300) (n:=grn) (by kernel_rfl) (by kernel_rfl) (by kernel_rfl) (by kernel_rfl) (fun _ _ _=>z7k) (fun xs hp=>ycp _ xs hp)
theorem yfa (F:Nat→List Int→List Int):Cst grL (grG F):=qdh grC (by kernel_rfl) (fun _ _ _=>by kernel_rfl)
noncomputable def qhu:List Ent:=⟨20103,[],.tup [],grG,true⟩::qd2
def qmn:List LEnt:=grL::qfh
theorem q4g:qcd Tryz.prog qhu:=qbw q1l rfl (by kernel_rfl)
theorem qy5:LBs Tryz.prog qmn qhu:=qbl (y:=grL) q4a (by kernel_rfl) (by kernel_rfl) (by kernel_rfl) gr_ok (yfa _)
def gaS:List (Nat×V):=[(1,CB),(0,C5),(2,(.one (.fn 64 CJ))),(9,(.one B6)),(8,C0),(7,(.any 7))]
def gaM:MB:=[(0,[(.big Ar BM)],3,true),(1,[.nilp,.nils,(.sts C9),BQ,(.opq (.bvar 3))],66,false),Bw]
def gaF:MB:=[]
def gafs:List (Bool×Nat):=[(false,0)]
def gaT:RT:=gpT gafs
def gaL:LEnt:={f:=63,id:=1,num:=20104,nx:=3,S:=HP,M:=[(0,[(.big Ab BM)],3,true),(1,[.nilp,.nils,(.sts Ar),BQ,(.opq (.bvar 2))],66,false),Bw],F:=gaF,kk:=[0,1,2],outs:=[{x:=(.exit 0),S:=HQ,M:=[(0,[(.big Ar BM)],3,true),(1,[.nilp,.nils,(.sts C9),BQ,(.opq (.bvar 3))],66,false),Bw],cv:=mrC}],lv:=[(0,0)],sm:=[1],pre:=[(.cmp .leq AD Bg,true)]}
def gaI:List SE:=CK
def gaC:List (Nat×Nat×Option (Option IntKind)):=[(0,0,none)]
def gan:Nat:=23
noncomputable def gaU:List Int→Nat:=gpU
noncomputable def gaG:(Nat→List Int→List Int)→List Int→List Int:=gpG gafs
theorem yei (F:Nat→List Int→List Int) (xs:List Int) (hp:Pre gaL F xs):qdn (fun _=>gaT) F 0 (gaU xs) (gaI.map (SE.val (qaa F xs))):=qvd (fs:=gafs) (qtw (hp.pre _ (.head _))) (hp.sm 1 (.head _)) (by decide)
theorem ga_k0:qak (bW.loops qmn) qhu 300 gaL.f gan (qa3 Tryz.prog gaL.f gaL.id) gaS gaM gaL.F gaL.nx gaS gaL.outs gaL.kk (.next [.lvar 0,qdf (qcy (.lvar 1) 0 (gafs.take 0)) (gafs.drop 0),zk (0+0),gEq,gi1]) ((gq (0+0),true)::gds gpB (0+0))=true:=by kernel_rfl
theorem ga_kz:qak (bW.loops qmn) qhu 300 gaL.f gan (qa3 Tryz.prog gaL.f gaL.id) gaS gaM gaL.F gaL.nx gaS gaL.outs gaL.kk (.next [.lvar 0,qcy (.lvar 1) 0 gafs,zk (0+gafs.length),.bvar 3,gi1]) (gds gpB (0+gafs.length))=true:=by kernel_rfl
theorem ybm:qak (bW.loops qmn) qhu 300 gaL.f gan (qa3 Tryz.prog gaL.f gaL.id) gaS gaM gaL.F gaL.nx gaS gaL.outs gaL.kk gaT []=true:=qn7 (by kernel_rfl) (by kernel_rfl) (qh_ (B:=gpB) gafs (.lvar 1) 0 (fun j hj=>match j,hj with |0,_=>ga_k0 |j+1,hj=>absurd hj (by simp [gafs])) ga_kz)
theorem ga_ok:LCT Tryz.prog gaL (FT qhu) (gaG (FT qhu)):=
 qc8 (b:=bW.loops qmn) (Tb:=qhu) (y:=gaL) (M:=gaM) (T:=fun _=>gaT) (S:=fun _=>gaS) (init:=gaI) (qag qbi _) (qbj qy5) q4g (d:=300) (n:=gan) (by kernel_rfl) (by kernel_rfl) (by kernel_rfl) (by kernel_rfl) (fun _ _ _=>ybm) (fun xs hp=>yei _ xs hp)
theorem yag (F:Nat→List Int→List Int):Cst gaL (gaG F):=qdh gaC (by kernel_rfl) (fun _ _ _=>by kernel_rfl)
noncomputable def qga:List Ent:=⟨20104,[],.tup [],gaG,true⟩::qhu
def qij:List LEnt:=gaL::qmn
theorem qyv:qcd Tryz.prog qga:=qbw q4g rfl (by kernel_rfl)
theorem q1f:LBs Tryz.prog qij qga:=qbl (y:=gaL) qy5 (by kernel_rfl) (by kernel_rfl) (by kernel_rfl) ga_ok (yag _)
def geS:List (Nat×V):=[(1,CB),(0,C5),(2,(.one (.fn 66 CJ))),(9,(.one B6)),(8,C0),(7,(.any 7))]
def geM:MB:=[(0,[(.big Ar B3)],38,true),(1,[.nilp,.nils,(.sts C9),BQ,(.opq (.bvar 3))],66,false),Bw]
def geF:MB:=[]
def gefs:List (Bool×Nat):=[(false,0),(false,1),(false,2),(false,3)]
def geT:RT:=gpT gefs
def geL:LEnt:={f:=93,id:=1,num:=20105,nx:=3,S:=HR,M:=[(0,[(.big Ab B3)],38,true),(1,[.nilp,.nils,(.sts Ar),BQ,(.opq (.bvar 2))],66,false),Bw],F:=geF,kk:=[0,1,2],outs:=[{x:=(.exit 0),S:=HS,M:=[(0,[(.big Ar B3)],38,true),(1,[.nilp,.nils,(.sts C9),BQ,(.opq (.bvar 3))],66,false),Bw],cv:=mrC}],lv:=[(0,0)],sm:=[1],pre:=[(.cmp .leq AD Bg,true)]}
def geI:List SE:=CK
def geC:List (Nat×Nat×Option (Option IntKind)):=[(0,0,none)]
def gen:Nat:=23
noncomputable def geU:List Int→Nat:=gpU
noncomputable def geG:(Nat→List Int→List Int)→List Int→List Int:=gpG gefs
theorem z7j (F:Nat→List Int→List Int) (xs:List Int) (hp:Pre geL F xs):qdn (fun _=>geT) F 0 (geU xs) (geI.map (SE.val (qaa F xs))):=qvd (fs:=gefs) (qtw (hp.pre _ (.head _))) (hp.sm 1 (.head _)) (by decide)
theorem ge_k0:qak (bW.loops qij) qga 300 geL.f gen (qa3 Tryz.prog geL.f geL.id) geS geM geL.F geL.nx geS geL.outs geL.kk (.next [.lvar 0,qdf (qcy (.lvar 1) 0 (gefs.take 0)) (gefs.drop 0),zk (0+0),gEq,gi1]) ((gq (0+0),true)::gds gpB (0+0))=true:=by kernel_rfl
theorem ge_k1:qak (bW.loops qij) qga 300 geL.f gen (qa3 Tryz.prog geL.f geL.id) geS geM geL.F geL.nx geS geL.outs geL.kk (.next [.lvar 0,qdf (qcy (.lvar 1) 0 (gefs.take 1)) (gefs.drop 1),zk (0+1),gEq,gi1]) ((gq (0+1),true)::gds gpB (0+1))=true:=by kernel_rfl
theorem ge_k2:qak (bW.loops qij) qga 300 geL.f gen (qa3 Tryz.prog geL.f geL.id) geS geM geL.F geL.nx geS geL.outs geL.kk (.next [.lvar 0,qdf (qcy (.lvar 1) 0 (gefs.take 2)) (gefs.drop 2),zk (0+2),gEq,gi1]) ((gq (0+2),true)::gds gpB (0+2))=true:=by kernel_rfl
theorem ge_k3:qak (bW.loops qij) qga 300 geL.f gen (qa3 Tryz.prog geL.f geL.id) geS geM geL.F geL.nx geS geL.outs geL.kk (.next [.lvar 0,qdf (qcy (.lvar 1) 0 (gefs.take 3)) (gefs.drop 3),zk (0+3),gEq,gi1]) ((gq (0+3),true)::gds gpB (0+3))=true:=by kernel_rfl
theorem ge_kz:qak (bW.loops qij) qga 300 geL.f gen (qa3 Tryz.prog geL.f geL.id) geS geM geL.F geL.nx geS geL.outs geL.kk (.next [.lvar 0,qcy (.lvar 1) 0 gefs,zk (0+gefs.length),.bvar 3,gi1]) (gds gpB (0+gefs.length))=true:=by kernel_rfl
theorem z56:qak (bW.loops qij) qga 300 geL.f gen (qa3 Tryz.prog geL.f geL.id) geS geM geL.F geL.nx geS geL.outs geL.kk geT []=true:=qn7 (by kernel_rfl) (by kernel_rfl) (qh_ (B:=gpB) gefs (.lvar 1) 0 (fun j hj=>match j,hj with |0,_=>ge_k0 |1,_=>ge_k1 |2,_=>ge_k2 |3,_=>ge_k3 |j+4,hj=>absurd hj (by simp [gefs])) ge_kz)
theorem ge_ok:LCT Tryz.prog geL (FT qga) (geG (FT qga)):=
 qc8 (b:=bW.loops qij) (Tb:=qga) (y:=geL) (M:=geM) (T:=fun _=>geT) (S:=fun _=>geS) (init:=geI) (qag qbi _) (qbj q1f) qyv (d:=300) (n:=gen) (by kernel_rfl) (by kernel_rfl) (by kernel_rfl) (by kernel_rfl) (fun _ _ _=>z56) (fun xs hp=>z7j _ xs hp)
theorem z8b (F:Nat→List Int→List Int):Cst geL (geG F):=qdh geC (by kernel_rfl) (fun _ _ _=>by kernel_rfl)
noncomputable def qxa:List Ent:=⟨20105,[],.tup [],geG,true⟩::qga
def zdf:List LEnt:=geL::qij
theorem zid:qcd Tryz.prog qxa:=qbw qyv rfl (by kernel_rfl)
theorem zj2:LBs Tryz.prog zdf qxa:=qbl (y:=geL) q1f (by kernel_rfl) (by kernel_rfl) (by kernel_rfl) ge_ok (z8b _)
noncomputable def qg3:List Ent:=qxa
def zmf:List LEnt:=zdf
theorem zoj:qcd Tryz.prog qg3:=zid
theorem zot:LBs Tryz.prog zmf qg3:=zj2
end Go.Proofs.YtilkebpcjklmfaaGreat.Own
