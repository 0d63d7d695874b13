/- Contracts of loops that go through lists: found by program, checked by the kernel. Loops that hold two lists against one another: they may be run. Contracts of loops that go through lists: found by program, checked by the kernel. A walk by reckoning: contracts of functions that read lists or turn blocks; what they take and what they hand back are patterns. Small things for texts of contracts of functions. Contracts of functions: found by program, checked by the kernel. strings.Builder: its string, as a contract of a function: the buffer is a list that is not empty. The Builder's string joins the contracts of functions. Trees of contracts: what is held known in them, by a list of reasons. Loops of codec.each that get: behind what is bad less than a word is left. A world made: what is known. A world turned: loops that search. -/
import Derived.Test.YtilkebpcjklmfaaGreatCgL
set_option linter.unusedVariables false
set_option linter.unusedSimpArgs false
set_option linter.unusedSectionVars false
namespace Go.Proofs.YtilkebpcjklmfaaGreat.Own
open Go Go.RowKit Go.Proofs
set_option maxRecDepth 100000
set_option maxHeartbeats 40000000
abbrev Aj:SE:=.ivar .i64 24
abbrev Em:C:=.opq Aj
abbrev Da:V:=.one Em
abbrev Ag:SE:=.lvar 13
abbrev Bn:SE:=.len Ag
def q1S:List (Nat×V):=[(1,D9),(2,CW),(4,Da),(3,(.one (.opq Bn))),(0,(.any 0)),(11,(.any 11)),(12,(.any 12)),(13,(.any 13))]
abbrev AN:SE:=.ivar .u64 6
abbrev En:C:=.opq AN
abbrev Eo:C:=.opq AK
abbrev AO:SE:=.ivar .u64 8
abbrev Ep:C:=.opq AO
abbrev AP:SE:=.ivar .u64 10
abbrev Er:C:=.opq AP
abbrev Es:C:=.opq AH
abbrev Au:SE:=.lvar 14
abbrev Ao:SE:=.lvar 15
abbrev AF:SE:=.lvar 16
abbrev AQ:SE:=.ivar .i64 17
abbrev Et:C:=.opq AQ
abbrev AR:SE:=.ivar .u64 18
abbrev Eu:C:=.opq AR
abbrev Ev:C:=.opq AJ
abbrev AS:SE:=.ivar .u64 20
abbrev Ew:C:=.opq AS
abbrev AU:SE:=.ivar .i64 21
abbrev Ey:C:=.opq AU
abbrev AV:SE:=.ivar .u64 22
abbrev Ez:C:=.opq AV
abbrev Ax:SE:=.lvar 23
abbrev Bo:MB:=[(0,[BD,BA,Bc,C2,BE,Bj,En,Eo,Ep,C4,Er,C6,Es,(.sli 1 Ag),(.sli 2 Au),(.sli 3 Ao),(.sli 4 AF),Et,Eu,Ev,Ew,Ey,Ez,(.sli 5 Ax)],35,false)]
def q1M:MB:=Bo
abbrev Jm:List C:=[(.big Ag Bm)]
abbrev Jn:List C:=[(.big Au BZ)]
abbrev Jo:List C:=[(.big Ao BX)]
abbrev Jp:List C:=[(.big AF BM)]
abbrev Jq:List C:=[(.big Ax B3)]
abbrev Jr:MB:=[(1,Jm,54,false),(2,Jn,70,false),(3,Jo,72,false),(4,Jp,3,false),(5,Jq,38,false)]
def q1F:MB:=Jr
abbrev HT:SE:=.cmp .geq Aj Aa
abbrev BO:SE:=.len AF
abbrev BG:SE:=.len Ao
def q1T:RT:=(.ask (.cmp .lss Aj Bn) (.know HT true (.ask (.not (.app 37 0 none (.cons (.el (some .i64) Ag Aj 0) (.cons (.el (some .u64) Ag Aj 1) (.cons (.el (some .i64) Ag Aj 2) (.cons (.el (some .u64) Ag Aj 3) (.cons (.el (some .i64) Ag Aj 4) (.cons (.el (some .u64) Ag Aj 5) (.cons (.el (some .i64) Ag Aj 6) (.cons (.el (some .u64) Ag Aj 7) (.cons (.el (some .i64) Ag Aj 8) (.cons (.el (some .u64) Ag Aj 9) (.cons (.el (some .i64) Ag Aj 10) (.cons (.el (some .u64) Ag Aj 11) (.cons (.el (some .i64) Ag Aj 12) (.cons (.el (some .u64) Ag Aj 13) (.cons (.el (some .i64) Ag Aj 14) (.cons (.el (some .u64) Ag Aj 15) (.cons (.el (some .i64) Ag Aj 16) (.cons (.el (some .u64) Ag Aj 17) (.cons (.el (some .i64) Ag Aj 18) (.cons (.el (some .i64) Ag Aj 19) .nil)))))))))))))))))))))) (.out 0 []) (.know (.cmp .lss Aj BO) true (.ask (.not (.app 17 0 none (.cons (.el (some .i64) AF Aj 0) (.cons Cx (.cons (.bin .sub .i64 BG Aw) .nil))))) (.out 0 []) (.next [Ah,Af,Am,AA,As,Aq,AN,AK,AO,AB,AP,Ay,AH,Ag,Au,Ao,AF,AQ,AR,AJ,AS,AU,AV,Ax,(.bin .add .i64 Aj Aw)]))))) (.out 1 [Ah,Af,Am,AA,As,Aq,AN,AK,AO,AB,AP,Ay,AH,Ag,Au,Ao,AF,AQ,AR,AJ,AS,AU,AV,Ax,Bn]))
abbrev HU:List (Nat×V):=[(1,D9),(0,(.any 0)),(2,CW),(3,Da),(11,(.any 11)),(12,(.any 12)),(13,(.any 13))]
def q1C:List (Nat×Nat×Option (Option IntKind)):=[(0,0,(some (some .i64))),(1,1,(some (some .i64))),(2,2,(some (some .u64))),(3,3,(some (some .i64))),(4,4,(some (some .u64))),(5,5,(some (some .i64))),(6,6,(some (some .u64))),(7,7,(some (some .i64))),(8,8,(some (some .u64))),(9,9,(some (some .i64))),(10,10,(some (some .u64))),(11,11,(some (some .i64))),(12,12,(some (some .i64))),(13,13,none),(14,14,none),(15,15,none),(16,16,none),(17,17,(some (some .i64))),(18,18,(some (some .u64))),(19,19,(some (some .i64))),(20,20,(some (some .u64))),(21,21,(some (some .i64))),(22,22,(some (some .u64))),(23,23,none)]
def q1L:LEnt:={f:=20,id:=3,num:=20011,nx:=6,S:=[(1,D9),(2,CW),(4,Bi),(3,(.one (.opq Bn))),(0,(.any 0)),(11,(.any 11)),(12,(.any 12)),(13,(.any 13))],M:=Bo,F:=q1F,kk:=[0,1,2,3,4,5],outs:=[{x:= .ret,S:=CC,M:=[],cv:=[]},{x:=(.exit 0),S:=HU,M:=Bo,cv:=q1C}],lv:=[(1,13),(2,14),(3,15),(4,16),(5,23)],sm:=[],pre:=[(.cmp .neq BO Bn,false)]}
abbrev HV:List SE:=[Ah,Af,Am,AA,As,Aq,AN,AK,AO,AB,AP,Ay,AH,Ag,Au,Ao,AF,AQ,AR,AJ,AS,AU,AV,Ax,Aa]
def q1I:List SE:=HV
def q1n:Nat:=144
noncomputable def q1U (xs:List Int):Nat:=(dec (xs.getD 13 0)).length+1
noncomputable def q1G:(Nat→List Int→List Int)→List Int→List Int:=qfv q1I (fun _=>q1T) q1U
def q1E:List (SE×Bool):=[(.cmp .lss Aj BO,true)]
def q1J (xs:List Int):Prop:=(dec (xs.getD 16 0)).length=(dec (xs.getD 13 0)).length
theorem zxt (F:Nat→List Int→List Int):∀xs ys,q1J xs→q1T.get (qaa F xs)=(none,ys)→q1J ys:=fun xs ys h hy=>by
 have hB:=(qi8 (hc:=q1C) (outs:=q1L.outs) (F:=F) (xs:=xs) (t:=q1T) (by kernel_rfl)).1 ys hy
 have h1:ys.getD 13 0=xs.getD 13 0:=hB (13,13,none) (by simp [q1C])
 have h2:ys.getD 16 0=xs.getD 16 0:=hB (16,16,none) (by simp [q1C])
 unfold q1J;rw [h1,h2];exact h
theorem znf (F:Nat→List Int→List Int):∀(xs:List Int) (i:Nat),q1J xs→xs.getD 24 0=((i:Nat):Int)→(dec (xs.getD 13 0)).length≤maxLen→i<(dec (xs.getD 13 0)).length→∀q∈q1E,(q.1.val (qaa F xs) !=0)=q.2:=fun xs i hJ hc hl hi q hq=>by
 simp only [q1E,List.mem_singleton] at hq
 subst hq
 have hJ:(dec (xs.getD 16 0)).length=(dec (xs.getD 13 0)).length:=hJ
 rw [qlj (lv:=16) hc (by omega) (by omega)]
 exact decide_eq_true (by omega)
theorem zmc (F:Nat→List Int→List Int) (xs:List Int) (hp:Pre q1L F xs):q1J (q1I.map (SE.val (qaa F xs))):=by
 unfold q1J
 rw [qbq (I:=q1I) (c:=16) (j0:=16) (by kernel_rfl),qbq (I:=q1I) (c:=13) (j0:=13) (by kernel_rfl)]
 have h1:=hp.lv (1,13) (by decide)
 have h2:=hp.lv (4,16) (by decide)
 have h3:=hp.pre _ (by show _∈[((SE.cmp .neq (.len (.lvar 16)) (.len (.lvar 13))),false)];exact .head _)
 have e1:(qaa F xs).iv 16=xs.getD 16 0:=rfl
 have e2:(qaa F xs).iv 13=xs.getD 13 0:=rfl
 simp only [SE.val,qas,qa8,e1,e2] at h3
 have h1:(dec (xs.getD 13 0)).length≤maxLen:=h1
 have h2:(dec (xs.getD 16 0)).length≤maxLen:=h2
 rw [qcz h1,qcz h2] at h3
 have h4:=bne_eq_false_iff_eq.1 h3
 exact Int.ofNat.inj h4
theorem z8d (F:Nat→List Int→List Int) (xs:List Int) (hp:Pre q1L F xs):qdn (fun _=>q1T) F 0 (q1U xs) (q1I.map (SE.val (qaa F xs))):=
 qfc (T:=q1T) (c:=24) (lv:=13) (ex:=q1E) (by kernel_rfl) q1J (zxt F) (znf F) _ 0 0 _ (qg8 (I:=q1I) (by kernel_rfl)) (by rw [qbq (I:=q1I) (j0:=13) (by kernel_rfl)];unfold q1U;omega) (Nat.succ_pos _) (by rw [qbq (I:=q1I) (j0:=13) (by kernel_rfl)];exact hp.lv (1,13) (by decide)) (zmc F xs hp)
theorem ybj:qak (bW.loops zmf) qg3 300 q1L.f q1n (qa3 Tryz.prog q1L.f q1L.id) q1S q1M q1L.F q1L.nx q1S q1L.outs q1L.kk q1T []=true:=by kernel_rfl
theorem q1_ok:LCT Tryz.prog q1L (FT qg3) (q1G (FT qg3)):=
 qc8 (b:=bW.loops zmf) (Tb:=qg3) (y:=q1L) (M:=q1M) (T:=fun _=>q1T) (S:=fun _=>q1S) (init:=q1I) (qag qbi _) (qbj zot) zoj (d:=300) (n:=q1n) (by kernel_rfl) (by kernel_rfl) (by kernel_rfl) (by kernel_rfl) (fun _ _ _=>ybj) (fun xs hp=>z8d _ xs hp)
theorem z9e (F:Nat→List Int→List Int):Cst q1L (q1G F):=qdh q1C (by kernel_rfl) (fun _ _ _=>by kernel_rfl)
noncomputable def qct:List Ent:=⟨20011,[],.tup [],q1G,true⟩::qg3
def qr6:List LEnt:=q1L::zmf
theorem q3y:qcd Tryz.prog qct:=qbw zoj rfl (by kernel_rfl)
theorem q13:LBs Tryz.prog qr6 qct:=qbl (y:=q1L) zot (by kernel_rfl) (by kernel_rfl) (by kernel_rfl) q1_ok (z9e _)
abbrev AM:SE:=.ivar .i64 25
abbrev EA:C:=.opq AM
def q2S:List (Nat×V):=[(1,D9),(2,CW),(3,Da),(5,(.one EA)),(0,(.any 0)),(11,(.any 11)),(12,(.any 12)),(13,(.any 13))]
def q2M:MB:=Bo
def q2F:MB:=Jr
abbrev BS:SE:=.len Au
abbrev HW:SE:=.cmp .geq AM Aa
abbrev HX:SE:=.el (some .i64) Au AM 0
abbrev HY:SE:=.cons Aa (.cons (.bin .sub .i64 Aj Aw) .nil)
abbrev HZ:SE:=.el (some .i64) Au AM 1
abbrev H0:SE:=.el (some .i64) Au AM 2
abbrev H1:SE:=.el (some .u64) Au AM 3
abbrev H2:SE:=.bin .add .i64 AM Aw
def q2T:RT:=(.ask (.cmp .lss AM BS) (.know HW true (.ask (.not (.app 17 0 none (.cons HX HY))) (.out 0 []) (.ask (.not (.app 17 0 none (.cons HZ HY))) (.out 0 []) (.ask (.cmp .eql HX HZ) (.out 0 []) (.ask (.not (.app 18 0 none (.cons H0 (.cons H1 BW)))) (.out 0 []) (.ask (.and (.cmp .eql H0 Aa) (.and (.cmp .eql H1 Al) Ap)) (.out 0 []) (.ask (.not (.app 18 0 none (.cons (.el (some .i64) Au AM 4) (.cons (.el (some .u64) Au AM 5) D5)))) (.out 0 []) (.next [Ah,Af,Am,AA,As,Aq,AN,AK,AO,AB,AP,Ay,AH,Ag,Au,Ao,AF,AQ,AR,AJ,AS,AU,AV,Ax,Aj,H2])))))))) (.out 1 [Ah,Af,Am,AA,As,Aq,AN,AK,AO,AB,AP,Ay,AH,Ag,Au,Ao,AF,AQ,AR,AJ,AS,AU,AV,Ax,Aj]))
def q2C:List (Nat×Nat×Option (Option IntKind)):=[(24,24,(some (some .i64))),(0,0,(some (some .i64))),(1,1,(some (some .i64))),(2,2,(some (some .u64))),(3,3,(some (some .i64))),(4,4,(some (some .u64))),(5,5,(some (some .i64))),(6,6,(some (some .u64))),(7,7,(some (some .i64))),(8,8,(some (some .u64))),(9,9,(some (some .i64))),(10,10,(some (some .u64))),(11,11,(some (some .i64))),(12,12,(some (some .i64))),(13,13,none),(14,14,none),(15,15,none),(16,16,none),(17,17,(some (some .i64))),(18,18,(some (some .u64))),(19,19,(some (some .i64))),(20,20,(some (some .u64))),(21,21,(some (some .i64))),(22,22,(some (some .u64))),(23,23,none)]
def q2L:LEnt:={f:=20,id:=8,num:=20012,nx:=6,S:=[(1,D9),(2,CW),(3,Da),(5,Bi),(0,(.any 0)),(11,(.any 11)),(12,(.any 12)),(13,(.any 13))],M:=Bo,F:=q2F,kk:=[0,1,2,3,4,5],outs:=[{x:= .ret,S:=CC,M:=[],cv:=[]},{x:=(.exit 2),S:=HU,M:=Bo,cv:=q2C}],lv:=[(1,13),(2,14),(3,15),(4,16),(5,23)],sm:=[],pre:=[]}
def q2I:List SE:=[Ah,Af,Am,AA,As,Aq,AN,AK,AO,AB,AP,Ay,AH,Ag,Au,Ao,AF,AQ,AR,AJ,AS,AU,AV,Ax,Aj,Aa]
def q2n:Nat:=144
noncomputable def q2U (xs:List Int):Nat:=(dec (xs.getD 14 0)).length+1
noncomputable def q2G:(Nat→List Int→List Int)→List Int→List Int:=qfv q2I (fun _=>q2T) q2U
theorem yew (F:Nat→List Int→List Int) (xs:List Int) (hp:Pre q2L F xs):qdn (fun _=>q2T) F 0 (q2U xs) (q2I.map (SE.val (qaa F xs))):=
 qfc (T:=q2T) (c:=25) (lv:=14) (ex:=[]) (by kernel_rfl) (fun _=>True) (fun _ _ _ _=>trivial) (fun _ _ _ _ _ _ q hq=>by cases hq) _ 0 0 _ (qg8 (I:=q2I) (by kernel_rfl)) (by rw [qbq (I:=q2I) (j0:=14) (by kernel_rfl)];unfold q2U;omega) (Nat.succ_pos _) (by rw [qbq (I:=q2I) (j0:=14) (by kernel_rfl)];exact hp.lv (2,14) (by decide)) trivial
theorem z5i:qak (bW.loops qr6) qct 300 q2L.f q2n (qa3 Tryz.prog q2L.f q2L.id) q2S q2M q2L.F q2L.nx q2S q2L.outs q2L.kk q2T []=true:=by kernel_rfl
theorem q2_ok:LCT Tryz.prog q2L (FT qct) (q2G (FT qct)):=
 qc8 (b:=bW.loops qr6) (Tb:=qct) (y:=q2L) (M:=q2M) (T:=fun _=>q2T) (S:=fun _=>q2S) (init:=q2I) (qag qbi _) (qbj q13) q3y (d:=300) (n:=q2n) (by kernel_rfl) (by kernel_rfl) (by kernel_rfl) (by kernel_rfl) (fun _ _ _=>z5i) (fun xs hp=>yew _ xs hp)
theorem ygp (F:Nat→List Int→List Int):Cst q2L (q2G F):=qdh q2C (by kernel_rfl) (fun _ _ _=>by kernel_rfl)
noncomputable def qf0:List Ent:=⟨20012,[],.tup [],q2G,true⟩::qct
def qrw:List LEnt:=q2L::qr6
theorem qzx:qcd Tryz.prog qf0:=qbw q3y rfl (by kernel_rfl)
theorem q0n:LBs Tryz.prog qrw qf0:=qbl (y:=q2L) q13 (by kernel_rfl) (by kernel_rfl) (by kernel_rfl) q2_ok (ygp _)
def q3S:List (Nat×V):=[(1,D9),(2,CW),(7,Da),(0,(.any 0)),(3,(.any 3)),(11,(.any 11)),(12,(.any 12)),(13,(.any 13))]
def q3M:MB:=Bo
def q3F:MB:=Jr
def q3T:RT:=(.ask (.cmp .lss Aj BG) (.know HT true (.ask (.not (.app 38 0 none (.cons (.el (some .i64) Ao Aj 0) (.cons (.el (some .i64) Ao Aj 1) (.cons (.el (some .u64) Ao Aj 2) (.cons (.el (some .i64) Ao Aj 3) (.cons (.el (some .u64) Ao Aj 4) (.cons (.el (some .i64) Ao Aj 5) (.cons (.el (some .i64) Ao Aj 6) (.cons (.el (some .i64) Ao Aj 7) (.cons (.el (some .i64) Ao Aj 8) (.cons (.el (some .u64) Ao Aj 9) (.cons Aj .nil))))))))))))) (.out 0 []) (.next [Ah,Af,Am,AA,As,Aq,AN,AK,AO,AB,AP,Ay,AH,Ag,Au,Ao,AF,AQ,AR,AJ,AS,AU,AV,Ax,(.bin .add .i64 Aj Aw)]))) (.out 1 [Ah,Af,Am,AA,As,Aq,AN,AK,AO,AB,AP,Ay,AH,Ag,Au,Ao,AF,AQ,AR,AJ,AS,AU,AV,Ax]))
abbrev H3:List (Nat×V):=[(1,D9),(0,(.any 0)),(2,CW),(3,(.any 3)),(11,(.any 11)),(12,(.any 12)),(13,(.any 13))]
def q3L:LEnt:={f:=20,id:=14,num:=20013,nx:=6,S:=[(1,D9),(2,CW),(7,Bi),(0,(.any 0)),(3,(.any 3)),(11,(.any 11)),(12,(.any 12)),(13,(.any 13))],M:=Bo,F:=q3F,kk:=[0,1,2,3,4,5],outs:=[{x:= .ret,S:=CC,M:=[],cv:=[]},{x:=(.exit 4),S:=H3,M:=Bo,cv:=q1C}],lv:=[(1,13),(2,14),(3,15),(4,16),(5,23)],sm:=[],pre:=[]}
def q3I:List SE:=HV
def q3C:List (Nat×Nat×Option (Option IntKind)):=[(0,0,(some (some .i64))),(1,1,(some (some .i64))),(2,2,(some (some .u64))),(3,3,(some (some .i64))),(4,4,(some (some .u64))),(5,5,(some (some .i64))),(6,6,(some (some .u64))),(7,7,(some (some .i64))),(8,8,(some (some .u64))),(9,9,(some (some .i64))),(10,10,(some (some .u64))),(11,11,(some (some .i64))),(12,12,(some (some .i64))),(13,13,none),(14,14,none),(15,15,none),(16,16,none),(17,17,(some (some .i64))),(18,18,(some (some .u64))),(19,19,(some (some .i64))),(20,20,(some (some .u64))),(21,21,(some (some .i64))),(22,22,(some (some .u64))),(23,23,none)]
def q3n:Nat:=144
noncomputable def q3U (xs:List Int):Nat:=(dec (xs.getD 15 0)).length+1
noncomputable def q3G:(Nat→List Int→List Int)→List Int→List Int:=qfv q3I (fun _=>q3T) q3U
theorem ydd (F:Nat→List Int→List Int) (xs:List Int) (hp:Pre q3L F xs):qdn (fun _=>q3T) F 0 (q3U xs) (q3I.map (SE.val (qaa F xs))):=
 qfc (T:=q3T) (c:=24) (lv:=15) (ex:=[]) (by kernel_rfl) (fun _=>True) (fun _ _ _ _=>trivial) (fun _ _ _ _ _ _ q hq=>by cases hq) _ 0 0 _ (qg8 (I:=q3I) (by kernel_rfl)) (by rw [qbq (I:=q3I) (j0:=15) (by kernel_rfl)];unfold q3U;omega) (Nat.succ_pos _) (by rw [qbq (I:=q3I) (j0:=15) (by kernel_rfl)];exact hp.lv (3,15) (by decide)) trivial
theorem z5o:qak (bW.loops qrw) qf0 300 q3L.f q3n (qa3 Tryz.prog q3L.f q3L.id) q3S q3M q3L.F q3L.nx q3S q3L.outs q3L.kk q3T []=true:=by kernel_rfl
theorem q3_ok:LCT Tryz.prog q3L (FT qf0) (q3G (FT qf0)):=
 qc8 (b:=bW.loops qrw) (Tb:=qf0) (y:=q3L) (M:=q3M) (T:=fun _=>q3T) (S:=fun _=>q3S) (init:=q3I) (qag qbi _) (qbj q0n) qzx (d:=300) (n:=q3n) (by kernel_rfl) (by kernel_rfl) (by kernel_rfl) (by kernel_rfl) (fun _ _ _=>z5o) (fun xs hp=>ydd _ xs hp)
theorem ygf (F:Nat→List Int→List Int):Cst q3L (q3G F):=qdh q3C (by kernel_rfl) (fun _ _ _=>by kernel_rfl)
noncomputable def qco:List Ent:=⟨20013,[],.tup [],q3G,true⟩::qf0
def qse:List LEnt:=q3L::qrw
theorem qz4:qcd Tryz.prog qco:=qbw qzx rfl (by kernel_rfl)
theorem qzm:LBs Tryz.prog qse qco:=qbl (y:=q3L) q0n (by kernel_rfl) (by kernel_rfl) (by kernel_rfl) q3_ok (ygf _)
def q4S:List (Nat×V):=[(1,D9),(2,CW),(8,Da),(9,(.one EA)),(0,(.any 0)),(3,(.any 3)),(11,(.any 11)),(12,(.any 12)),(13,(.any 13))]
def q4M:MB:=Bo
def q4F:MB:=Jr
abbrev BT:SE:=.len Ax
abbrev H4:SE:=.el (some .i64) Ax AM 0
def q4T:RT:=(.ask (.cmp .lss AM BT) (.know HW true (.ask (.not (.app 17 0 none (.cons H4 (.cons Aj DN)))) (.out 0 []) (.ask (.not (.app 17 0 none (.cons (.el (some .i64) Ax AM 1) GZ))) (.out 0 []) (.ask (.not (.app 17 0 none (.cons (.el (some .i64) Ax AM 2) C3))) (.out 0 []) (.ask (.not (.app 17 0 none (.cons (.el (some .i64) Ax AM 3) C3))) (.out 0 []) (.next [Ah,Af,Am,AA,As,Aq,AN,AK,AO,AB,AP,Ay,AH,Ag,Au,Ao,AF,AQ,AR,AJ,AS,AU,AV,Ax,H4,H2])))))) (.out 1 [Ah,Af,Am,AA,As,Aq,AN,AK,AO,AB,AP,Ay,AH,Ag,Au,Ao,AF,AQ,AR,AJ,AS,AU,AV,Ax]))
def q4L:LEnt:={f:=20,id:=20,num:=20014,nx:=6,S:=[(1,D9),(2,CW),(8,Bi),(9,Bi),(0,(.any 0)),(3,(.any 3)),(11,(.any 11)),(12,(.any 12)),(13,(.any 13))],M:=Bo,F:=q4F,kk:=[0,1,2,3,4,5],outs:=[{x:= .ret,S:=CC,M:=[],cv:=[]},{x:=(.exit 6),S:=H3,M:=Bo,cv:=q1C}],lv:=[(1,13),(2,14),(3,15),(4,16),(5,23)],sm:=[],pre:=[]}
def q4I:List SE:=[Ah,Af,Am,AA,As,Aq,AN,AK,AO,AB,AP,Ay,AH,Ag,Au,Ao,AF,AQ,AR,AJ,AS,AU,AV,Ax,Aa,Aa]
def q4C:List (Nat×Nat×Option (Option IntKind)):=[(0,0,(some (some .i64))),(1,1,(some (some .i64))),(2,2,(some (some .u64))),(3,3,(some (some .i64))),(4,4,(some (some .u64))),(5,5,(some (some .i64))),(6,6,(some (some .u64))),(7,7,(some (some .i64))),(8,8,(some (some .u64))),(9,9,(some (some .i64))),(10,10,(some (some .u64))),(11,11,(some (some .i64))),(12,12,(some (some .i64))),(13,13,none),(14,14,none),(15,15,none),(16,16,none),(17,17,(some (some .i64))),(18,18,(some (some .u64))),(19,19,(some (some .i64))),(20,20,(some (some .u64))),(21,21,(some (some .i64))),(22,22,(some (some .u64))),(23,23,none)]
def q4n:Nat:=144
noncomputable def q4U (xs:List Int):Nat:=(dec (xs.getD 23 0)).length+1
noncomputable def q4G:(Nat→List Int→List Int)→List Int→List Int:=qfv q4I (fun _=>q4T) q4U
theorem yg2 (F:Nat→List Int→List Int) (xs:List Int) (hp:Pre q4L F xs):qdn (fun _=>q4T) F 0 (q4U xs) (q4I.map (SE.val (qaa F xs))):=
 qfc (T:=q4T) (c:=25) (lv:=23) (ex:=[]) (by kernel_rfl) (fun _=>True) (fun _ _ _ _=>trivial) (fun _ _ _ _ _ _ q hq=>by cases hq) _ 0 0 _ (qg8 (I:=q4I) (by kernel_rfl)) (by rw [qbq (I:=q4I) (j0:=23) (by kernel_rfl)];unfold q4U;omega) (Nat.succ_pos _) (by rw [qbq (I:=q4I) (j0:=23) (by kernel_rfl)];exact hp.lv (5,23) (by decide)) trivial
theorem ydy:qak (bW.loops qse) qco 300 q4L.f q4n (qa3 Tryz.prog q4L.f q4L.id) q4S q4M q4L.F q4L.nx q4S q4L.outs q4L.kk q4T []=true:=by kernel_rfl
theorem q4_ok:LCT Tryz.prog q4L (FT qco) (q4G (FT qco)):=
 qc8 (b:=bW.loops qse) (Tb:=qco) (y:=q4L) (M:=q4M) (T:=fun _=>q4T) (S:=fun _=>q4S) (init:=q4I) (qag qbi _) (qbj qzm) qz4 (d:=300) (n:=q4n) (by kernel_rfl) (by kernel_rfl) (by kernel_rfl) (by kernel_rfl) (fun _ _ _=>ydy) (fun xs hp=>yg2 _ xs hp)
theorem z5n (F:Nat→List Int→List Int):Cst q4L (q4G F):=qdh q4C (by kernel_rfl) (fun _ _ _=>by kernel_rfl)
noncomputable def qry:List Ent:=⟨20014,[],.tup [],q4G,true⟩::qco
def q8o:List LEnt:=q4L::qse
theorem zi1:qcd Tryz.prog qry:=qbw qz4 rfl (by kernel_rfl)
theorem zk5:LBs Tryz.prog q8o qry:=qbl (y:=q4L) qzm (by kernel_rfl) (by kernel_rfl) (by kernel_rfl) q4_ok (z5n _)
noncomputable def qpv:List Ent:=qry
def zk9:List LEnt:=q8o
theorem zpo:qcd Tryz.prog qpv:=zi1
theorem zoo:LBs Tryz.prog zk9 qpv:=zk5
theorem qo6 {T:RT} {I:List SE} {C:List (Nat×Nat×Option (Option IntKind))} {outs:List Out} {c la lb:Nat} (hrg:rgB c la [(.cmp .lss (.ivar .i64 c) (.len (.lvar lb)),true)] false T=true) (hcB:T.cB C outs=true) (hca:(la,la,none)∈C) (hcb:(lb,lb,none)∈C)
  (h0:(match I[c]? with |some x=>decide (x= .lit .i64 0) |none=>false)=true) (ha:(match I[la]? with |some x=>decide (x= .lvar la) |none=>false)=true) (hb:(match I[lb]? with |some x=>decide (x= .lvar lb) |none=>false)=true)
  {F:Nat→List Int→List Int} {xs:List Int} (h1:(dec (xs.getD la 0)).length≤maxLen) (h2:(dec (xs.getD lb 0)).length≤maxLen) (h3:((SE.cmp .neq (.len (.lvar la)) (.len (.lvar lb))).val (qaa F xs) !=0)=false):
  qdn (fun _=>T) F 0 ((dec (xs.getD la 0)).length+1) (I.map (SE.val (qaa F xs))):=by
 have e1:(qaa F xs).iv la=xs.getD la 0:=rfl
 have e2:(qaa F xs).iv lb=xs.getD lb 0:=rfl
 simp only [SE.val,qas,qa8,e1,e2] at h3
 rw [qcz h1,qcz h2] at h3
 have h4:=Int.ofNat.inj (bne_eq_false_iff_eq.1 h3)
 refine qfc (T:=T) (c:=c) (lv:=la) (ex:=[(.cmp .lss (.ivar .i64 c) (.len (.lvar lb)),true)]) hrg (fun xs=>(dec (xs.getD lb 0)).length=(dec (xs.getD la 0)).length) (fun zs ys hj hy=> ?_) (fun zs i hj hc hl hi q hq=> ?_) _ 0 0 _ (qg8 h0) (by rw [qbq (j0:=la) ha];omega) (Nat.succ_pos _) (by rw [qbq (j0:=la) ha];exact h1) (by show (dec _).length=(dec _).length;rw [qbq (j0:=la) ha,qbq (j0:=lb) hb];exact h4.symm)
 ·have hB:=(qi8 (hc:=C) (outs:=outs) (F:=F) (xs:=zs) (t:=T) hcB).1 ys hy
  have g1:ys.getD la 0=zs.getD la 0:=hB (la,la,none) hca
  have g2:ys.getD lb 0=zs.getD lb 0:=hB (lb,lb,none) hcb
  show (dec _).length=(dec _).length
  rw [g1,g2];exact hj
 ·simp only [List.mem_singleton] at hq
  subst hq
  rw [qlj (lv:=lb) hc (by omega) (by omega)]
  exact decide_eq_true (by omega)
abbrev Ac:SE:=.ivar .i64 48
abbrev CL:V:=.one (.opq Ac)
def sbS:List (Nat×V):=([(2,D9),(3,C5),(4,CW),(5,CL),(0,(.any 0)),(1,(.any 1))]++ay 10 111)
abbrev Ca:SE:=.ivar .u64 26
abbrev Cb:SE:=.ivar .i64 27
abbrev Cc:SE:=.ivar .u64 28
abbrev Cd:SE:=.ivar .i64 29
abbrev Ce:SE:=.ivar .u64 30
abbrev Cf:SE:=.ivar .i64 31
abbrev Cg:SE:=.ivar .u64 32
abbrev Ch:SE:=.ivar .i64 33
abbrev Ci:SE:=.ivar .u64 34
abbrev Cj:SE:=.ivar .i64 35
abbrev Ck:SE:=.ivar .i64 36
abbrev Az:SE:=.lvar 37
abbrev Bh:SE:=.lvar 38
abbrev AX:SE:=.lvar 39
abbrev BH:SE:=.lvar 40
abbrev Cl:SE:=.ivar .i64 41
abbrev Cm:SE:=.ivar .u64 42
abbrev Cn:SE:=.ivar .i64 43
abbrev Co:SE:=.ivar .u64 44
abbrev Cp:SE:=.ivar .i64 45
abbrev Cq:SE:=.ivar .u64 46
abbrev Bp:SE:=.lvar 47
abbrev Ba:MB:=[(0,[BD,BA,Bc,C2,BE,Bj,En,Eo,Ep,C4,Er,C6,Es,(.sli 2 Ag),(.sli 3 Au),(.sli 4 Ao),(.sli 5 AF),Et,Eu,Ev,Ew,Ey,Ez,(.sli 6 Ax)],35,false),(1,[Em,EA,(.opq Ca),(.opq Cb),(.opq Cc),(.opq Cd),(.opq Ce),(.opq Cf),(.opq Cg),(.opq Ch),(.opq Ci),(.opq Cj),(.opq Ck),(.sli 7 Az),(.sli 8 Bh),(.sli 9 AX),(.sli 10 BH),(.opq Cl),(.opq Cm),(.opq Cn),(.opq Co),(.opq Cp),(.opq Cq),(.sli 11 Bp)],35,false)]
def sbM:MB:=Ba
abbrev Jl:MB:=[(2,Jm,54,false),(3,Jn,70,false),(4,Jo,72,false),(5,Jp,3,false),(6,Jq,38,false),(7,[(.big Az Bm)],54,false),(8,[(.big Bh BZ)],70,false),(9,[(.big AX BX)],72,false),(10,[(.big BH BM)],3,false),(11,[(.big Bp B3)],38,false)]
def sbF:MB:=Jl
abbrev CN:SE:=.cmp .geq Ac Aa
abbrev EB:SE:=.len Az
def sbT:RT:=(.ask (.cmp .lss Ac Bn) (.know CN true (.know (.cmp .lss Ac EB) true (.ask (.not (.and (.and (.cmp .eql (.el (some .i64) Ag Ac 0) (.el (some .i64) Az Ac 0)) (.and (.cmp .eql (.el (some .u64) Ag Ac 1) (.el (some .u64) Az Ac 1)) Ap)) (.and (.and (.cmp .eql (.el (some .i64) Ag Ac 2) (.el (some .i64) Az Ac 2)) (.and (.cmp .eql (.el (some .u64) Ag Ac 3) (.el (some .u64) Az Ac 3)) Ap)) (.and (.and (.and (.cmp .eql (.el (some .i64) Ag Ac 4) (.el (some .i64) Az Ac 4)) (.and (.cmp .eql (.el (some .u64) Ag Ac 5) (.el (some .u64) Az Ac 5)) Ap)) (.and (.and (.cmp .eql (.el (some .i64) Ag Ac 6) (.el (some .i64) Az Ac 6)) (.and (.cmp .eql (.el (some .u64) Ag Ac 7) (.el (some .u64) Az Ac 7)) Ap)) Ap)) (.and (.and (.and (.cmp .eql (.el (some .i64) Ag Ac 8) (.el (some .i64) Az Ac 8)) (.and (.cmp .eql (.el (some .u64) Ag Ac 9) (.el (some .u64) Az Ac 9)) Ap)) (.and (.and (.cmp .eql (.el (some .i64) Ag Ac 10) (.el (some .i64) Az Ac 10)) (.and (.cmp .eql (.el (some .u64) Ag Ac 11) (.el (some .u64) Az Ac 11)) Ap)) Ap)) (.and (.and (.cmp .eql (.el (some .i64) Ag Ac 12) (.el (some .i64) Az Ac 12)) (.and (.cmp .eql (.el (some .u64) Ag Ac 13) (.el (some .u64) Az Ac 13)) Ap)) (.and (.and (.cmp .eql (.el (some .i64) Ag Ac 14) (.el (some .i64) Az Ac 14)) (.and (.cmp .eql (.el (some .u64) Ag Ac 15) (.el (some .u64) Az Ac 15)) Ap)) (.and (.and (.cmp .eql (.el (some .i64) Ag Ac 16) (.el (some .i64) Az Ac 16)) (.and (.cmp .eql (.el (some .u64) Ag Ac 17) (.el (some .u64) Az Ac 17)) Ap)) (.and (.cmp .eql (.el (some .i64) Ag Ac 18) (.el (some .i64) Az Ac 18)) (.and (.cmp .eql (.el (some .i64) Ag Ac 19) (.el (some .i64) Az Ac 19)) Ap)))))))))) (.out 0 []) (.next [Ah,Af,Am,AA,As,Aq,AN,AK,AO,AB,AP,Ay,AH,Ag,Au,Ao,AF,AQ,AR,AJ,AS,AU,AV,Ax,Aj,AM,Ca,Cb,Cc,Cd,Ce,Cf,Cg,Ch,Ci,Cj,Ck,Az,Bh,AX,BH,Cl,Cm,Cn,Co,Cp,Cq,Bp,(.bin .add .i64 Ac Aw)])))) (.out 1 [Ah,Af,Am,AA,As,Aq,AN,AK,AO,AB,AP,Ay,AH,Ag,Au,Ao,AF,AQ,AR,AJ,AS,AU,AV,Ax,Aj,AM,Ca,Cb,Cc,Cd,Ce,Cf,Cg,Ch,Ci,Cj,Ck,Az,Bh,AX,BH,Cl,Cm,Cn,Co,Cp,Cq,Bp]))
abbrev CO:List (Nat×V):=([(2,D9),(3,C5),(0,(.any 0)),(1,(.any 1)),(4,CW)]++ay 10 111)
def sbC:List (Nat×Nat×Option (Option IntKind)):=[(0,0,(some (some .i64))),(1,1,(some (some .i64))),(2,2,(some (some .u64))),(3,3,(some (some .i64))),(4,4,(some (some .u64))),(5,5,(some (some .i64))),(6,6,(some (some .u64))),(7,7,(some (some .i64))),(8,8,(some (some .u64))),(9,9,(some (some .i64))),(10,10,(some (some .u64))),(11,11,(some (some .i64))),(12,12,(some (some .i64))),(13,13,none),(14,14,none),(15,15,none),(16,16,none),(17,17,(some (some .i64))),(18,18,(some (some .u64))),(19,19,(some (some .i64))),(20,20,(some (some .u64))),(21,21,(some (some .i64))),(22,22,(some (some .u64))),(23,23,none),(24,24,(some (some .i64))),(25,25,(some (some .i64))),(26,26,(some (some .u64))),(27,27,(some (some .i64))),(28,28,(some (some .u64))),(29,29,(some (some .i64))),(30,30,(some (some .u64))),(31,31,(some (some .i64))),(32,32,(some (some .u64))),(33,33,(some (some .i64))),(34,34,(some (some .u64))),(35,35,(some (some .i64))),(36,36,(some (some .i64))),(37,37,none),(38,38,none),(39,39,none),(40,40,none),(41,41,(some (some .i64))),(42,42,(some (some .u64))),(43,43,(some (some .i64))),(44,44,(some (some .u64))),(45,45,(some (some .i64))),(46,46,(some (some .u64))),(47,47,none)]
def sbL:LEnt:={f:=11,id:=6,num:=20111,nx:=12,S:=([(2,D9),(3,C5),(4,CW),(5,Bi),(0,(.any 0)),(1,(.any 1))]++ay 10 111),M:=Ba,F:=sbF,kk:=[0,1,2,3,4,5,6,7,8,9,10,11],outs:=[{x:= .ret,S:=B4,M:=[],cv:=[]},{x:=(.exit 0),S:=CO,M:=Ba,cv:=sbC}],lv:=[(2,13),(3,14),(4,15),(5,16),(6,23),(7,37),(8,38),(9,39),(10,40),(11,47)],sm:=[],pre:=[(.cmp .neq Bn EB,false)]}
abbrev CP:List SE:=[Ah,Af,Am,AA,As,Aq,AN,AK,AO,AB,AP,Ay,AH,Ag,Au,Ao,AF,AQ,AR,AJ,AS,AU,AV,Ax,Aj,AM,Ca,Cb,Cc,Cd,Ce,Cf,Cg,Ch,Ci,Cj,Ck,Az,Bh,AX,BH,Cl,Cm,Cn,Co,Cp,Cq,Bp,Aa]
def sbI:List SE:=CP
def sbn:Nat:=211
noncomputable def sbU (xs:List Int):Nat:=(dec (xs.getD 13 0)).length+1
noncomputable def sbG:(Nat→List Int→List Int)→List Int→List Int:=qfv sbI (fun _=>sbT) sbU
theorem zqz (F:Nat→List Int→List Int) (xs:List Int) (hp:Pre sbL F xs):qdn (fun _=>sbT) F 0 (sbU xs) (sbI.map (SE.val (qaa F xs))):=qo6 (outs:=sbL.outs) (C:=sbC) (c:=48) (la:=13) (lb:=37) (by kernel_rfl) (by kernel_rfl) (by simp [sbC]) (by simp [sbC]) (by kernel_rfl) (by kernel_rfl) (by kernel_rfl) (hp.lv (2,13) (by decide)) (hp.lv (7,37) (by decide)) (hp.pre _ (.head _))
theorem yhc:qak (bW.loops zk9) qpv 300 sbL.f sbn (qa3 Tryz.prog sbL.f sbL.id) sbS sbM sbL.F sbL.nx sbS sbL.outs sbL.kk sbT []=true:=by kernel_rfl
theorem sb_ok:LCT Tryz.prog sbL (FT qpv) (sbG (FT qpv)):=
 qc8 (b:=bW.loops zk9) (Tb:=qpv) (y:=sbL) (M:=sbM) (T:=fun _=>sbT) (S:=fun _=>sbS) (init:=sbI) (qag qbi _) (qbj zoo) zpo (d:=300) (n:=sbn) (by kernel_rfl) (by kernel_rfl) (by kernel_rfl) (by kernel_rfl) (fun _ _ _=>yhc) (fun xs hp=>zqz _ xs hp)
theorem z87 (F:Nat→List Int→List Int):Cst sbL (sbG F):=qdh sbC (by kernel_rfl) (fun _ _ _=>by kernel_rfl)
noncomputable def qhr:List Ent:=⟨20111,[],.tup [],sbG,true⟩::qpv
def qs4:List LEnt:=sbL::zk9
theorem q3q:qcd Tryz.prog qhr:=qbw zpo rfl (by kernel_rfl)
theorem qzp:LBs Tryz.prog qs4 qhr:=qbl (y:=sbL) zoo (by kernel_rfl) (by kernel_rfl) (by kernel_rfl) sb_ok (z87 _)
def sqS:List (Nat×V):=([(2,D9),(3,C5),(4,CW),(6,CL),(0,(.any 0)),(1,(.any 1))]++ay 10 111)
def sqM:MB:=Ba
def sqF:MB:=Jl
abbrev EC:SE:=.len Bh
def sqT:RT:=(.ask (.cmp .lss Ac BS) (.know CN true (.know (.cmp .lss Ac EC) true (.ask (.not (.and (.cmp .eql (.el (some .i64) Au Ac 0) (.el (some .i64) Bh Ac 0)) (.and (.cmp .eql (.el (some .i64) Au Ac 1) (.el (some .i64) Bh Ac 1)) (.and (.and (.cmp .eql (.el (some .i64) Au Ac 2) (.el (some .i64) Bh Ac 2)) (.and (.cmp .eql (.el (some .u64) Au Ac 3) (.el (some .u64) Bh Ac 3)) Ap)) (.and (.and (.cmp .eql (.el (some .i64) Au Ac 4) (.el (some .i64) Bh Ac 4)) (.and (.cmp .eql (.el (some .u64) Au Ac 5) (.el (some .u64) Bh Ac 5)) Ap)) Ap))))) (.out 0 []) (.next [Ah,Af,Am,AA,As,Aq,AN,AK,AO,AB,AP,Ay,AH,Ag,Au,Ao,AF,AQ,AR,AJ,AS,AU,AV,Ax,Aj,AM,Ca,Cb,Cc,Cd,Ce,Cf,Cg,Ch,Ci,Cj,Ck,Az,Bh,AX,BH,Cl,Cm,Cn,Co,Cp,Cq,Bp,(.bin .add .i64 Ac Aw)])))) (.out 1 [Ah,Af,Am,AA,As,Aq,AN,AK,AO,AB,AP,Ay,AH,Ag,Au,Ao,AF,AQ,AR,AJ,AS,AU,AV,Ax,Aj,AM,Ca,Cb,Cc,Cd,Ce,Cf,Cg,Ch,Ci,Cj,Ck,Az,Bh,AX,BH,Cl,Cm,Cn,Co,Cp,Cq,Bp]))
def sqL:LEnt:={f:=11,id:=11,num:=20112,nx:=12,S:=([(2,D9),(3,C5),(4,CW),(6,Bi),(0,(.any 0)),(1,(.any 1))]++ay 10 111),M:=Ba,F:=sqF,kk:=[0,1,2,3,4,5,6,7,8,9,10,11],outs:=[{x:= .ret,S:=B4,M:=[],cv:=[]},{x:=(.exit 2),S:=CO,M:=Ba,cv:=sbC}],lv:=[(2,13),(3,14),(4,15),(5,16),(6,23),(7,37),(8,38),(9,39),(10,40),(11,47)],sm:=[],pre:=[(.cmp .neq BS EC,false)]}
def sqI:List SE:=CP
def sqC:List (Nat×Nat×Option (Option IntKind)):=[(0,0,(some (some .i64))),(1,1,(some (some .i64))),(2,2,(some (some .u64))),(3,3,(some (some .i64))),(4,4,(some (some .u64))),(5,5,(some (some .i64))),(6,6,(some (some .u64))),(7,7,(some (some .i64))),(8,8,(some (some .u64))),(9,9,(some (some .i64))),(10,10,(some (some .u64))),(11,11,(some (some .i64))),(12,12,(some (some .i64))),(13,13,none),(14,14,none),(15,15,none),(16,16,none),(17,17,(some (some .i64))),(18,18,(some (some .u64))),(19,19,(some (some .i64))),(20,20,(some (some .u64))),(21,21,(some (some .i64))),(22,22,(some (some .u64))),(23,23,none),(24,24,(some (some .i64))),(25,25,(some (some .i64))),(26,26,(some (some .u64))),(27,27,(some (some .i64))),(28,28,(some (some .u64))),(29,29,(some (some .i64))),(30,30,(some (some .u64))),(31,31,(some (some .i64))),(32,32,(some (some .u64))),(33,33,(some (some .i64))),(34,34,(some (some .u64))),(35,35,(some (some .i64))),(36,36,(some (some .i64))),(37,37,none),(38,38,none),(39,39,none),(40,40,none),(41,41,(some (some .i64))),(42,42,(some (some .u64))),(43,43,(some (some .i64))),(44,44,(some (some .u64))),(45,45,(some (some .i64))),(46,46,(some (some .u64))),(47,47,none)]
def sqn:Nat:=211
noncomputable def sqU (xs:List Int):Nat:=(dec (xs.getD 14 0)).length+1
noncomputable def sqG:(Nat→List Int→List Int)→List Int→List Int:=qfv sqI (fun _=>sqT) sqU
theorem zqn (F:Nat→List Int→List Int) (xs:List Int) (hp:Pre sqL F xs):qdn (fun _=>sqT) F 0 (sqU xs) (sqI.map (SE.val (qaa F xs))):=qo6 (outs:=sqL.outs) (C:=sqC) (c:=48) (la:=14) (lb:=38) (by kernel_rfl) (by kernel_rfl) (by simp [sqC]) (by simp [sqC]) (by kernel_rfl) (by kernel_rfl) (by kernel_rfl) (hp.lv (3,14) (by decide)) (hp.lv (8,38) (by decide)) (hp.pre _ (.head _))
theorem z52:qak (bW.loops qs4) qhr 300 sqL.f sqn (qa3 Tryz.prog sqL.f sqL.id) sqS sqM sqL.F sqL.nx sqS sqL.outs sqL.kk sqT []=true:=by kernel_rfl
theorem sq_ok:LCT Tryz.prog sqL (FT qhr) (sqG (FT qhr)):=
 qc8 (b:=bW.loops qs4) (Tb:=qhr) (y:=sqL) (M:=sqM) (T:=fun _=>sqT) (S:=fun _=>sqS) (init:=sqI) (qag qbi _) (qbj qzp) q3q (d:=300) (n:=sqn) (by kernel_rfl) (by kernel_rfl) (by kernel_rfl) (by kernel_rfl) (fun _ _ _=>z52) (fun xs hp=>zqn _ xs hp)
theorem ycj (F:Nat→List Int→List Int):Cst sqL (sqG F):=qdh sqC (by kernel_rfl) (fun _ _ _=>by kernel_rfl)
noncomputable def qhw:List Ent:=⟨20112,[],.tup [],sqG,true⟩::qhr
def qr1:List LEnt:=sqL::qs4
theorem q2w:qcd Tryz.prog qhw:=qbw q3q rfl (by kernel_rfl)
theorem q3i:LBs Tryz.prog qr1 qhw:=qbl (y:=sqL) qzp (by kernel_rfl) (by kernel_rfl) (by kernel_rfl) sq_ok (ycj _)
def srS:List (Nat×V):=([(2,D9),(3,C5),(4,CW),(7,CL),(0,(.any 0)),(1,(.any 1))]++ay 10 111)
def srM:MB:=Ba
def srF:MB:=Jl
abbrev ED:SE:=.len AX
def srT:RT:=(.ask (.cmp .lss Ac BG) (.know CN true (.know (.cmp .lss Ac ED) true (.ask (.not (.and (.cmp .eql (.el (some .i64) Ao Ac 0) (.el (some .i64) AX Ac 0)) (.and (.and (.cmp .eql (.el (some .i64) Ao Ac 1) (.el (some .i64) AX Ac 1)) (.and (.cmp .eql (.el (some .u64) Ao Ac 2) (.el (some .u64) AX Ac 2)) Ap)) (.and (.and (.cmp .eql (.el (some .i64) Ao Ac 3) (.el (some .i64) AX Ac 3)) (.and (.cmp .eql (.el (some .u64) Ao Ac 4) (.el (some .u64) AX Ac 4)) Ap)) (.and (.cmp .eql (.el (some .i64) Ao Ac 5) (.el (some .i64) AX Ac 5)) (.and (.cmp .eql (.el (some .i64) Ao Ac 6) (.el (some .i64) AX Ac 6)) (.and (.cmp .eql (.el (some .i64) Ao Ac 7) (.el (some .i64) AX Ac 7)) (.and (.and (.cmp .eql (.el (some .i64) Ao Ac 8) (.el (some .i64) AX Ac 8)) (.and (.cmp .eql (.el (some .u64) Ao Ac 9) (.el (some .u64) AX Ac 9)) Ap)) Ap)))))))) (.out 0 []) (.next [Ah,Af,Am,AA,As,Aq,AN,AK,AO,AB,AP,Ay,AH,Ag,Au,Ao,AF,AQ,AR,AJ,AS,AU,AV,Ax,Aj,AM,Ca,Cb,Cc,Cd,Ce,Cf,Cg,Ch,Ci,Cj,Ck,Az,Bh,AX,BH,Cl,Cm,Cn,Co,Cp,Cq,Bp,(.bin .add .i64 Ac Aw)])))) (.out 1 [Ah,Af,Am,AA,As,Aq,AN,AK,AO,AB,AP,Ay,AH,Ag,Au,Ao,AF,AQ,AR,AJ,AS,AU,AV,Ax,Aj,AM,Ca,Cb,Cc,Cd,Ce,Cf,Cg,Ch,Ci,Cj,Ck,Az,Bh,AX,BH,Cl,Cm,Cn,Co,Cp,Cq,Bp]))
def srL:LEnt:={f:=11,id:=16,num:=20113,nx:=12,S:=([(2,D9),(3,C5),(4,CW),(7,Bi),(0,(.any 0)),(1,(.any 1))]++ay 10 111),M:=Ba,F:=srF,kk:=[0,1,2,3,4,5,6,7,8,9,10,11],outs:=[{x:= .ret,S:=B4,M:=[],cv:=[]},{x:=(.exit 4),S:=CO,M:=Ba,cv:=sbC}],lv:=[(2,13),(3,14),(4,15),(5,16),(6,23),(7,37),(8,38),(9,39),(10,40),(11,47)],sm:=[],pre:=[(.cmp .neq BG ED,false)]}
def srI:List SE:=CP
def srC:List (Nat×Nat×Option (Option IntKind)):=[(0,0,(some (some .i64))),(1,1,(some (some .i64))),(2,2,(some (some .u64))),(3,3,(some (some .i64))),(4,4,(some (some .u64))),(5,5,(some (some .i64))),(6,6,(some (some .u64))),(7,7,(some (some .i64))),(8,8,(some (some .u64))),(9,9,(some (some .i64))),(10,10,(some (some .u64))),(11,11,(some (some .i64))),(12,12,(some (some .i64))),(13,13,none),(14,14,none),(15,15,none),(16,16,none),(17,17,(some (some .i64))),(18,18,(some (some .u64))),(19,19,(some (some .i64))),(20,20,(some (some .u64))),(21,21,(some (some .i64))),(22,22,(some (some .u64))),(23,23,none),(24,24,(some (some .i64))),(25,25,(some (some .i64))),(26,26,(some (some .u64))),(27,27,(some (some .i64))),(28,28,(some (some .u64))),(29,29,(some (some .i64))),(30,30,(some (some .u64))),(31,31,(some (some .i64))),(32,32,(some (some .u64))),(33,33,(some (some .i64))),(34,34,(some (some .u64))),(35,35,(some (some .i64))),(36,36,(some (some .i64))),(37,37,none),(38,38,none),(39,39,none),(40,40,none),(41,41,(some (some .i64))),(42,42,(some (some .u64))),(43,43,(some (some .i64))),(44,44,(some (some .u64))),(45,45,(some (some .i64))),(46,46,(some (some .u64))),(47,47,none)]
def srn:Nat:=211
noncomputable def srU (xs:List Int):Nat:=(dec (xs.getD 15 0)).length+1
noncomputable def srG:(Nat→List Int→List Int)→List Int→List Int:=qfv srI (fun _=>srT) srU
theorem zo2 (F:Nat→List Int→List Int) (xs:List Int) (hp:Pre srL F xs):qdn (fun _=>srT) F 0 (srU xs) (srI.map (SE.val (qaa F xs))):=qo6 (outs:=srL.outs) (C:=srC) (c:=48) (la:=15) (lb:=39) (by kernel_rfl) (by kernel_rfl) (by simp [srC]) (by simp [srC]) (by kernel_rfl) (by kernel_rfl) (by kernel_rfl) (hp.lv (4,15) (by decide)) (hp.lv (9,39) (by decide)) (hp.pre _ (.head _))
theorem ydv:qak (bW.loops qr1) qhw 300 srL.f srn (qa3 Tryz.prog srL.f srL.id) srS srM srL.F srL.nx srS srL.outs srL.kk srT []=true:=by kernel_rfl
theorem sr_ok:LCT Tryz.prog srL (FT qhw) (srG (FT qhw)):=
 qc8 (b:=bW.loops qr1) (Tb:=qhw) (y:=srL) (M:=srM) (T:=fun _=>srT) (S:=fun _=>srS) (init:=srI) (qag qbi _) (qbj q3i) q2w (d:=300) (n:=srn) (by kernel_rfl) (by kernel_rfl) (by kernel_rfl) (by kernel_rfl) (fun _ _ _=>ydv) (fun xs hp=>zo2 _ xs hp)
theorem yec (F:Nat→List Int→List Int):Cst srL (srG F):=qdh srC (by kernel_rfl) (fun _ _ _=>by kernel_rfl)
noncomputable def qhq:List Ent:=⟨20113,[],.tup [],srG,true⟩::qhw
def qso:List LEnt:=srL::qr1
theorem q3f:qcd Tryz.prog qhq:=qbw q2w rfl (by kernel_rfl)
theorem q00:LBs Tryz.prog qso qhq:=qbl (y:=srL) q3i (by kernel_rfl) (by kernel_rfl) (by kernel_rfl) sr_ok (yec _)
def saS:List (Nat×V):=([(2,D9),(3,C5),(4,CW),(8,CL),(0,(.any 0)),(1,(.any 1))]++ay 10 111)
def saM:MB:=Ba
def saF:MB:=Jl
abbrev EE:SE:=.len BH
def saT:RT:=(.ask (.cmp .lss Ac BO) (.know CN true (.know (.cmp .lss Ac EE) true (.ask (.cmp .neq (.el (some .i64) AF Ac 0) (.el (some .i64) BH Ac 0)) (.out 0 []) (.next [Ah,Af,Am,AA,As,Aq,AN,AK,AO,AB,AP,Ay,AH,Ag,Au,Ao,AF,AQ,AR,AJ,AS,AU,AV,Ax,Aj,AM,Ca,Cb,Cc,Cd,Ce,Cf,Cg,Ch,Ci,Cj,Ck,Az,Bh,AX,BH,Cl,Cm,Cn,Co,Cp,Cq,Bp,(.bin .add .i64 Ac Aw)])))) (.out 1 [Ah,Af,Am,AA,As,Aq,AN,AK,AO,AB,AP,Ay,AH,Ag,Au,Ao,AF,AQ,AR,AJ,AS,AU,AV,Ax,Aj,AM,Ca,Cb,Cc,Cd,Ce,Cf,Cg,Ch,Ci,Cj,Ck,Az,Bh,AX,BH,Cl,Cm,Cn,Co,Cp,Cq,Bp]))
def saL:LEnt:={f:=11,id:=21,num:=20114,nx:=12,S:=([(2,D9),(3,C5),(4,CW),(8,Bi),(0,(.any 0)),(1,(.any 1))]++ay 10 111),M:=Ba,F:=saF,kk:=[0,1,2,3,4,5,6,7,8,9,10,11],outs:=[{x:= .ret,S:=B4,M:=[],cv:=[]},{x:=(.exit 6),S:=CO,M:=Ba,cv:=sbC}],lv:=[(2,13),(3,14),(4,15),(5,16),(6,23),(7,37),(8,38),(9,39),(10,40),(11,47)],sm:=[],pre:=[(.cmp .neq BO EE,false)]}
def saI:List SE:=CP
def saC:List (Nat×Nat×Option (Option IntKind)):=[(0,0,(some (some .i64))),(1,1,(some (some .i64))),(2,2,(some (some .u64))),(3,3,(some (some .i64))),(4,4,(some (some .u64))),(5,5,(some (some .i64))),(6,6,(some (some .u64))),(7,7,(some (some .i64))),(8,8,(some (some .u64))),(9,9,(some (some .i64))),(10,10,(some (some .u64))),(11,11,(some (some .i64))),(12,12,(some (some .i64))),(13,13,none),(14,14,none),(15,15,none),(16,16,none),(17,17,(some (some .i64))),(18,18,(some (some .u64))),(19,19,(some (some .i64))),(20,20,(some (some .u64))),(21,21,(some (some .i64))),(22,22,(some (some .u64))),(23,23,none),(24,24,(some (some .i64))),(25,25,(some (some .i64))),(26,26,(some (some .u64))),(27,27,(some (some .i64))),(28,28,(some (some .u64))),(29,29,(some (some .i64))),(30,30,(some (some .u64))),(31,31,(some (some .i64))),(32,32,(some (some .u64))),(33,33,(some (some .i64))),(34,34,(some (some .u64))),(35,35,(some (some .i64))),(36,36,(some (some .i64))),(37,37,none),(38,38,none),(39,39,none),(40,40,none),(41,41,(some (some .i64))),(42,42,(some (some .u64))),(43,43,(some (some .i64))),(44,44,(some (some .u64))),(45,45,(some (some .i64))),(46,46,(some (some .u64))),(47,47,none)]
def san:Nat:=211
noncomputable def saU (xs:List Int):Nat:=(dec (xs.getD 16 0)).length+1
noncomputable def saG:(Nat→List Int→List Int)→List Int→List Int:=qfv saI (fun _=>saT) saU
theorem zog (F:Nat→List Int→List Int) (xs:List Int) (hp:Pre saL F xs):qdn (fun _=>saT) F 0 (saU xs) (saI.map (SE.val (qaa F xs))):=qo6 (outs:=saL.outs) (C:=saC) (c:=48) (la:=16) (lb:=40) (by kernel_rfl) (by kernel_rfl) (by simp [saC]) (by simp [saC]) (by kernel_rfl) (by kernel_rfl) (by kernel_rfl) (hp.lv (5,16) (by decide)) (hp.lv (10,40) (by decide)) (hp.pre _ (.head _))
theorem z5c:qak (bW.loops qso) qhq 300 saL.f san (qa3 Tryz.prog saL.f saL.id) saS saM saL.F saL.nx saS saL.outs saL.kk saT []=true:=by kernel_rfl
theorem sa_ok:LCT Tryz.prog saL (FT qhq) (saG (FT qhq)):=
 qc8 (b:=bW.loops qso) (Tb:=qhq) (y:=saL) (M:=saM) (T:=fun _=>saT) (S:=fun _=>saS) (init:=saI) (qag qbi _) (qbj q00) q3f (d:=300) (n:=san) (by kernel_rfl) (by kernel_rfl) (by kernel_rfl) (by kernel_rfl) (fun _ _ _=>z5c) (fun xs hp=>zog _ xs hp)
theorem yfd (F:Nat→List Int→List Int):Cst saL (saG F):=qdh saC (by kernel_rfl) (fun _ _ _=>by kernel_rfl)
noncomputable def qhv:List Ent:=⟨20114,[],.tup [],saG,true⟩::qhq
def qro:List LEnt:=saL::qso
theorem q14:qcd Tryz.prog qhv:=qbw q3f rfl (by kernel_rfl)
theorem q0x:LBs Tryz.prog qro qhv:=qbl (y:=saL) q00 (by kernel_rfl) (by kernel_rfl) (by kernel_rfl) sa_ok (yfd _)
def svS:List (Nat×V):=([(2,D9),(3,C5),(4,CW),(9,CL),(0,(.any 0)),(1,(.any 1))]++ay 10 111)
def svM:MB:=Ba
def svF:MB:=Jl
abbrev EF:SE:=.len Bp
def svT:RT:=(.ask (.cmp .lss Ac BT) (.know CN true (.know (.cmp .lss Ac EF) true (.ask (.not (.and (.cmp .eql (.el (some .i64) Ax Ac 0) (.el (some .i64) Bp Ac 0)) (.and (.cmp .eql (.el (some .i64) Ax Ac 1) (.el (some .i64) Bp Ac 1)) (.and (.cmp .eql (.el (some .i64) Ax Ac 2) (.el (some .i64) Bp Ac 2)) (.and (.cmp .eql (.el (some .i64) Ax Ac 3) (.el (some .i64) Bp Ac 3)) Ap))))) (.out 0 []) (.next [Ah,Af,Am,AA,As,Aq,AN,AK,AO,AB,AP,Ay,AH,Ag,Au,Ao,AF,AQ,AR,AJ,AS,AU,AV,Ax,Aj,AM,Ca,Cb,Cc,Cd,Ce,Cf,Cg,Ch,Ci,Cj,Ck,Az,Bh,AX,BH,Cl,Cm,Cn,Co,Cp,Cq,Bp,(.bin .add .i64 Ac Aw)])))) (.out 1 [Ah,Af,Am,AA,As,Aq,AN,AK,AO,AB,AP,Ay,AH,Ag,Au,Ao,AF,AQ,AR,AJ,AS,AU,AV,Ax,Aj,AM,Ca,Cb,Cc,Cd,Ce,Cf,Cg,Ch,Ci,Cj,Ck,Az,Bh,AX,BH,Cl,Cm,Cn,Co,Cp,Cq,Bp]))
def svL:LEnt:={f:=11,id:=26,num:=20115,nx:=12,S:=([(2,D9),(3,C5),(4,CW),(9,Bi),(0,(.any 0)),(1,(.any 1))]++ay 10 111),M:=Ba,F:=svF,kk:=[0,1,2,3,4,5,6,7,8,9,10,11],outs:=[{x:= .ret,S:=B4,M:=[],cv:=[]},{x:=(.exit 8),S:=CO,M:=Ba,cv:=sbC}],lv:=[(2,13),(3,14),(4,15),(5,16),(6,23),(7,37),(8,38),(9,39),(10,40),(11,47)],sm:=[],pre:=[(.cmp .neq BT EF,false)]}
def svI:List SE:=CP
def svC:List (Nat×Nat×Option (Option IntKind)):=[(0,0,(some (some .i64))),(1,1,(some (some .i64))),(2,2,(some (some .u64))),(3,3,(some (some .i64))),(4,4,(some (some .u64))),(5,5,(some (some .i64))),(6,6,(some (some .u64))),(7,7,(some (some .i64))),(8,8,(some (some .u64))),(9,9,(some (some .i64))),(10,10,(some (some .u64))),(11,11,(some (some .i64))),(12,12,(some (some .i64))),(13,13,none),(14,14,none),(15,15,none),(16,16,none),(17,17,(some (some .i64))),(18,18,(some (some .u64))),(19,19,(some (some .i64))),(20,20,(some (some .u64))),(21,21,(some (some .i64))),(22,22,(some (some .u64))),(23,23,none),(24,24,(some (some .i64))),(25,25,(some (some .i64))),(26,26,(some (some .u64))),(27,27,(some (some .i64))),(28,28,(some (some .u64))),(29,29,(some (some .i64))),(30,30,(some (some .u64))),(31,31,(some (some .i64))),(32,32,(some (some .u64))),(33,33,(some (some .i64))),(34,34,(some (some .u64))),(35,35,(some (some .i64))),(36,36,(some (some .i64))),(37,37,none),(38,38,none),(39,39,none),(40,40,none),(41,41,(some (some .i64))),(42,42,(some (some .u64))),(43,43,(some (some .i64))),(44,44,(some (some .u64))),(45,45,(some (some .i64))),(46,46,(some (some .u64))),(47,47,none)]
def svn:Nat:=211
noncomputable def svU (xs:List Int):Nat:=(dec (xs.getD 23 0)).length+1
noncomputable def svG:(Nat→List Int→List Int)→List Int→List Int:=qfv svI (fun _=>svT) svU
theorem zq1 (F:Nat→List Int→List Int) (xs:List Int) (hp:Pre svL F xs):qdn (fun _=>svT) F 0 (svU xs) (svI.map (SE.val (qaa F xs))):=qo6 (outs:=svL.outs) (C:=svC) (c:=48) (la:=23) (lb:=47) (by kernel_rfl) (by kernel_rfl) (by simp [svC]) (by simp [svC]) (by kernel_rfl) (by kernel_rfl) (by kernel_rfl) (hp.lv (6,23) (by decide)) (hp.lv (11,47) (by decide)) (hp.pre _ (.head _))
theorem z72:qak (bW.loops qro) qhv 300 svL.f svn (qa3 Tryz.prog svL.f svL.id) svS svM svL.F svL.nx svS svL.outs svL.kk svT []=true:=by kernel_rfl
theorem sv_ok:LCT Tryz.prog svL (FT qhv) (svG (FT qhv)):=
 qc8 (b:=bW.loops qro) (Tb:=qhv) (y:=svL) (M:=svM) (T:=fun _=>svT) (S:=fun _=>svS) (init:=svI) (qag qbi _) (qbj q0x) q14 (d:=300) (n:=svn) (by kernel_rfl) (by kernel_rfl) (by kernel_rfl) (by kernel_rfl) (fun _ _ _=>z72) (fun xs hp=>zq1 _ xs hp)
theorem z7b (F:Nat→List Int→List Int):Cst svL (svG F):=qdh svC (by kernel_rfl) (fun _ _ _=>by kernel_rfl)
noncomputable def qxd:List Ent:=⟨20115,[],.tup [],svG,true⟩::qhv
def zea:List LEnt:=svL::qro
theorem zjc:qcd Tryz.prog qxd:=qbw q14 rfl (by kernel_rfl)
theorem zjd:LBs Tryz.prog zea qxd:=qbl (y:=svL) q0x (by kernel_rfl) (by kernel_rfl) (by kernel_rfl) sv_ok (z7b _)
noncomputable def qd_:List Ent:=qxd
def qpa:List LEnt:=zea
theorem zn5:qcd Tryz.prog qd_:=zjc
theorem zpn:LBs Tryz.prog qpa qd_:=zjd
structure FEnt where
 f:Nat
 num:Nat
 nx:Nat
 A:List V
 M:MB
 F:MB
 kk:List Nat:=[]
 ny:Nat
 R:List V
 N:MB
 lv:List (Nat×Nat):=[]
 sm:List Nat:=[]
 pre:List (SE×Bool):=[]
def numS:Nat→List V→List (Nat×V)
 |_,[]=>[]
 |i,v::r=>(i,v)::numS (i+1) r
def vsOf:V→List V
 | .tup vs=>vs
 |v=>[v]
def z6e:V→Bool
 | .tup [_]=>false
 |_=>true
def FCT (P:Program) (y:FEnt) (Fy:Nat→List Int→List Int) (g:List Int→List Int):Prop:=isFn P y.f=true∧∀(xs:List Int) (av:Nat→Value) (frs:List Blk) (w0:World) (σ:List (Nat×Nat×Nat)) (us:List Value) (L:List Blk),σ.length=y.nx→RelVs (qeo Fy xs av frs) σ y.A us→RM P (qeo Fy xs av frs) σ (que::y.M) L→FR P (qeo Fy xs av frs) σ [y.F] w0→(∀j∈y.sm,(dec (xs.getD j 0)).length≤1000000)→(∀c∈y.pre,(c.1.val (qeo Fy xs av frs) !=0)=c.2)→∀w,Own w0 L w→
 Calls P y.f (List.toArray us) w fun en w'=>∃us' σ' L',en= .returned (zle us')∧σ'.length=y.ny∧(∀k∈y.kk,σ'[k]? =σ[k]?)∧RelVs (qeo Fy (g xs) av frs) σ' y.R us'∧RM P (qeo Fy (g xs) av frs) σ' (que::y.N) L'∧Own w0 L' w'
def mVs:List V→List V→Bd→Option Bd
 |[],[],b=>some b
 |p::ps,v::vs,b=>(match mV p v b with |some b1=>mVs ps vs b1 |none=>none)
 |_,_,_=>none
def Fl.fillVs (q:Fl):List V→List V
 |[]=>[]
 |v::vs=>q.fillV v::q.fillVs vs
def q4l:V→Bool
 | .any _=>false
 |_=>true
def yd0 (D:SE→Option Bool) (m:List MB):C→C
 | .sli k z=>(match qtf m k with
  |some (x,_,_)=>bif decide (z=x) then .sli k z else (match D (.cmp .neq (qki z) (qki x)) with |some false=> .sli k x |_=> .sli k z)
  |none=> .sli k z)
 |c=>c
def nrmV (D:SE→Option Bool) (m:List MB):V→V
 | .one c=> .one (yd0 D m c)
 | .agg cs=> .agg (cs.map (yd0 D m))
 |v=>v
section
variable {E:Env} {σ:List (Nat×Nat×Nat)} {D:SE→Option Bool} (hd:∀x t,D x=some t→eS E x= .bool t) {m:List MB}
include hd
theorem q0e {c:C} {u:Value} (h:RelC E σ c u):RelC E σ (yd0 D m c) u:=by
 unfold yd0
 split
 ·rename_i k z
  split
  ·rename_i x ks T hl
   cases hb:decide (z=x) with
   |true=>rw [cond_true];exact h
   |false=>
    rw [cond_false]
    split
    ·rename_i hq
     have h1:=hd _ _ hq
     rw [qf5] at h1
     injection h1 with h1
     have h2:((qki z).val E !=(qki x).val E)=false:=h1
     rw [bne_eq_false_iff_eq,(qfd z).1,(qfd x).1] at h2
     have h3:sat (z.lst E).length=sat (x.lst E).length:=by omega
     cases h with |sli hg=>
     have:=RelC.sli (e:=E) (x:=x) hg
     rw [←h3] at this;exact this
    ·exact h
  ·exact h
 ·exact h
theorem qt5:∀{cs:List C} {us:List Value},RelCs E σ cs us→RelCs E σ (cs.map (yd0 D m)) us
 |_,_,.nil=> .nil
 |_,_,.cons h t=> .cons (q0e hd h) (qt5 t)
theorem zmy {v:V} {u:Value} (h:RelV E σ v u):RelV E σ (nrmV D m v) u:=by
 cases h with
 |one hc=>exact .one (q0e hd hc)
 |agg hc=>exact .agg (qt5 hd hc)
 |tup hc=>exact .tup hc
 |any=>exact .any
theorem qps:∀{vs:List V} {us:List Value},RelVs E σ vs us→RelVs E σ (vs.map (nrmV D m)) us
 |_,_,.nil=> .nil
 |_,_,.cons h t=> .cons (zmy hd h) (qps t)
end
def fRun (y:FEnt):zz2:=fun D f vs M F nx=>
 match mVs y.A (vs.map (nrmV D (M::F))) ⟨[],[]⟩ with
 |some b1=>(match mM y.M M b1 with
  |some (b2,rest)=>(match mF y.F F b2 with
   |some b=>bif b.ks.all (fun p=>Nat.blt p.1 y.nx)&&b.ks.all (fun p=>match p.2 with |some ka=>Nat.blt ka nx |none=>true)&&y.sm.all (fun j=>match b.ts[j]? with |some x=>smD D x |none=>false)&&y.pre.all (z39 D b.ts) then
     some (yda (Fl.fillVs ⟨y.num,seL b.ts,b.ts,[],y.kk,b.ks,nx⟩ y.R),Fl.fillM ⟨y.num,seL b.ts,b.ts,[],y.kk,b.ks,nx⟩ y.N++rest,nx+y.ny) else none
   |none=>none)
  |none=>none)
 |none=>none
def qwo:List FEnt→zz2
 |[]=>fun _ _ _ _ _ _=>none
 |y::r=>fun D f vs M F nx=>bif Nat.beq f y.f then (match fRun y D f vs M F nx with |some x=>some x |none=>qwo r D f vs M F nx) else qwo r D f vs M F nx
theorem qmh:∀{Fs:List FEnt} {D:SE→Option Bool} {f:Nat} {vs:List V} {M:MB} {F:List MB} {nx:Nat} {r:V×MB×Nat},qwo Fs D f vs M F nx=some r→∃y∈Fs,f=y.f∧fRun y D f vs M F nx=some r
 |[],_,_,_,_,_,_,_,h=>by cases h
 |y::Fs,D,f,vs,M,F,nx,r,h=>by
  simp only [qwo] at h
  cases hb:Nat.beq f y.f with
  |true=>
   rw [hb,cond_true] at h
   split at h
   ·rename_i x hx;cases h
    exact ⟨y,.head _,Nat.eq_of_beq_eq_true hb,hx⟩
   ·obtain ⟨z,h1,h2⟩:=qmh h
    exact ⟨z,.tail _ h1,h2⟩
  |false=>
   rw [hb,cond_false] at h
   obtain ⟨z,h1,h2⟩:=qmh h
   exact ⟨z,.tail _ h1,h2⟩
def zgk (y:FEnt):Bool:=y.A.all q4l&&(y.R.all (fun v=>q4l v&&zhg v)&&z84 y.N)
section
variable {E E':Env} {σ σ':List (Nat×Nat×Nat)} {P:Program}
theorem q6k:∀{ps vs:List V} {b b':Bd},mVs ps vs b=some b'→SubB b b'
 |[],[],b,b',h=>by cases h;exact SubB.refl _
 |p::ps,v::vs,b,b',h=>by
  simp only [mVs] at h
  split at h
  ·rename_i b1 h1;exact (zq5 h1).trans (q6k h)
  ·cases h
 |[],v::vs,b,b',h=>by cases h
 |p::ps,[],b,b',h=>by cases h
theorem q7w:∀{ps vs:List V} {b b':Bd} {us:List Value},mVs ps vs b=some b'→Tgt b' E E' σ σ'→ps.all q4l=true→RelVs E σ vs us→RelVs E' σ' ps us
 |[],[],b,b',us,h,g,_,hr=>by cases hr;exact .nil
 |p::ps,v::vs,b,b',us,h,g,hn,hr=>by
  simp only [List.all_cons,Bool.and_eq_true] at hn
  simp only [mVs] at h
  split at h
  ·rename_i b1 h1
   cases hr with |cons r1 r2=>
   exact .cons (zoz h1 (g.sub (q6k h)) (.inr fun i hi=>by subst hi;exact absurd hn.1 (by simp [q4l])) r1) (q7w h g hn.2 r2)
  ·cases h
 |[],v::vs,b,b',us,h,_,_,_=>by cases h
 |p::ps,[],b,b',us,h,_,_,_=>by cases h
theorem qyu {q:Fl} {Fy:Nat→List Int→List Int} {ys:List Int} {av:Nat→Value} {frs:List Blk} {σo:List (Nat×Nat×Nat)} (h:FlOK q E ys σ' σo):∀{ps:List V} {us:List Value},(ps.all fun v=>q4l v&&zhg v)=true→RelVs (qeo Fy ys av frs) σ' ps us→RelVs E σo (q.fillVs ps) us
 |[],us,_,hr=>by cases hr;exact .nil
 |p::ps,us,hp,hr=>by
  simp only [List.all_cons,Bool.and_eq_true] at hp
  cases hr with |cons r1 r2=>
  refine .cons ?_ (qyu h hp.2 r2)
  cases p with
  |one c=>exact .one (qwf h (by simpa only [zhg] using hp.1.2) (qd0 r1))
  |agg cs=>
   obtain ⟨vs,h1,h2⟩:=qg2 r1
   rw [h2]
   exact .agg (qmd h (by simpa only [zhg] using hp.1.2) h1)
  |tup vs=>simp [zhg] at hp
  |any i=>simp [q4l] at hp
end
def FBs (P:Program) (Fs:List FEnt) (Tb:List Ent):Prop:=∀y∈Fs,zgk y=true∧∃Fy g,FCT P y Fy g∧∀xs,FT Tb y.num xs=0::g xs
theorem zkp {b:Cfg} {Fs:List FEnt} {Tb:List Ent} (h:FBs b.P Fs Tb) {E:Env} (hE:E.F=fun f i ys=>(FT Tb f ys).getD i 0) {D:SE→Option Bool} (hd:∀x t,D x=some t→eS E x= .bool t) {σ0:List (Nat×Nat×Nat)}:qjz b (eV E) σ0 (qwo Fs D):=by
 intro f vs M F nx v M' nx' hr
 obtain ⟨y,hy,rfl,hrun⟩:=qmh hr
 obtain ⟨hp,Fy,gy,⟨hfn,hc⟩,hg⟩:=h y hy
 simp only [zgk,Bool.and_eq_true] at hp
 obtain ⟨hany,hpR,hpN⟩:=hp
 refine ⟨hfn,fun w0 σ us LM hn hx0 hus hM hF w hw=> ?_⟩
 unfold fRun at hrun
 split at hrun
 ·rename_i b1 h1
  split at hrun
  ·rename_i b2 rest h2
   split at hrun
   ·rename_i bd h3
    cases hb:(bd.ks.all (fun p=>Nat.blt p.1 y.nx)&&bd.ks.all (fun p=>match p.2 with |some ka=>Nat.blt ka nx |none=>true)&&y.sm.all (fun j=>match bd.ts[j]? with |some x=>smD D x |none=>false)&&y.pre.all (z39 D bd.ts)) with
    |false=>rw [hb,cond_false] at hrun;cases hrun
    |true=>
     rw [hb,cond_true] at hrun
     simp only [Option.some.injEq,Prod.mk.injEq] at hrun
     obtain ⟨rfl,rfl,rfl⟩:=hrun
     simp only [Bool.and_eq_true] at hb
     obtain ⟨⟨⟨hlt,hltk⟩,hsm⟩,hpre⟩:=hb
     have s3:=qlv h3
     have s2:=(qo_ h2).trans s3
     obtain ⟨Lp,Lr,c2,c3,c1⟩:=qvp h2 hM
     have g:=Tgt.rebase (E:=E) (F:=Fy) (σ:=σ) (av:=E.av) (frs:=Lr) hlt
     have c1:=c1 _ _ (g.sub s3)
     refine (hc (bd.ts.map (SE.val E)) E.av Lr w0 (rebase σ y.nx bd) us (Lr++Lp) (by simp [rebase]) (q7w h1 (g.sub s2) hany (qps hd hus)) (.frm c1) (qqw hF h3 g) (fun j hj=> ?_) (fun c hc=> ?_) w (hw.perm (c3.trans List.perm_append_comm))).mono ?_
     ·have:=List.all_eq_true.1 hsm j hj
      split at this
      ·rename_i x hx
       have e:(bd.ts.map (SE.val E)).getD j 0=x.val E:=by rw [List.getD_eq_getElem?_getD,List.getElem?_map,hx];rfl
       rw [e];exact qvn hd this
      ·cases this
     ·have:=List.all_eq_true.1 hpre c hc
      unfold z39 at this
      split at this
      ·rename_i x hx
       simp only [Bool.and_eq_true] at this
       obtain ⟨hty,this⟩:=this
       have hty:=qfy hty
       split at this
       ·rename_i bv hbv
        have hbv2:=hd _ _ hbv
        rw [beq_iff_eq.1 this,qne hty] at hbv2
        rw [←qyn (E:=E) c.1 hx]
        simpa [qf2] using hbv2
       ·cases this
      ·cases this
     ·rintro en w' ⟨us',σ',L',rfl,hl',hk',hR',hM',hw'⟩
      have hFE:∀i,E.F y.num i ((seL bd.ts).vals E)=((0:Int)::gy (bd.ts.map (SE.val E))).getD i 0:=fun i=>by rw [hE,qhl];show (FT Tb y.num (bd.ts.map (SE.val E))).getD i 0=_;rw [hg]
      have fok:FlOK ⟨y.num,seL bd.ts,bd.ts,[],y.kk,bd.ks,nx⟩ E (gy (bd.ts.map (SE.val E))) σ' (σ++σ'):=by
       refine ⟨fun j=>by rw [hFE];simp,fun c hc=>(by cases hc),fun k v hkv=> ?_⟩
       have hdef:(σ++σ')[nx+k]? =some v:=by rw [List.getElem?_append_right (by omega),hn,show nx+k - nx=k by omega];exact hkv
       unfold Fl.key
       cases hcon:y.kk.contains k with
       |false=>simp only [hcon,cond_false];exact hdef
       |true=>
        simp only [hcon,cond_true]
        split
        ·rename_i ka hlk
         have hmk:k∈y.kk:=List.contains_iff_mem.1 hcon
         have h5:=hk' k hmk
         rw [hkv] at h5
         unfold rebase at h5
         have hklt:k<y.nx:=by
          have:=List.all_eq_true.1 hlt _ (qj0 hlk)
          simpa [Nat.blt_eq] using this
         rw [List.getElem?_map,List.getElem?_range hklt] at h5
         simp only [Option.map_some,hlk] at h5
         cases hka:σ[ka]? with
         |none=>
          have h6:=List.all_eq_true.1 hltk _ (qj0 hlk)
          have h6:ka<nx:=by simpa [Nat.blt_eq] using h6
          rw [List.getElem?_eq_none_iff] at hka
          omega
         |some z=>
          rw [hka] at h5
          simp only [Option.getD_some,Option.some.injEq] at h5
          rw [h5]
          exact Ext.get ⟨σ',rfl⟩ hka
        ·exact hdef
      cases hM' with
      |frm t=>exact ⟨_,σ++σ',_,rfl,⟨σ',rfl⟩,by simp [hn,hl'],qrj (qyu fok hpR hR'),(qn_ fok hpN t).app (c2.mono ⟨σ',rfl⟩),hw'.perm List.perm_append_comm⟩
      |cons hk1 hc1 ho1 hr1 t=>cases hc1.notBig
   ·cases hrun
  ·cases hrun
 ·cases hrun
def cfF (b:Cfg) (Tb:List Ent) (K:qm7) (Fs:List FEnt) (ds:List (SE×Bool)):Cfg:={cfK b Tb K ds with B:=fun D f vs M F nx=>match b.B D f vs M F nx with |some r=>some r |none=>qwo Fs D f vs M F nx}
theorem okF' {b:Cfg} (hb:CfgOK b) {E:Env} {Tb:List Ent} {K:qm7} (hK:KOK b.P K) (hlb:LB b Tb) (h:qcd b.P Tb) {Fs:List FEnt} (hFs:FBs b.P Fs Tb) (hE:E.F=fun f i ys=>(FT Tb f ys).getD i 0) {ds:List (SE×Bool)} (hk:Knows E ds) {σ0:List (Nat×Nat×Nat)}:OK (cfF b Tb K Fs ds) (eV E) σ0:=
 have o:=okK hb hK hlb h hE hk (σ0:=σ0)
 ⟨o.he,o.x,o.h,o.g,o.d,o.l,fun f vs M F nx v M' nx' hr=>by
  change (match b.B (dS ds) f vs M F nx with |some r=>some r |none=>qwo Fs (dS ds) f vs M F nx)=some (v,M',nx') at hr
  cases hq:b.B (dS ds) f vs M F nx with
  |some r=>rw [hq] at hr;cases hr;exact o.b f vs M F nx _ _ _ hq
  |none=>rw [hq] at hr;exact zkp hFs hE (qwe hk) f vs M F nx _ _ _ hr,o.mixed⟩
structure PreF (y:FEnt) (F:Nat→List Int→List Int) (xs:List Int):Prop where
 lv:∀c∈y.lv,(dec (xs.getD c.2 0)).length≤maxLen
 sm:∀j∈y.sm,(dec (xs.getD j 0)).length≤1000000
 pre:∀c∈y.pre,(c.1.val (qaa F xs) !=0)=c.2
def lvF (y:FEnt):Bool:=y.kk.all (fun k=>Nat.blt k y.nx)&&y.lv.all fun c=>match lkL y.F c.1 with
 |some (.lvar j,_,_)=>Nat.beq j c.2
 |_=>(match lkL y.M c.1 with |some (.lvar j,_,_)=>Nat.beq j c.2&& !(Nat.beq frmK c.1) |_=>false)
def qg1 (b:Cfg) (Tb:List Ent) (K:qm7) (Fs:List FEnt) (d:Nat) (y:FEnt):RT→List (SE×Bool)→Bool
 | .out _ ys,ds=>(match evF (cfF b Tb K Fs ds) d y.f y.A (que::y.M) [y.F] y.nx with
  |some (v,m,nx')=>z6e v&&(Nat.beq (vsOf v).length y.R.length&&(Nat.ble y.ny nx'&&stQ (numS 0 y.R) y.N [] y.ny y.kk (initT ((vsOf v).map (nrmV (dS ds) [m]))) m ys))
  |none=>false)
 | .next _,_=>false
 | .ask x t e,ds=>qea x&&(qg1 b Tb K Fs d y t ((x,true)::ds)&&qg1 b Tb K Fs d y e ((x,false)::ds))
 | .know x v t,ds=>qea x&&qg1 b Tb K Fs d y t ((x,v)::ds)
theorem q1g {E:Env} {σ:List (Nat×Nat×Nat)}:∀{R:List V} {us:List Value} (i:Nat) (l:List (Nat×Value)),R.length=us.length→(∀t,look l (i+t)=us.getD t undef)→(∀p∈numS i R,RelV E σ p.2 (look l p.1))→RelVs E σ R us
 |[],[],_,_,_,_,_=> .nil
 |r::R,u::us,i,l,hl,hg,h=>by
  refine .cons ?_ (q1g (i+1) l (by simpa using hl) (fun t=>by rw [show i+1+t=i+(t+1) by omega,hg];rfl) fun p hp=>h p (.tail _ hp))
  have h0:=h (i,r) (.head _)
  have h1:=hg 0
  rw [Nat.add_zero] at h1
  have h2:look l i=u:=h1
  rw [←h2];exact h0
 |[],u::us,_,_,hl,_,_=>by cases hl
 |r::R,[],_,_,hl,_,_=>by cases hl
theorem zl0 {E:Env} {σ:List (Nat×Nat×Nat)} {v:V} {u:Value} (ht:z6e v=true) (h:RelV E σ v u):∃us,RelVs E σ (vsOf v) us∧u=zle us:=by
 cases h with
 |one hc=>exact ⟨[_],.cons (.one hc) .nil,rfl⟩
 |agg hc=>exact ⟨[_],.cons (.agg hc) .nil,rfl⟩
 |any=>exact ⟨[_],.cons .any .nil,rfl⟩
 |tup hc=>
  rename_i xs vs
  refine ⟨vs,hc,?_⟩
  match xs,vs,hc,ht with
  |[],[],_,_=>rfl
  |[x],[v],_,ht=>cases ht
  |x::y::r,v::v'::r',_,_=>rfl
  |[],v::r,hc,_=>cases hc
  |[x],[],hc,_=>cases hc
  |[x],v::v'::r,hc,_=>cases hc with |cons _ t=>cases t
  |x::y::r,[],hc,_=>cases hc
  |x::y::r,[v],hc,_=>cases hc with |cons _ t=>cases t
theorem qum {b:Cfg} (hb:CfgOK b) {Tb:List Ent} {K:qm7} (hK:KOK b.P K) (hlb:LB b Tb) (hT:qcd b.P Tb) {Fs:List FEnt} (hFs:FBs b.P Fs Tb) {y:FEnt} {d:Nat} {T:RT} (hf:isFn b.P y.f=true) (hlv:lvF y=true)
  (hc:qg1 b Tb K Fs d y T []=true) (hok:∀xs,PreF y (FT Tb) xs→T.ok (qaa (FT Tb) xs)):FCT b.P y (FT Tb) (fun xs=>(T.get (qaa (FT Tb) xs)).2):=by
 refine ⟨hf,fun xs av frs w0 σ us L hn hus hM hF hsm hpr w hw=> ?_⟩
 have hE:(qeo (FT Tb) xs av frs).F=fun f i ys=>(FT Tb f ys).getD i 0:=rfl
 simp only [lvF,Bool.and_eq_true] at hlv
 have hlen:∀c∈y.lv,(dec (xs.getD c.2 0)).length≤maxLen:=fun c hc=>by
  have hq:=List.all_eq_true.1 hlv.2 c hc
  have len:∀j,(SE.lvar j).lst (qeo (FT Tb) xs av frs)=dec (xs.getD j 0):=fun j=>by simp only [SE.lst,SE.val];rfl
  split at hq
  ·rename_i j ks T hl
   have:=Nat.eq_of_beq_eq_true hq
   subst this
   obtain ⟨g,bb,cc,_,f2,_⟩:=hF.l c.1 (.lvar c.2) ks T (by simp only [qtf,hl])
   rw [len] at f2;exact f2
  ·split at hq
   ·rename_i j ks T hl
    simp only [Bool.and_eq_true,Bool.not_eq_true'] at hq
    have:=Nat.eq_of_beq_eq_true hq.1
    subst this
    have hl2:lkL (que::y.M) c.1=some (.lvar c.2,ks,T):=by
     simp only [que,lkL,hq.2,cond_false];exact hl
    rcases hM.lookL hl2 with ⟨g,bb,a1,a2,_⟩ |⟨g,cc,rest,a1,a2,a3,a4,_⟩
    ·rw [len] at a2;rw [a2];exact Nat.zero_le _
    ·rw [len] at a4;omega
   ·cases hq
 have hpre:PreF y (FT Tb) xs:=⟨hlen,hsm,fun c hc=>by rw [←qho];exact hpr c hc⟩
 have key:∀(t:RT) (ds:List (SE×Bool)),qg1 b Tb K Fs d y t ds=true→Knows (qeo (FT Tb) xs av frs) ds→t.ok (qeo (FT Tb) xs av frs)→
   Calls b.P y.f (List.toArray us) w fun en w'=>∃us' σ' L',en= .returned (zle us')∧σ'.length=y.ny∧(∀k∈y.kk,σ'[k]? =σ[k]?)∧RelVs (qeo (FT Tb) ((t.get (qeo (FT Tb) xs av frs)).2) av frs) σ' y.R us'∧RM b.P (qeo (FT Tb) ((t.get (qeo (FT Tb) xs av frs)).2) av frs) σ' (que::y.N) L'∧Own w0 L' w':=by
  intro t
  induction t with
  |next zs=>intro ds h;cases h
  |out e zs=>
   intro ds h hk _
   simp only [qg1] at h
   split at h
   ·rename_i v m nx' hev
    simp only [Bool.and_eq_true] at h
    obtain ⟨ht,hlR,hny,hst⟩:=h
    have hlR:=Nat.eq_of_beq_eq_true hlR
    have ok:=okF' (σ0:=σ) hb hK hlb hT hFs hE hk
    refine ((qll ok (qh9 ok d) y.f y.A (que::y.M) [y.F] y.nx v m nx' hev).2 w0 σ us L hn (Ext.refl _) hus hM hF w hw).mono ?_
    rintro en w' ⟨u,σ1,LM,rfl,hx,hl1,hv,hm,hw'⟩
    obtain ⟨us1,r1,rfl⟩:=zl0 ht hv
    have r2:=qps (m:=[m]) (qwe hk) r1
    obtain ⟨σ',L',rest,q1,q2,q3,q4,q5,q6⟩:=qrm (P:=b.P) (Fy:=FT Tb) hst (by rw [hl1];exact Nat.le_of_ble_eq_true hny) (q1_ r2) hm (FR.none w0)
    refine ⟨us1,σ',L',rfl,q1,fun k hk=> ?_,?_,q4,?_⟩
    ·obtain ⟨a1,a2⟩:=q2 k hk
     have h3:=List.all_eq_true.1 hlv.1 k hk
     have h3:k<y.nx:=by simpa [Nat.blt_eq] using h3
     rw [a2,hx.back (by omega)]
    ·exact q1g 0 (initL us1) (by rw [←hlR,r1.len]) (fun t=>zar us1 0 t) q3
    ·exact (hw'.perm q6).mono (List.sublist_append_left L' rest)
   ·cases h
  |ask q t e iht ihe=>
   intro ds h hk hok
   simp only [qg1,Bool.and_eq_true] at h
   obtain ⟨h0,h1,h2⟩:=h
   have hty:=qfy h0
   have e0:eS (qeo (FT Tb) xs av frs) q= .bool (q.val (qeo (FT Tb) xs av frs) !=0):=by simp only [eS,hty]
   cases hb':(q.val (qeo (FT Tb) xs av frs) !=0) with
   |true=>
    have:=iht _ h1 (.cons (by rw [e0,hb']) hk) (hok.1 hb')
    simp only [RT.get,hb',cond_true];exact this
   |false=>
    have:=ihe _ h2 (.cons (by rw [e0,hb']) hk) (hok.2 hb')
    simp only [RT.get,hb',cond_false];exact this
  |know q v t iht=>
   intro ds h hk hok
   simp only [qg1,Bool.and_eq_true] at h
   obtain ⟨h0,h1⟩:=h
   have hty:=qfy h0
   have e0:eS (qeo (FT Tb) xs av frs) q= .bool (q.val (qeo (FT Tb) xs av frs) !=0):=by simp only [eS,hty]
   exact iht _ h1 (.cons (by rw [e0,hok.1]) hk) hok.2
 have:=key T [] hc .nil (RT.ok_env T (hok xs hpre))
 rw [RT.get_env] at this
 exact this
theorem za8 {P:Program} {Tb:List Ent}:FBs P [] Tb:=fun _ h=>by cases h
theorem qyk {P:Program} {Fs:List FEnt} {Tb:List Ent} {x:Ent} (h:FBs P Fs Tb) (hx:(Fs.all fun y=> !Nat.beq y.num x.f)=true):FBs P Fs (x::Tb):=fun y hy=>by
 have hn:Nat.beq y.num x.f=false:=by have:=List.all_eq_true.1 hx y hy;simpa using this
 obtain ⟨h1,Fy,g,h2,h3⟩:=h y hy
 refine ⟨h1,Fy,g,h2,fun xs=> ?_⟩
 have e:FT (x::Tb) y.num=FT Tb y.num:=by funext xs;simp only [FT,hn,cond_false]
 rw [e];exact h3 xs
theorem qqh {P:Program} {Fs:List FEnt} {Tb:List Ent} {x:Ent} {y:FEnt} (h:FBs P Fs Tb) (hx:(Fs.all fun y=> !Nat.beq y.num x.f)=true) (hy:Nat.beq y.num x.f=true) (he:zgk y=true) {Fy:Nat→List Int→List Int} {g:List Int→List Int} (hc:FCT P y Fy g) (hg:∀xs,x.fn (FT Tb) xs=0::g xs):FBs P (y::Fs) (x::Tb):=fun z hz=>by
 rcases List.mem_cons.1 hz with rfl |hz
 ·have e:FT (x::Tb) z.num=x.fn (FT Tb):=by funext xs;simp only [FT,hy,cond_true]
  exact ⟨he,Fy,g,hc,fun xs=>by rw [e];exact hg xs⟩
 ·exact qyk h hx z hz
noncomputable def qv0 (T:RT) (F:Nat→List Int→List Int) (xs:List Int):List Int:=0::(T.get (qaa F xs)).2
def qjt (b:Cfg) (Tb:List Ent) (K:qm7) (Fs:List FEnt) (d f:Nat) (args:List V) (F:MB) (nx:Nat):LT→List (SE×Bool)→Bool
 | .done,ds=>(match evF (cfF b Tb K Fs ds) d f args [] [F] nx with |some (.one (.bool r),_,_)=>r |_=>false)
 | .ask x t e,ds=>qea x&&(qjt b Tb K Fs d f args F nx t ((x,true)::ds)&&qjt b Tb K Fs d f args F nx e ((x,false)::ds))
 | .know x v t,ds=>qea x&&qjt b Tb K Fs d f args F nx t ((x,v)::ds)
theorem qkh {b:Cfg} {Tb:List Ent} {K:qm7} {Fs:List FEnt} (hb:CfgOK b) (hK:KOK b.P K) (hlb:LB b Tb) (hT:qcd b.P Tb) (hFs:FBs b.P Fs Tb) {E:Env} (hE:E.F=fun f i ys=>(FT Tb f ys).getD i 0) {σ:List (Nat×Nat×Nat)} {d f nx:Nat} {args:List V} {us:List Value} {F:MB} {w:World} (hn:σ.length=nx) (hus:RelVs E σ args us) (hF:FR b.P E σ [F] w):
  ∀(T:LT) (ds:List (SE×Bool)),qjt b Tb K Fs d f args F nx T ds=true→Knows E ds→T.ok E→Calls b.P f (List.toArray us) w fun en w'=>en= .returned (.bool true)∧Below w.heap.size w w'
 | .done,ds,h,hk,_=>by
  simp only [qjt] at h
  split at h
  ·rename_i r M n hev
   subst h
   exact qrx (c:=cfF b Tb K Fs ds) (σ0:=σ) (okF' hb hK hlb hT hFs hE hk) hn hF (by rw [hev];rfl) hus (.one .bool)
  ·cases h
 | .ask x t e,ds,h,hk,hok=>by
  simp only [qjt,Bool.and_eq_true] at h
  obtain ⟨h0,h1,h2⟩:=h
  have e0:eS E x= .bool (x.val E !=0):=by rw [qne (qfy h0)];rfl
  cases hb':(x.val E !=0) with
  |true=>exact qkh hb hK hlb hT hFs hE hn hus hF t _ h1 (.cons (by rw [e0,hb']) hk) (hok.1 hb')
  |false=>exact qkh hb hK hlb hT hFs hE hn hus hF e _ h2 (.cons (by rw [e0,hb']) hk) (hok.2 hb')
 | .know x v t,ds,h,hk,hok=>by
  simp only [qjt,Bool.and_eq_true] at h
  obtain ⟨h0,h1⟩:=h
  have e0:eS E x= .bool (x.val E !=0):=by rw [qne (qfy h0)];rfl
  exact qkh hb hK hlb hT hFs hE hn hus hF t _ h1 (.cons (by rw [e0,hok.1]) hk) hok.2
def kNo:qm7:=fun _ _=>none
theorem qtx {P:Program}:KOK P kNo:=fun _ _ _ _ _ _ h _=>by cases h
def qzj:RT→Bool
 | .out _ _=>true
 | .next _=>true
 | .ask _ t e=>qzj t&&qzj e
 | .know .. =>false
theorem qj5 {E:Env}:∀{t:RT},qzj t=true→t.ok E
 | .out _ _,_=>trivial
 | .next _,_=>trivial
 | .ask _ t e,h=>by
  simp only [qzj,Bool.and_eq_true] at h
  exact ⟨fun _=>qj5 h.1,fun _=>qj5 h.2⟩
abbrev H5:SE:=.cons Af (.cons Am (.cons (.lit .i64 1024) .nil))
abbrev H6:SE:=.and (.cmp .eql Af Aa) HD
abbrev H7:SE:=.cons AA (.cons As (.cons GA .nil))
abbrev H8:SE:=.cons Aq (.cons AN BR)
abbrev EG:SE:=.cons Aw .nil
abbrev H9:SE:=.cons AK (.cons AO EG)
abbrev Ia:SE:=.cons Ay (.cons Aa EG)
abbrev Ib:SE:=.app 49 0 none Ia
abbrev Ic:SE:=.cons Ah (.cons Aa D5)
abbrev EH:SE:=.app 49 0 none Ic
abbrev Ie:SE:=.cons AB (.cons AP EG)
abbrev Ig:SE:=.app 74 0 none Ie
abbrev Ih:SE:=.cons AH (.cons Aa EG)
abbrev Ii:SE:=.cons AQ (.cons AR (.cons (.lit .i64 67108864) .nil))
abbrev Ij:SE:=.cons AJ (.cons AS (.cons AU (.cons AV .nil)))
abbrev EI:SE:=.cmp .eql Aa Aw
abbrev Bq:SE:=.lit .i64 32
abbrev Ik:SE:=.cmp .gtr Bn Bq
abbrev Il:SE:=.cmp .gtr BS Bq
abbrev BC:SE:=.lit .i64 16
abbrev Im:SE:=.cmp .gtr BG BC
abbrev Io:SE:=.cmp .neq BO Bn
abbrev Ip:SE:=.cons Ag (.cons Ag .nil)
abbrev Iq:SE:=.cons Au (.cons Bn .nil)
abbrev Ir:SE:=.cons AF (.cons BG .nil)
abbrev Is:SE:=.cmp .leq BT BF
def mpT:RT:=(.ask (.app 74 0 none H5) (.ask (.not H6) (.ask (.app 74 0 none H7) (.ask (.app 74 0 none H8) (.ask (.app 74 0 none H9) (.ask Ib (.ask EH (.ask Ig (.ask (.app 49 0 none Ih) (.ask (.app 74 0 none Ii) (.ask (.not (.app 75 0 none Ij)) (.out 0 [EI]) (.ask Ik (.out 0 [EI]) (.ask Il (.out 0 [EI]) (.ask Im (.out 0 [EI]) (.ask Io (.out 0 [EI]) (.ask (.cmp .eql (.app 20031 0 (some .i64) (.cons Ao .nil)) Aa) (.out 0 [EI]) (.ask (.cmp .eql (.app 20061 0 (some .i64) Ip) Aa) (.ask (.cmp .geq (.app 20061 1 (some .i64) Ip) Aa) (.out 0 [EI]) (.ask (.cmp .eql (.app 20033 0 (some .i64) Iq) Aa) (.ask (.not (.cmp .geq (.app 20033 1 (some .i64) Iq) Aa)) (.ask (.cmp .eql (.app 20034 0 (some .i64) Ir) Aa) (.ask (.not (.cmp .geq (.app 20034 1 (some .i64) Ir) Aa)) (.ask (.cmp .eql (.app 20022 0 (some .i64) (.cons Ax DN)) Aa) (.out 0 [EI]) (.out 0 [Is])) (.out 0 [EI])) (.ask (.cmp .eql (.app 20022 0 (some .i64) (.cons Ax DN)) Aa) (.out 0 [EI]) (.out 0 [Is]))) (.out 0 [EI])) (.ask (.cmp .eql (.app 20034 0 (some .i64) Ir) Aa) (.ask (.not (.cmp .geq (.app 20034 1 (some .i64) Ir) Aa)) (.ask (.cmp .eql (.app 20022 0 (some .i64) (.cons Ax DN)) Aa) (.out 0 [EI]) (.out 0 [Is])) (.out 0 [EI])) (.ask (.cmp .eql (.app 20022 0 (some .i64) (.cons Ax DN)) Aa) (.out 0 [EI]) (.out 0 [Is]))))) (.ask (.cmp .eql (.app 20033 0 (some .i64) Iq) Aa) (.ask (.not (.cmp .geq (.app 20033 1 (some .i64) Iq) Aa)) (.ask (.cmp .eql (.app 20034 0 (some .i64) Ir) Aa) (.ask (.not (.cmp .geq (.app 20034 1 (some .i64) Ir) Aa)) (.ask (.cmp .eql (.app 20022 0 (some .i64) (.cons Ax DN)) Aa) (.out 0 [EI]) (.out 0 [Is])) (.out 0 [EI])) (.ask (.cmp .eql (.app 20022 0 (some .i64) (.cons Ax DN)) Aa) (.out 0 [EI]) (.out 0 [Is]))) (.out 0 [EI])) (.ask (.cmp .eql (.app 20034 0 (some .i64) Ir) Aa) (.ask (.not (.cmp .geq (.app 20034 1 (some .i64) Ir) Aa)) (.ask (.cmp .eql (.app 20022 0 (some .i64) (.cons Ax DN)) Aa) (.out 0 [EI]) (.out 0 [Is])) (.out 0 [EI])) (.ask (.cmp .eql (.app 20022 0 (some .i64) (.cons Ax DN)) Aa) (.out 0 [EI]) (.out 0 [Is]))))))))))) (.out 0 [EI])) (.out 0 [EI])) (.out 0 [EI])) (.out 0 [EI])) (.ask EH (.ask Ig (.out 0 [EI]) (.out 0 [EI])) (.out 0 [EI]))) (.ask Ib (.ask EH (.out 0 [EI]) (.out 0 [EI])) (.ask EH (.out 0 [EI]) (.out 0 [EI])))) (.ask Ib (.ask EH (.out 0 [EI]) (.out 0 [EI])) (.ask EH (.out 0 [EI]) (.out 0 [EI])))) (.ask Ib (.ask EH (.out 0 [EI]) (.out 0 [EI])) (.ask EH (.out 0 [EI]) (.out 0 [EI])))) (.ask Ib (.ask EH (.out 0 [EI]) (.out 0 [EI])) (.ask EH (.out 0 [EI]) (.out 0 [EI])))) (.ask Ib (.ask EH (.out 0 [EI]) (.out 0 [EI])) (.ask EH (.out 0 [EI]) (.out 0 [EI]))))
abbrev EJ:V:=.agg [BD,BA,Bc,C2,BE,Bj,En,Eo,Ep,C4,Er,C6,Es,(.sli 0 Ag),(.sli 1 Au),(.sli 2 Ao),(.sli 3 AF),Et,Eu,Ev,Ew,Ey,Ez,(.sli 4 Ax)]
abbrev Jz:MB:=[(0,Jm,54,false),(1,Jn,70,false),(2,Jo,72,false),(3,Jp,3,false),(4,Jq,38,false)]
def mpY:FEnt:={f:=21,num:=30001,nx:=5,A:=[EJ],M:=[],F:=Jz,ny:=0,R:=[(.one (.opq (.bvar 0)))],N:=[],lv:=[(0,13),(1,14),(2,15),(3,16),(4,23)],sm:=[],pre:=[]}
theorem z81 (F:Nat→List Int→List Int) (xs:List Int) (hp:PreF mpY F xs):mpT.ok (qaa F xs):=qj5 (by kernel_rfl)
theorem ygq:qg1 (bW.loops qpa) qd_ kNo ([]:List FEnt) 300 mpY mpT []=true:=by kernel_rfl
theorem ygv:FCT Tryz.prog mpY (FT qd_) (fun xs=>(mpT.get (qaa (FT qd_) xs)).2):=
 qum (b:=bW.loops qpa) (Tb:=qd_) (y:=mpY) (qag qbi _) (qtx) (qbj zpn) zn5 za8 (d:=300) (T:=mpT) (by kernel_rfl) (by kernel_rfl) ygq (fun xs hp=>z81 _ xs hp)
noncomputable def qbs:List Ent:=⟨30001,[],.tup [],qv0 mpT,true⟩::qd_
def qwc:List FEnt:=mpY::([]:List FEnt)
theorem q2j:qcd Tryz.prog qbs:=qbw zn5 rfl (by kernel_rfl)
theorem q0t:LBs Tryz.prog qpa qbs:=qao zpn (by kernel_rfl)
theorem q1s:FBs Tryz.prog qwc qbs:=qqh za8 (by kernel_rfl) (by kernel_rfl) (by kernel_rfl) ygv (fun _=>rfl)
abbrev It:SE:=.cons Af (.cons Am (.cons AA (.cons As (.cons Aq (.cons AN (.cons AK (.cons AO (.cons AB (.cons AP (.cons Ay (.cons AH (.cons Ag (.cons Au (.cons Ao (.cons AF (.cons AQ (.cons AR (.cons AJ (.cons AS (.cons AU (.cons AV (.cons Ax .nil))))))))))))))))))))))
abbrev CQ:SE:=.cons Ah It
def mqT:RT:=(.ask (.not (.app 17 0 none Ic)) (.out 0 [EI]) (.ask (.not (.app 18 0 none H5)) (.out 0 [EI]) (.ask H6 (.out 0 [EI]) (.ask (.not (.app 18 0 none H7)) (.out 0 [EI]) (.ask (.not (.app 18 0 none H8)) (.out 0 [EI]) (.ask (.not (.app 18 0 none H9)) (.out 0 [EI]) (.ask (.not (.app 18 0 none Ie)) (.out 0 [EI]) (.ask (.not (.app 17 0 none Ia)) (.out 0 [EI]) (.ask (.not (.app 17 0 none Ih)) (.out 0 [EI]) (.ask Ik (.out 0 [EI]) (.ask Il (.out 0 [EI]) (.ask Im (.out 0 [EI]) (.ask Io (.out 0 [EI]) (.ask (.cmp .gtr BT BF) (.out 0 [EI]) (.ask (.app 18 0 none Ii) (.ask (.app 19 0 none Ij) (.ask (.cmp .eql (.app 20011 0 (some .i64) CQ) Aa) (.out 0 [EI]) (.ask (.cmp .eql (.app 20012 0 (some .i64) (.cons Ah (.cons Af (.cons Am (.cons AA (.cons As (.cons Aq (.cons AN (.cons AK (.cons AO (.cons AB (.cons AP (.cons Ay (.cons AH (.cons Ag (.cons Au (.cons Ao (.cons AF (.cons AQ (.cons AR (.cons AJ (.cons AS (.cons AU (.cons AV (.cons Ax (.cons (.app 20011 25 (some .i64) CQ) .nil)))))))))))))))))))))))))) Aa) (.out 0 [EI]) (.ask (.cmp .eql (.app 20013 0 (some .i64) CQ) Aa) (.out 0 [EI]) (.ask (.cmp .eql (.app 20014 0 (some .i64) CQ) Aa) (.out 0 [EI]) (.out 0 [Ap]))))) (.out 0 [EI])) (.out 0 [EI]))))))))))))))))
def mqY:FEnt:={f:=7,num:=30002,nx:=5,A:=[EJ],M:=[],F:=Jz,ny:=0,R:=[(.one (.opq (.bvar 0)))],N:=[],lv:=[(0,13),(1,14),(2,15),(3,16),(4,23)],sm:=[],pre:=[]}
theorem yf9 (F:Nat→List Int→List Int) (xs:List Int) (hp:PreF mqY F xs):mqT.ok (qaa F xs):=qj5 (by kernel_rfl)
theorem ybz:qg1 (bW.loops qpa) qbs kNo qwc 300 mqY mqT []=true:=by kernel_rfl
theorem z6a:FCT Tryz.prog mqY (FT qbs) (fun xs=>(mqT.get (qaa (FT qbs) xs)).2):=
 qum (b:=bW.loops qpa) (Tb:=qbs) (y:=mqY) (qag qbi _) (qtx) (qbj q0t) q2j q1s (d:=300) (T:=mqT) (by kernel_rfl) (by kernel_rfl) ybz (fun xs hp=>yf9 _ xs hp)
noncomputable def qba:List Ent:=⟨30002,[],.tup [],qv0 mqT,true⟩::qbs
def qxi:List FEnt:=mqY::qwc
theorem qym:qcd Tryz.prog qba:=qbw q2j rfl (by kernel_rfl)
theorem q35:LBs Tryz.prog qpa qba:=qao q0t (by kernel_rfl)
theorem qyz:FBs Tryz.prog qxi qba:=qqh q1s (by kernel_rfl) (by kernel_rfl) (by kernel_rfl) z6a (fun _=>rfl)
abbrev CR:SE:=.cons Ah (.cons Af (.cons Am (.cons AA (.cons As (.cons Aq (.cons AN (.cons AK (.cons AO (.cons AB (.cons AP (.cons Ay (.cons AH (.cons Ag (.cons Au (.cons Ao (.cons AF (.cons AQ (.cons AR (.cons AJ (.cons AS (.cons AU (.cons AV (.cons Ax (.cons Aj (.cons AM (.cons Ca (.cons Cb (.cons Cc (.cons Cd (.cons Ce (.cons Cf (.cons Cg (.cons Ch (.cons Ci (.cons Cj (.cons Ck (.cons Az (.cons Bh (.cons AX (.cons BH (.cons Cl (.cons Cm (.cons Cn (.cons Co (.cons Cp (.cons Cq (.cons Bp .nil)))))))))))))))))))))))))))))))))))))))))))))))
def msT:RT:=(.ask (.cmp .neq Ah Aj) (.out 0 [EI]) (.ask (.not (.and (.cmp .eql Af AM) (.and (.cmp .eql Am Ca) Ap))) (.out 0 [EI]) (.ask (.not (.and (.cmp .eql AA Cb) (.and (.cmp .eql As Cc) Ap))) (.out 0 [EI]) (.ask (.not (.and (.cmp .eql Aq Cd) (.and (.cmp .eql AN Ce) Ap))) (.out 0 [EI]) (.ask (.not (.and (.cmp .eql AK Cf) (.and (.cmp .eql AO Cg) Ap))) (.out 0 [EI]) (.ask (.not (.and (.cmp .eql AB Ch) (.and (.cmp .eql AP Ci) Ap))) (.out 0 [EI]) (.ask (.cmp .neq Ay Cj) (.out 0 [EI]) (.ask (.cmp .neq AH Ck) (.out 0 [EI]) (.ask (.not (.and (.cmp .eql AQ Cl) (.and (.cmp .eql AR Cm) Ap))) (.out 0 [EI]) (.ask (.not (.and (.and (.cmp .eql AJ Cn) (.and (.cmp .eql AS Co) Ap)) (.and (.and (.cmp .eql AU Cp) (.and (.cmp .eql AV Cq) Ap)) Ap))) (.out 0 [EI]) (.ask (.cmp .neq Bn EB) (.out 0 [EI]) (.ask (.cmp .neq BS EC) (.out 0 [EI]) (.ask (.cmp .neq BG ED) (.out 0 [EI]) (.ask (.cmp .neq BO EE) (.out 0 [EI]) (.ask (.cmp .neq BT EF) (.out 0 [EI]) (.ask (.cmp .eql (.app 20111 0 (some .i64) CR) Aa) (.out 0 [EI]) (.ask (.cmp .eql (.app 20112 0 (some .i64) CR) Aa) (.out 0 [EI]) (.ask (.cmp .eql (.app 20113 0 (some .i64) CR) Aa) (.out 0 [EI]) (.ask (.cmp .eql (.app 20114 0 (some .i64) CR) Aa) (.out 0 [EI]) (.ask (.cmp .eql (.app 20115 0 (some .i64) CR) Aa) (.out 0 [EI]) (.out 0 [Ap])))))))))))))))))))))
def msY:FEnt:={f:=11,num:=30003,nx:=10,A:=[EJ,(.agg [Em,EA,(.opq Ca),(.opq Cb),(.opq Cc),(.opq Cd),(.opq Ce),(.opq Cf),(.opq Cg),(.opq Ch),(.opq Ci),(.opq Cj),(.opq Ck),(.sli 5 Az),(.sli 6 Bh),(.sli 7 AX),(.sli 8 BH),(.opq Cl),(.opq Cm),(.opq Cn),(.opq Co),(.opq Cp),(.opq Cq),(.sli 9 Bp)])],M:=[],F:=[(0,Jm,54,false),(1,Jn,70,false),(2,Jo,72,false),(3,Jp,3,false),(4,Jq,38,false),(5,[(.big Az Bm)],54,false),(6,[(.big Bh BZ)],70,false),(7,[(.big AX BX)],72,false),(8,[(.big BH BM)],3,false),(9,[(.big Bp B3)],38,false)],ny:=0,R:=[(.one (.opq (.bvar 0)))],N:=[],lv:=[(0,13),(1,14),(2,15),(3,16),(4,23),(5,37),(6,38),(7,39),(8,40),(9,47)],sm:=[],pre:=[]}
theorem yck (F:Nat→List Int→List Int) (xs:List Int) (hp:PreF msY F xs):msT.ok (qaa F xs):=qj5 (by kernel_rfl)
theorem ycd:qg1 (bW.loops qpa) qba kNo qxi 300 msY msT []=true:=by kernel_rfl
theorem yhv:FCT Tryz.prog msY (FT qba) (fun xs=>(msT.get (qaa (FT qba) xs)).2):=
 qum (b:=bW.loops qpa) (Tb:=qba) (y:=msY) (qag qbi _) (qtx) (qbj q35) qym qyz (d:=300) (T:=msT) (by kernel_rfl) (by kernel_rfl) ycd (fun xs hp=>yck _ xs hp)
noncomputable def qsg:List Ent:=⟨30003,[],.tup [],qv0 msT,true⟩::qba
def q83:List FEnt:=msY::qxi
theorem zie:qcd Tryz.prog qsg:=qbw qym rfl (by kernel_rfl)
theorem zhi:LBs Tryz.prog qpa qsg:=qao q35 (by kernel_rfl)
theorem zi0:FBs Tryz.prog q83 qsg:=qqh qyz (by kernel_rfl) (by kernel_rfl) (by kernel_rfl) yhv (fun _=>rfl)
noncomputable def q8v:List Ent:=qsg
def yaz:List LEnt:=qpa
def yct:List FEnt:=q83
theorem yc9:qcd Tryz.prog q8v:=zie
theorem z5v:LBs Tryz.prog yaz q8v:=zhi
theorem z9d:FBs Tryz.prog yct q8v:=zi0
end Go.Proofs.YtilkebpcjklmfaaGreat.Own
namespace Go.Proofs.YtilkebpcjklmfaaGreat.Own
open Go Go.RowKit Go.Proofs Go.Proofs.YtilkebpcjklmfaaGreat.Bd
set_option maxRecDepth 100000
set_option maxHeartbeats 40000000
def bsM:MB:=[(0,[.ptr 0 0,.sli 1 (.lvar 0),.str ⟨#[]⟩,.bool false,.bool false],66,false),(1,[.big (.lvar 0) [some .u8]],5,true)]
def bsY:FEnt:={f:=52,num:=30000,nx:=2,A:=[.one (.ptr 0 0)],M:=bsM,F:=[],ny:=0,R:=[.one (.sts (.lvar 0))],N:=[],sm:=[0],pre:=[(.cmp .leq (.len (.lvar 0)) (.lit .i64 0),false)]}
theorem ye9 (Fy:Nat→List Int→List Int):FCT Tryz.prog bsY Fy (fun xs=>[xs.getD 0 0]):=by
 refine ⟨by kernel_rfl,fun xs av frs w0 σ us L hn hus hM _ hsm hpre w hw=> ?_⟩
 have hlst:∀zs:List Int,(SE.lvar 0).lst (qeo Fy zs av frs)=dec (zs.getD 0 0):=fun zs=>by simp only [SE.lst,SE.val];rfl
 have hsm:=hsm 0 (.head _)
 have hne:dec (xs.getD 0 0)≠[]:=by
  intro q
  have h1:=hpre _ (.head _)
  have e1:(qeo Fy xs av frs).iv 0=xs.getD 0 0:=rfl
  simp only [SE.val,qas,qa8,e1,q] at h1
  revert h1;decide
 obtain ⟨g,b,cc,hg,rfl⟩:=qwt hus
 generalize hE:qeo Fy xs av frs=E at hM hlst ⊢
 have hl0:(SE.lvar 0).lst E=dec (xs.getD 0 0):=by rw [←hE];simp only [SE.lst,SE.val];rfl
 have hfr:E.fr=frs:=by rw [←hE];rfl
 cases hM with
 |cons hk1 hc1 ho1 hr1 t=>cases hc1.notBig
 |frm t=>
  rename_i L0
  obtain ⟨g',gc,ws,rest,s1,s2,s3,_,s5,_⟩:=t.look2 (k:=0) (cs:=[.ptr 0 0,.sli 1 (.lvar 0),.str ⟨#[]⟩,.bool false,.bool false]) (T:=66) (o:=false) (by rfl)
  rw [hg] at s1;cases s1
  cases s3 rfl
  rw [List.append_nil] at s5
  obtain ⟨v1,v2,v3,v4,v5,rfl,q0,q1,q2,q3,q4⟩:=z32 s2
  have hb:w.heap[g]? =some (.cells _ 66 (0,0)):=hw.held _ (List.mem_append_right _ s5)
  rcases t.lookL (k:=1) (x:= .lvar 0) (ks:=[some .u8]) (T:=5) (by rfl) with ⟨gb,bb,_,l2,_⟩ |⟨gb,cap,rest,l1,l2,l3,l4,l5,l6,l7⟩
  ·exact absurd (l2.symm.trans hl0).symm hne
  obtain ⟨L1,r1,r2⟩:=l7 _ _ (by rfl)
  cases q1 with |sli hq=>
  rw [l1] at hq;cases hq
  rw [hl0] at l4 l5 l6 r2 hb
  have hpos:0<(dec (xs.getD 0 0)).length:=List.length_pos_iff.2 hne
  have hbl:(qa_ (dec (xs.getD 0 0))).data.toList.length=(dec (xs.getD 0 0)).length:=qd7 _
  rw [qcz (by unfold maxLen;omega)] at hb
  unfold slV at hb
  rw [if_neg (by omega),show (2 * cap+1) / 2=cap by omega,←hbl] at hb
  have hgb:w.heap[gb]? =some (.cells _ 5 (0,0)):=hw.held _ (List.mem_append_right _ l6)
  have:=q62 g gb cap v1 v3 v4 v5 (qa_ (dec (xs.getD 0 0))).data.toList _ w (by intro q;rw [q] at hbl;exact absurd hbl.symm (by show ¬((dec (xs.getD 0 0)).length=0);omega)) hb hgb (by rw [hbl];exact l4) l2 (by simp at l5 ⊢;omega) (by
   rw [qj_]
   show (qbh [some IntKind.u8] (dec (xs.getD 0 0))++rest).take _=_
   rw [List.take_append_of_le_length (by rw [qdi,hbl];simp),List.take_of_length_le (by rw [qdi,hbl];simp)])
  refine this.mono ?_
  rintro en w' ⟨rfl,rfl⟩
  have hby:(⟨(qa_ (dec (xs.getD 0 0))).data.toList.toArray⟩:ByteArray)=qa_ (dec (xs.getD 0 0)):=by cases qa_ (dec (xs.getD 0 0));simp
  have hby2:qa_ ((SE.lvar 0).lst (qeo Fy ([xs.getD 0 0]) av frs))=qa_ (dec (xs.getD 0 0)):=by rw [hlst];rfl
  refine ⟨[.string (qa_ (dec (xs.getD 0 0)))],[],frs++[],by rw [hby];rfl,rfl,(fun k hk=>by cases hk),?_,.frm .nil,?_⟩
  ·rw [←hby2];exact .cons (.one .sts) .nil
  ·have hp:(E.fr++L0).Perm ((gb,qbh [some IntKind.u8] (dec (xs.getD 0 0))++rest,5)::(E.fr++L1)):=(List.Perm.append_left _ r2).trans List.perm_middle
   have:=zc3 (n:=(qa_ (dec (xs.getD 0 0))).data.toList.length) (hw.perm hp)
   rw [hfr] at this
   rw [List.append_nil]
   exact this.mono (List.sublist_append_left frs L1)
end Go.Proofs.YtilkebpcjklmfaaGreat.Own
namespace Go.Proofs.YtilkebpcjklmfaaGreat.Own
open Go Go.RowKit Go.Proofs
set_option maxRecDepth 100000
set_option maxHeartbeats 40000000
noncomputable def qdp:List Ent:=⟨30000,[],.tup [],fun _ xs=>[0,xs.getD 0 0],true⟩::q8v
def zfb:List LEnt:=yaz
def zs1:List FEnt:=bsY::yct
theorem zqs:qcd Tryz.prog qdp:=qbw yc9 rfl (by kernel_rfl)
theorem zos:LBs Tryz.prog zfb qdp:=qao z5v (by kernel_rfl)
theorem zqd:FBs Tryz.prog zs1 qdp:=qqh z9d (by kernel_rfl) (by kernel_rfl) (by kernel_rfl) (ye9 (FT q8v)) (fun _=>rfl)
structure Ju where
 q:SE
 v:Bool
 pre:List (SE×Bool):=[]
def Hol (E:Env) (p:SE×Bool):Prop:=(p.1.val E !=0)=p.2
def qyf (p:SE×Bool):List (SE×Bool)→Bool
 |[]=>false
 |d::r=>bif p.2==d.2&&decide (p.1=d.1) then true else qyf p r
theorem qxv {E:Env} {d:SE×Bool} {ds:List (SE×Bool)} (h:Hol E d) (hd:∀p∈ds,Hol E p):∀p∈d::ds,Hol E p:=fun p hp=>by
 rcases List.mem_cons.1 hp with rfl |hp
 ·exact h
 ·exact hd p hp
theorem qiq {p:SE×Bool}:∀{l:List (SE×Bool)},qyf p l=true→p∈l
 |[],h=>by cases h
 |d::r,h=>by
  simp only [qyf] at h
  cases hb:(p.2==d.2&&decide (p.1=d.1)) with
  |true=>
   simp only [Bool.and_eq_true,decide_eq_true_eq,beq_iff_eq] at hb
   have:p=d:=Prod.ext hb.2 hb.1
   subst this;exact .head _
  |false=>rw [hb,cond_false] at h;exact .tail _ (qiq h)
def z4e (J:List Ju):RT→List (SE×Bool)→Bool
 | .out _ _,_=>true
 | .next _,_=>true
 | .ask x t e,ds=>z4e J t ((x,true)::ds)&&z4e J e ((x,false)::ds)
 | .know x v t,ds=>J.any (fun j=>j.v==v&&(decide (j.q=x)&&j.pre.all fun p=>qyf p ds))&&z4e J t ((x,v)::ds)
theorem qrg {J:List Ju} {E:Env} (hJ:∀j∈J,(∀p∈j.pre,Hol E p)→(j.q.val E !=0)=j.v):∀{t:RT} {ds:List (SE×Bool)},z4e J t ds=true→(∀p∈ds,Hol E p)→t.ok E
 | .out _ _,_,_,_=>trivial
 | .next _,_,_,_=>trivial
 | .ask x t e,ds,h,hd=>by
  simp only [z4e,Bool.and_eq_true] at h
  exact ⟨fun q=>qrg hJ h.1 (qxv q hd),fun q=>qrg hJ h.2 (qxv q hd)⟩
 | .know x v t,ds,h,hd=>by
  simp only [z4e,Bool.and_eq_true] at h
  obtain ⟨h1,h2⟩:=h
  obtain ⟨j,hj,h3⟩:=List.any_eq_true.1 h1
  simp only [Bool.and_eq_true,decide_eq_true_eq,beq_iff_eq] at h3
  obtain ⟨h4,h5,h6⟩:=h3
  have:=hJ j hj (fun p hp=>hd p (qiq (List.all_eq_true.1 h6 p hp)))
  rw [h4,h5] at this
  exact ⟨this,qrg hJ h2 (qxv this hd)⟩
def noS:SE:= .cmp .eql (.lit .i64 0) (.lit .i64 1)
def zpm (q:SE) (v:Bool):RT→List (SE×Bool)→Bool
 | .out _ zs,ds=>match zs with
  |[z]=>decide (z=noS)||(qyf (q,v) ds||(v&&decide (z=q)))
  |_=>false
 | .next _,_=>false
 | .ask x t e,ds=>zpm q v t ((x,true)::ds)&&zpm q v e ((x,false)::ds)
 | .know x b t,ds=>zpm q v t ds
theorem qin {q:SE} {v:Bool} {E:Env}:∀{t:RT} {ds:List (SE×Bool)},zpm q v t ds=true→(∀p∈ds,Hol E p)→(t.get E).2.getD 0 0≠0→(q.val E !=0)=v
 | .out _ ws,ds,h,hd,hz=>by
  simp only [RT.get] at hz
  unfold zpm at h
  split at h
  ·rename_i z
   simp only [Bool.or_eq_true,Bool.and_eq_true,decide_eq_true_eq] at h
   rcases h with h |h |⟨h1,h⟩
   ·subst h;exact absurd (by simp only [List.map,noS,SE.val];rfl) hz
   ·exact hd _ (qiq h)
   ·subst h
    rw [h1]
    have:z.val E≠0:=hz
    simpa using this
  ·cases h
 | .next _,_,h,_,_=>by cases h
 | .ask x t e',ds,h,hd,hz=>by
  simp only [zpm,Bool.and_eq_true] at h
  simp only [RT.get] at hz
  cases hb:(x.val E !=0) with
  |true=>rw [hb,cond_true] at hz;exact qin h.1 (qxv hb hd) hz
  |false=>rw [hb,cond_false] at hz;exact qin h.2 (qxv hb hd) hz
 | .know x b t,ds,h,hd,hz=>by
  simp only [zpm] at h
  simp only [RT.get] at hz
  exact qin h hd hz
section
variable {F:Nat→List Int→List Int} {ys:List Int} {i:Nat} (hi:ys.getD 4 0=(i:Int)) (hi2:i≤1000000) (hs:(dec (ys.getD 2 0)).length≤1000000)
include hi hi2 hs in
theorem qt8:∀(r:List (Bool×Nat)) (l:SE) (k:Nat),k+r.length≤1000→∀zs,(qjb l k r).get (qaa F ys)=(none,zs)→zs.getD 3 0=b2i (ys.getD 3 0 !=0)∨(dec (zs.getD 2 0)).length<8
 |[],l,k,hk,zs,h=>by
  have e3:(SE.bvar 3).val (qaa F ys)=b2i (ys.getD 3 0 !=0):=by simp only [SE.val];rfl
  unfold qjb at h
  simp only [RT.get] at h
  cases h
  exact .inl e3
 |p::r,l,k,hk,zs,h=>by
  simp only [List.length_cons] at hk
  have c:=zp6 (F:=F) hs (k:=k) (by omega)
  unfold qjb at h
  simp only [RT.get,c] at h
  by_cases q:(dec (ys.getD 2 0)).length - 8 * k<8
  ·rw [decide_eq_true q,cond_true] at h
   cases h
   right
   show (dec ((zk k).val (qaa F ys))).length<8
   have gz:dec ((zk k).val (qaa F ys))=(dec (ys.getD 2 0)).drop (8 * k):=qub (F:=F) (by omega)
   rw [gz,List.length_drop];exact q
  ·rw [decide_eq_false q,cond_false] at h
   exact qt8 r (zhb l p k) (k+1) (by omega) zs h
end
def gpR (fs:List (Bool×Nat)) (x0 s0 b0:Int) (i:Nat) (ys:List Int):Prop:=gpJ fs x0 s0 b0 i ys∧(ys.getD 3 0≠0→b0=0→(dec (ys.getD 2 0)).length<8)
section
variable {F:Nat→List Int→List Int} {fs:List (Bool×Nat)} {x0 s0 b0:Int} {i:Nat} {ys:List Int} (hN:(dec x0).length≤1000) (hS:(dec s0).length≤1000000) (hm:fs.length≤100)
include hN hS hm
theorem zmo (h:gpR fs x0 s0 b0 i ys) (zs:List Int) (hz:(gpT fs).get (qaa F ys)=(none,zs)):i<(dec x0).length∧gpR fs x0 s0 b0 (i+1) zs:=by
 obtain ⟨hj,hr⟩:=h
 obtain ⟨h1,h2⟩:=(qj1 hN hS hm hj).2.1 zs hz
 refine ⟨h1,h2,?_⟩
 have ei:=qez (F:=F) hj.ix (by omega)
 have el:=qby (F:=F) (lv:=0) (xs:=ys) (n:=(dec x0).length) (by rw [hj.x]) (by unfold maxLen;omega)
 have c:=qdx (F:=F) ei el
 have e3:(SE.bvar 3).val (qaa F ys)=b2i (ys.getD 3 0 !=0):=by simp only [SE.val];rfl
 have e4:((SE.not (.bvar 3)).val (qaa F ys) !=0)= !(ys.getD 3 0 !=0):=by
  have:(SE.not (.bvar 3)).val (qaa F ys)=b2i (!((SE.bvar 3).val (qaa F ys) !=0)):=by simp only [SE.val]
  rw [this,e3,qas,qas]
 unfold gpT at hz
 simp only [RT.get,c,e4] at hz
 rw [decide_eq_true h1,cond_true] at hz
 by_cases hb:ys.getD 3 0=0
 ·have hb':(!(ys.getD 3 0 !=0))=true:=by rw [hb];rfl
  rw [hb',cond_true] at hz
  intro q _
  rcases qt8 (F:=F) hj.ix (by omega) (Nat.le_trans hj.s hS) fs (.lvar 1) 0 (by omega) zs hz with t |t
  ·rw [hb] at t;exact absurd t q
  ·exact t
 ·have hbt:(ys.getD 3 0 !=0)=true:=by simpa using hb
  have hb':(!(ys.getD 3 0 !=0))=false:=by rw [hbt];rfl
  rw [hb',cond_false] at hz
  cases hz
  intro _ q
  have e2:(SE.lvar 2).val (qaa F ys)=ys.getD 2 0:=lvar_at
  show (dec ((SE.lvar 2).val (qaa F ys))).length<8
  rw [e2];exact hr hb q
end
section
variable {F:Nat→List Int→List Int} {fs:List (Bool×Nat)} {xs:List Int} (hN:(dec (xs.getD 0 0)).length≤1000) (hS:(dec (xs.getD 1 0)).length≤1000000) (hm:fs.length≤100)
theorem gpR_0:gpR fs (xs.getD 0 0) (xs.getD 1 0) (xs.getD 2 0) 0 (gpI.map (SE.val (qaa F xs))):=by
 refine ⟨q9k,fun q q'=> ?_⟩
 exact absurd (q9k (F:=F) (fs:=fs) (xs:=xs)).b.1 (fun t=>by
  rcases t q with t |t
  ·exact t q'
  ·simp at t)
include hN hS hm
theorem yb_:∃y1 y2 y3,gpG fs F xs=[0,xs.getD 0 0,y1,y2,b2i y3]∧(dec y1).length=(dec (xs.getD 0 0)).length∧(dec y2).length≤(dec (xs.getD 1 0)).length∧
  (y3=true↔(xs.getD 2 0≠0∨(dec (xs.getD 1 0)).length<8 * fs.length * (dec (xs.getD 0 0)).length))∧
  (y3=true→xs.getD 2 0=0→(dec y2).length<8)∧
  (y3=false→dec y2=(dec (xs.getD 1 0)).drop (8 * fs.length * (dec (xs.getD 0 0)).length)∧∀j,j<(dec (xs.getD 0 0)).length→(dec y1).getD j []=q52 ((dec (xs.getD 1 0)).drop (8 * fs.length * j)) fs 0 ((dec (xs.getD 0 0)).getD j [])):=by
 obtain ⟨e,zs,h1,h2,ys,h3,h4⟩:=qfm (F:=F) (T:=gpT fs) (gpR fs (xs.getD 0 0) (xs.getD 1 0) (xs.getD 2 0)) (dec (xs.getD 0 0)).length (fun e zs=>e=0∧∃ys,gpR fs (xs.getD 0 0) (xs.getD 1 0) (xs.getD 2 0) (dec (xs.getD 0 0)).length ys∧zs=[xs.getD 0 0,ys.getD 1 0,ys.getD 2 0,b2i (ys.getD 3 0 !=0)])
  (fun i ys zs hi hj hy=>zmo hN hS hm hj zs hy) (fun i ys e zs hi hj hy=>by
   obtain ⟨q1,q2,q3⟩:=(qj1 hN hS hm hj.1).2.2 e zs hy
   subst q2
   exact ⟨q1,ys,hj,q3⟩) ((dec (xs.getD 0 0)).length+1) 0 0 (gpI.map (SE.val (qaa F xs))) (by omega) (by omega) gpR_0
 subst h2
 obtain ⟨h3,h5⟩:=h3
 refine ⟨ys.getD 1 0,ys.getD 2 0,(ys.getD 3 0 !=0),?_,h3.l,h3.s,?_,fun q=>h5 (by simpa using q),fun q=> ?_⟩
 ·unfold gpG qfv gpU
  rw [h1,h4];rfl
 ·rw [←h3.b];simp
 ·obtain ⟨g1,g2⟩:=h3.g (by simpa using q)
  exact ⟨g1,fun j hj=>by rw [g2 j,if_pos hj]⟩
end
end Go.Proofs.YtilkebpcjklmfaaGreat.Own
namespace Go.Proofs.YtilkebpcjklmfaaGreat.Own
open Go Go.RowKit Go.Proofs Go.Proofs.YtilkebpcjklmfaaGreat.Plain
set_option maxRecDepth 100000
set_option maxHeartbeats 40000000
def rtQ1:RT→SE
 | .know _ _ t=>rtQ1 t
 | .ask q _ _=>q
 |_=> .nil
def rtQ:RT→SE
 | .ask _ t _=>rtQ1 t
 |_=> .nil
theorem qx3 (E:Env):ib2T.get E=bif (SE.cmp .lss (.ivar .i64 2) (.len (.lvar 0))).val E !=0 then (bif (rtQ ib2T).val E !=0 then (some 0,([(.ivar .i64 2)]:List SE).map (SE.val E)) else (none,([(.lvar 0),(.lvar 1),(.bin .add .i64 (.ivar .i64 2) (.lit .i64 1))]:List SE).map (SE.val E))) else (some 1,([(.lvar 0)]:List SE).map (SE.val E)):=rfl
end Go.Proofs.YtilkebpcjklmfaaGreat.Own
