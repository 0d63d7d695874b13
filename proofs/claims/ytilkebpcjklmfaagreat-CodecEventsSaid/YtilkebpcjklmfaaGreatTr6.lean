/- Contracts of loops that go through lists: found by program, checked by the kernel. Contracts of loops that go through lists: found by program, checked by the kernel. Contracts of loops that go through lists: found by program, checked by the kernel. Contracts as trees, found by program and checked by the kernel. -/
import Derived.Test.YtilkebpcjklmfaaGreatLm3
set_option linter.unusedVariables false
set_option linter.unusedSimpArgs false
namespace Go.Proofs.YtilkebpcjklmfaaGreat.Own
open Go Go.RowKit Go.Proofs
set_option maxRecDepth 100000
set_option maxHeartbeats 40000000
abbrev AB:SE:=.ivar .i64 9
abbrev C4:C:=.opq AB
def clS:List (Nat×V):=([(7,D9),(8,(.one C4)),(0,(.any 0)),(1,(.any 1)),(2,(.any 2)),(6,(.any 6))]++ay 9 6)
abbrev AG:SE:=.lvar 8
def clM:MB:=[(0,([Ad,Ad,BB,BD,Bz,Ad,Br,Ad,Bc,Ad,Bt,B6,Bj,(.sli 1 Bu),.nils,.nils,B7]++zz 3++[.nils]),35,false),(1,[(.big AG Bm)],54,true),JH]
def clF:MB:=[]
abbrev Ea:SE:=.len AG
def clT:RT:=(.ask (.cmp .lss AB (.len Bu)) (.know (.cmp .geq AB Aa) true (.know (.cmp .lss AB Ea) true (.know Hf true (.next [Ah,At,Am,Av,Bk,Aq,Bu,Hg,(.lset (.lset AG AB 4 (.cons (.bin .rem .i64 (.el (some .i64) AG AB 4) Bs) .nil)) AB 6 (.cons (.bin .rem .i64 (.el (some .i64) AG AB 6) Bs) .nil)),(.bin .add .i64 AB Aw)])))) (.out 0 [Ah,At,Am,Av,Bk,Aq,Bu,AE,AG]))
def clL:LEnt:={f:=32,id:=4,num:=20053,nx:=3,S:=([(7,D9),(8,Bi),(0,(.any 0)),(1,(.any 1)),(2,(.any 2)),(6,(.any 6))]++ay 9 6),M:=[(0,([Ad,Ad,BB,BD,Bz,Ad,Br,Ad,Bc,Ad,Bt,B6,Bj,(.sli 1 Bu),.nils,.nils,B7]++zz 3++[.nils]),35,false),JG,JH],F:=clF,kk:=[0,1],outs:=[{x:=(.exit 0),S:=([(7,D9),(0,(.any 0)),(1,(.any 1)),(2,(.any 2)),(6,(.any 6))]++ay 9 6),M:=[(0,([Ad,Ad,BB,BD,Bz,Ad,Br,Ad,Bc,Ad,Bt,B6,Bj,(.sli 1 Bu),.nils,.nils,B7]++zz 3++[.nils]),35,false),(1,[(.big AG Bm)],54,true),JH],cv:=waC}],lv:=[(1,6),(2,7)],sm:=[6],pre:=[(.cmp .eql Bv Aa,true)]}
def clI:List SE:=[Ah,At,Am,Av,Bk,Aq,Bu,AE,Bu,Aa]
def clC:List (Nat×Nat×Option (Option IntKind)):=[(0,0,(some (some .i64))),(1,1,(some (some .u64))),(2,2,(some (some .u64))),(3,3,(some (some .u64))),(4,4,(some (some .i64))),(5,5,(some (some .i64))),(6,6,none)]
def cln:Nat:=60
def m4 (x:Int):Int:=IntKind.i64.wrap ((IntKind.i64.wrap x).tmod (IntKind.i64.wrap 4))
def qnm (el:List Int):List Int:=qb1 (qb1 el 4 [m4 (el.getD 4 0)]) 6 [m4 ((qb1 el 4 [m4 (el.getD 4 0)]).getD 6 0)]
def clJ (l6:Int) (t:Nat) (xs:List Int):Prop:=xs.getD 6 0=l6∧(dec l6).length≤1000000∧xs.getD 9 0=(t:Int)∧dec (xs.getD 7 0)=List.replicate t [-1]∧dec (xs.getD 8 0)=((dec l6).take t).map qnm++(dec l6).drop t
noncomputable def clU (xs:List Int):Nat:=(dec (xs.getD 6 0)).length+1
noncomputable def clG:(Nat→List Int→List Int)→List Int→List Int:=qfv clI (fun _=>clT) clU
theorem z5p (F:Nat→List Int→List Int) (xs:List Int) (hp:Pre clL F xs):clJ (xs.getD 6 0) 0 (clI.map (SE.val (qaa F xs))):=by
 have h1:(dec (xs.getD 6 0)).length≤1000000:=hp.sm 6 (by decide)
 have h7:(dec (xs.getD 7 0)).length≤maxLen:=hp.lv (2,7) (by decide)
 have h3:=hp.pre _ (by show _∈[((SE.cmp .eql (.len (.lvar 7)) (.lit .i64 0)),true)];exact .head _)
 have l7:=qby (F:=F) (lv:=7) (xs:=xs) rfl h7
 simp only [SE.val,qas,qa8] at h3 l7
 rw [l7] at h3
 have h4:(dec (xs.getD 7 0)).length=0:=by
  have:=beq_iff_eq.1 h3
  rw [show IntKind.i64.wrap 0=0 from rfl] at this
  omega
 have h5:dec (xs.getD 7 0)=[]:=List.eq_nil_of_length_eq_zero h4
 refine ⟨lvar_at,h1,?_,?_,?_⟩
 ·show (SE.lit .i64 0).val (qaa F xs)=_
  simp only [SE.val];rfl
 ·show dec ((SE.lvar 7).val (qaa F xs))=_
  rw [lvar_at,h5];rfl
 ·show dec ((SE.lvar 6).val (qaa F xs))=_
  rw [lvar_at];simp
theorem yfk (F:Nat→List Int→List Int) (l6:Int) (t:Nat) (xs:List Int) (ht:t≤(dec l6).length) (h:clJ l6 t xs):clT.ok (qaa F xs):=by
 obtain ⟨h0,hm,h2,h3,h4⟩:=h
 have i0:=qez (F:=F) h2 (by omega)
 have l:=qby (F:=F) (lv:=6) (n:=(dec l6).length) (xs:=xs) (by rw [h0]) (by unfold maxLen;omega)
 have l8:=qby (F:=F) (lv:=8) (n:=(dec l6).length) (xs:=xs) (by rw [h4,q66 _ _ ht]) (by unfold maxLen;omega)
 have l1:=qby (F:=F) (lv:=7) (n:=t) (xs:=xs) (by rw [h3,List.length_replicate]) (by unfold maxLen;omega)
 refine qh5 fun g1=> ?_
 have k1:=qib g1 i0 l
 exact ⟨(qf7 i0 (qd5 (k:=0) (by omega))).trans (decide_eq_true (by omega)),(qdx i0 l8).trans (decide_eq_true (by omega)),(qm9 l1 (qd5 (k:=1000000) (by omega))).trans (decide_eq_true (by omega)),trivial⟩
theorem yfl (F:Nat→List Int→List Int) (l6:Int):∀(t:Nat) (xs ys:List Int),t≤(dec l6).length→clJ l6 t xs→clT.get (qaa F xs)=(none,ys)→t<(dec l6).length∧clJ l6 (t+1) ys:=fun t xs ys ht h hy=>by
 obtain ⟨h0,hm,h2,h3,h4⟩:=h
 have i0:=qez (F:=F) h2 (by omega)
 have i1:=qcu (F:=F) (k:=1) h2 (by omega)
 have l:=qby (F:=F) (lv:=6) (n:=(dec l6).length) (xs:=xs) (by rw [h0]) (by unfold maxLen;omega)
 obtain ⟨g1,hy⟩:=qe2 hy
 have hy:=qhg hy
 have k1:=qib g1 i0 l
 have hlen:(dec (xs.getD 8 0)).length=(dec l6).length:=by rw [h4,q66 _ _ ht]
 subst hy
 refine ⟨k1,?_,hm,i1,?_,?_⟩
 ·show (SE.lvar 6).val (qaa F xs)=_
  rw [lvar_at];exact h0
 ·show dec ((SE.lcat (.lvar 7) (.lone _)).val (qaa F xs))=_
  rw [qj9,qan,h3,List.replicate_succ']
  simp only [SE.vals,SE.val];rfl
 ·show dec ((SE.lset (.lset (.lvar 8) (.ivar .i64 9) 4 _) (.ivar .i64 9) 6 _).val (qaa F xs))=_
  rw [qmz i0,qmz i0,qan,qan,lvar_at]
  have v1:(SE.cons (.bin .rem .i64 (.el (some .i64) (.lvar 8) (.ivar .i64 9) 4) (.lit .i64 4)) .nil).vals (qaa F xs)=[m4 (((dec (xs.getD 8 0)).getD t []).getD 4 0)]:=by
   have e2:(qaa F xs).iv 8=xs.getD 8 0:=rfl
   simp only [SE.val] at i0
   simp only [SE.vals,SE.val,qbg,i0,e2,wrK,Int.toNat_natCast];rfl
  have v2:(SE.cons (.bin .rem .i64 (.el (some .i64) (.lvar 8) (.ivar .i64 9) 6) (.lit .i64 4)) .nil).vals (qaa F xs)=[m4 (((qkn (dec (xs.getD 8 0)) t 4 [m4 (((dec (xs.getD 8 0)).getD t []).getD 4 0)]).getD t []).getD 6 0)]:=by
   have e3:∀x:SE,(SE.cons (.bin .rem .i64 (.el (some .i64) x (.ivar .i64 9) 6) (.lit .i64 4)) .nil).vals (qaa F xs)=[m4 (((dec (x.val (qaa F xs))).getD t []).getD 6 0)]:=fun x=>by
    simp only [SE.val] at i0
    simp only [SE.vals,SE.val,qbg,i0,wrK,Int.toNat_natCast];rfl
   rw [e3,lvar_at,qka (by rw [hlen];exact k1),qdu,if_neg (by simp)]
  rw [v1,v2,qka (by omega),zmx (by omega),h4]
  exact zhu (f:=qnm) _ t k1
theorem z86 (F:Nat→List Int→List Int) (xs:List Int) (hp:Pre clL F xs):qdn (fun _=>clT) F 0 (clU xs) (clI.map (SE.val (qaa F xs))):=
 qi5 (fun t ys=>clJ (xs.getD 6 0) t ys) (dec (xs.getD 6 0)).length (fun t ys ht hj=>yfk F _ t ys ht hj) (yfl F _) _ 0 0 _ (Nat.zero_add _) (Nat.succ_pos _) (z5p F xs hp)
theorem z7s (F:Nat→List Int→List Int) (xs:List Int) (hp:Pre clL F xs):∃ys,clG F xs=0::ys∧dec (ys.getD 7 0)=List.replicate (dec (xs.getD 6 0)).length [-1]∧dec (ys.getD 8 0)=(dec (xs.getD 6 0)).map qnm:=by
 obtain ⟨e,ys,h1,h2⟩:=qfm (F:=F) (T:=clT) (fun t ys=>clJ (xs.getD 6 0) t ys) (dec (xs.getD 6 0)).length (fun e ys=>e=0∧dec (ys.getD 7 0)=List.replicate (dec (xs.getD 6 0)).length [-1]∧dec (ys.getD 8 0)=(dec (xs.getD 6 0)).map qnm) (yfl F _) (fun t zs e ys ht hj hy=>by
  obtain ⟨h0,hm,h2,h3,h4⟩:=hj
  have i0:=qez (F:=F) h2 (by omega)
  have l:=qby (F:=F) (lv:=6) (n:=(dec (xs.getD 6 0)).length) (xs:=zs) (by rw [h0]) (by unfold maxLen;omega)
  rcases qgd hy with ⟨g,rfl,hz⟩ |⟨_,hy⟩
  ·rw [qdx i0 l] at g
   have g:=of_decide_eq_false g
   subst hz
   refine ⟨rfl,?_,?_⟩
   ·show dec ((SE.lvar 7).val (qaa F zs))=_
    rw [lvar_at,h3,show t=(dec (xs.getD 6 0)).length by omega]
   ·show dec ((SE.lvar 8).val (qaa F zs))=_
    rw [lvar_at,h4,List.take_of_length_le (by omega),List.drop_eq_nil_of_le (by omega),List.append_nil]
  ·exact (qiy hy).elim) _ 0 0 (clI.map (SE.val (qaa F xs))) (Nat.zero_add _) (Nat.succ_pos _) (z5p F xs hp)
 obtain ⟨rfl,h2⟩:=h2
 refine ⟨ys,?_,h2⟩
 unfold clG qfv clU
 rw [h1];rfl
theorem ycy:qak (bW.loops zno) qju 300 clL.f cln (qa3 Tryz.prog clL.f clL.id) clS clM clL.F clL.nx clS clL.outs clL.kk clT []=true:=by kernel_rfl
theorem cl_ok:LCT Tryz.prog clL (FT qju) (clG (FT qju)):=
 qc8 (b:=bW.loops zno) (Tb:=qju) (y:=clL) (M:=clM) (T:=fun _=>clT) (S:=fun _=>clS) (init:=clI) (qag qbi _) (qbj zo1) zqq (d:=300) (n:=cln) (by kernel_rfl) (by kernel_rfl) (by kernel_rfl) (by kernel_rfl) (fun _ _ _=>ycy) (fun xs hp=>z86 _ xs hp)
theorem yff (F:Nat→List Int→List Int):Cst clL (clG F):=qdh clC (by kernel_rfl) (fun _ _ _=>by kernel_rfl)
noncomputable def qxl:List Ent:=⟨20053,[],.tup [],clG,true⟩::qju
def zg8:List LEnt:=clL::zno
theorem zjz:qcd Tryz.prog qxl:=qbw zqq rfl (by kernel_rfl)
theorem zkx:LBs Tryz.prog zg8 qxl:=qbl (y:=clL) zo1 (by kernel_rfl) (by kernel_rfl) (by kernel_rfl) cl_ok (yff _)
noncomputable def qls:List Ent:=qxl
def zl1:List LEnt:=zg8
theorem zo0:qcd Tryz.prog qls:=zjz
theorem zpp:LBs Tryz.prog zl1 qls:=zkx
abbrev C5:V:=.one D3
abbrev Ay:SE:=.ivar .i64 11
abbrev C6:C:=.opq Ay
def twS:List (Nat×V):=([(3,CB),(9,C5),(11,(.one C6)),(10,(.one (.opq Bv))),(0,(.any 0)),(1,(.any 1)),(2,(.any 2)),(8,(.any 8))]++ay 14 7)
abbrev BE:C:=.opq As
abbrev CG:C:=.opq AY
abbrev AW:SE:=.lvar 9
abbrev Bf:SE:=.lvar 10
abbrev JI:Nat×List C×Nat×Bool:=(2,[(.big Bf Bm)],54,true)
abbrev Jw:List C:=[(.big AW BM)]
def twM:MB:=[(1,([Ad,Ad,BB,BA,Bc,Ad,Br,Ad,Bt,Ad,BE,Bj,CG,B7,(.sli 4 AG),.nils,(.sli 3 AW)]++zz 3++[.nils]),35,false),JI,(3,Jw,3,true),(4,[(.big AG BZ)],70,true)]
def twF:MB:=Jk
abbrev Ec:SE:=.bin .add .i64 Ay Cu
abbrev Hi:SE:=.cmp .geq Ay Aa
abbrev Hj:SE:=.cmp .lss Ay AD
abbrev C7:SE:=.bin .add .i64 Ay Aw
abbrev Hk:SE:=.bin .sub .i64 Bv Aw
abbrev Hl:SE:=.conv .i64 (.el (some .u8) Ab Ay 0)
abbrev Hm:SE:=.bin .rem .i64 Hl Bv
abbrev Hn:SE:=.el (some .u8) Ab Ec 0
abbrev Ho:SE:=.cons (.bin .quo .i64 (.conv .i64 Hn) Bs) .nil
def twT:RT:=(.ask (.cmp .lss Ec AD) (.ask (.cmp .gtr Bv Aw) (.ask (.cmp .lss Ea (.lit .i64 10)) (.know Hi true (.know Hj true (.know (.cmp .gtr Bv Aa) true (.know (.cmp .geq C7 Aa) true (.know (.cmp .lss C7 AD) true (.know (.cmp .gtr Hk Aa) true (.know (.cmp .geq Ec Aa) true (.know (.cmp .leq Ea AC) true (.next [Ab,Af,Am,Av,As,Aq,AY,AE,(.lcat AG (.lone (.cons Hm (.cons (.bin .rem .i64 (.bin .add .i64 (.bin .add .i64 Hm Aw) (.bin .rem .i64 (.conv .i64 (.el (some .u8) Ab C7 0)) Hk)) Bv) (.cons (.conv .i64 (.bin .rem .u8 Hn (.lit .u8 4))) (.cons (.lit .u64 2305843009213693952) (.cons (.app 33 0 (some .i64) Ho) (.cons (.app 33 1 (some .u64) Ho) .nil)))))))),AW,Bf,(.bin .add .i64 Ay CU)]))))))))) (.out 0 [Af,Am,Av,As,Aq,AY,AE,AG,AW,Bf])) (.out 0 [Af,Am,Av,As,Aq,AY,AE,AG,AW,Bf])) (.out 0 [Af,Am,Av,As,Aq,AY,AE,AG,AW,Bf]))
abbrev CH:C:=.sli 3 AG
abbrev JJ:Nat×List C×Nat×Bool:=(2,[(.big AW Bm)],54,true)
abbrev Jx:Nat×List C×Nat×Bool:=(3,[(.big AG BM)],3,true)
abbrev Ee:C:=.sli 2 Bu
def twL:LEnt:={f:=14,id:=4,num:=20054,nx:=5,S:=([(3,CB),(9,C5),(11,Bi),(10,(.one (.opq Bv))),(0,(.any 0)),(1,(.any 1)),(2,(.any 2)),(8,(.any 8))]++ay 14 7),M:=[(1,([Ad,Ad,BB,BA,Bc,Ad,Br,Ad,Bt,Ad,BE,Bj,CG,B7,.nils,.nils,CH]++zz 3++[.nils]),35,false),JJ,Jx],F:=twF,kk:=[0,1,2,3],outs:=[{x:=(.exit 0),S:=([(9,C5),(0,(.any 0)),(1,(.any 1)),(2,(.any 2)),(8,(.any 8))]++ay 14 7),M:=[(1,([Ad,Ad,BB,BD,Bz,Ad,Br,Ad,Bc,Ad,Bt,B6,Bj,Ee,(.sli 4 AE),.nils,CH]++zz 3++[.nils]),35,false),JJ,Jx,(4,[(.big AE BZ)],70,true)],cv:=[(0,1,(some (some .i64))),(1,2,(some (some .u64))),(2,3,(some (some .u64))),(3,4,(some (some .u64))),(4,5,(some (some .i64))),(5,6,(some (some .i64))),(6,7,none),(8,8,none),(9,9,none)]}],lv:=[(2,9),(3,8),(0,0)],sm:=[],pre:=[]}
def twI:List SE:=[Ab,Af,Am,Av,As,Aq,AY,AE,.lnil,AG,AW,Aa]
def twC:List (Nat×Nat×Option (Option IntKind)):=[(0,0,none),(1,1,(some (some .i64))),(2,2,(some (some .u64))),(3,3,(some (some .u64))),(4,4,(some (some .u64))),(5,5,(some (some .i64))),(6,6,(some (some .i64))),(7,7,none),(9,8,none),(10,9,none)]
def twn:Nat:=84
def ygn (F:Nat→List Int→List Int) (n:Nat) (el:List Int):Prop:=∃a b h q:Int,(0≤a∧a<n)∧(0≤b∧b<n)∧a≠b∧(0≤h∧h<4)∧(0≤q∧q<64)∧el=[a,b,h,2305843009213693952,wrK (some .i64) ((F 33 [q]).getD 0 0),wrK (some .u64) ((F 33 [q]).getD 1 0)]
def twJ (F:Nat→List Int→List Int) (l0 l7:Int) (t:Nat) (xs:List Int):Prop:=xs.getD 0 0=l0∧(dec l0).length≤maxLen∧xs.getD 7 0=l7∧xs.getD 11 0=((3 * t:Nat):Int)∧(dec (xs.getD 8 0)).length=t∧∀el∈dec (xs.getD 8 0),ygn F (sat (dec l7).length) el
noncomputable def twU (xs:List Int):Nat:=11
noncomputable def twG:(Nat→List Int→List Int)→List Int→List Int:=qfv twI (fun _=>twT) twU
theorem q6a (n:Nat):sat n≤9223372036854775807:=by
 unfold sat
 cases hb:Nat.ble n maxLen with
 |true=>rw [cond_true];have:=Nat.le_of_ble_eq_true hb;unfold maxLen at this;exact this
 |false=>rw [cond_false];unfold maxLen;omega
theorem z4j (F:Nat→List Int→List Int) (xs:List Int) (hp:Pre twL F xs):twJ F (xs.getD 0 0) (xs.getD 7 0) 0 (twI.map (SE.val (qaa F xs))):=by
 have h1:(dec (xs.getD 0 0)).length≤maxLen:=hp.lv (0,0) (by decide)
 have e:(twI.map (SE.val (qaa F xs))).getD 8 0=enc []:=by
  show (SE.lnil).val (qaa F xs)=_
  simp only [SE.val]
 refine ⟨lvar_at,h1,lvar_at,?_,?_,?_⟩
 ·show (SE.lit .i64 0).val (qaa F xs)=_
  simp only [SE.val];rfl
 ·rw [e,qan];rfl
 ·rw [e,qan];intro el h;cases h
theorem q8f {F:Nat→List Int→List Int} {xs:List Int} {n:Nat} (hn:1≤n) (hm:n≤9223372036854775807) {x:SE} (hx:x.val (qaa F xs)=(n:Int)):(SE.bin .sub .i64 x (.lit .i64 1)).val (qaa F xs)=((n - 1:Nat):Int):=by
 have e:(SE.bin .sub .i64 x (.lit .i64 1)).val (qaa F xs)=IntKind.i64.wrap (x.val (qaa F xs) - IntKind.i64.wrap 1):=by simp only [SE.val,qbg]
 rw [e,hx];simp only [IntKind.wrap_i64];omega
theorem yay (F:Nat→List Int→List Int) (l0 l7:Int) (t:Nat) (xs:List Int) (ht:t≤10) (h:twJ F l0 l7 t xs):twT.ok (qaa F xs):=by
 obtain ⟨h0,hm,h7,h2,h3,h4⟩:=h
 have hm':(dec (xs.getD 0 0)).length≤maxLen:=by rw [h0];exact hm
 have i0:=qez (F:=F) h2 (by omega)
 have i1:=qcu (F:=F) (k:=1) h2 (by omega)
 have i2:=qcu (F:=F) (k:=2) h2 (by omega)
 have l:=qby (F:=F) rfl hm'
 have l8:=qby (F:=F) h3 (by unfold maxLen;omega)
 have l7':=qmr (F:=F) (lv:=7) (xs:=xs)
 have hs:=q6a (dec (xs.getD 7 0)).length
 have z:=qd5 (F:=F) (xs:=xs) (k:=0) (by omega)
 refine qh5 fun g1=>qh5 fun g2=>qh5 fun g3=> ?_
 have k1:=qib g1 i2 l
 have k2:=zoq g2 l7' (qd5 (k:=1) (by omega))
 have l9:=q8f (F:=F) (by omega) hs l7'
 exact ⟨(qf7 i0 z).trans (decide_eq_true (by omega)),(qdx i0 l).trans (decide_eq_true (by omega)),(qun l7' z).trans (decide_eq_true (by omega)),(qf7 i1 z).trans (decide_eq_true (by omega)),(qdx i1 l).trans (decide_eq_true (by omega)),(qun l9 z).trans (decide_eq_true (by omega)),(qf7 i2 z).trans (decide_eq_true (by omega)),(qm9 l8 (qd5 (k:=1000000) (by omega))).trans (decide_eq_true (by omega)),trivial⟩
theorem te_ab (x y n:Int) (hx:0≤x∧x<256) (hy:0≤y∧y<256) (hn:2≤n∧n≤9223372036854775807):
  ∃a b,IntKind.i64.wrap ((IntKind.i64.wrap x).tmod n)=a∧IntKind.i64.wrap ((IntKind.i64.wrap (IntKind.i64.wrap (a+IntKind.i64.wrap 1)+IntKind.i64.wrap ((IntKind.i64.wrap y).tmod (n - 1)))).tmod n)=b∧(0≤a∧a<n)∧(0≤b∧b<n)∧a≠b:=by
 have w:∀z:Int,0≤z→z<9223372036854775808→IntKind.i64.wrap z=z:=fun z h1 h2=>by rw [IntKind.wrap_i64];omega
 have a1:0≤x % n∧x % n<n:=⟨Int.emod_nonneg _ (by omega),Int.emod_lt_of_pos _ (by omega)⟩
 have a2:x % n≤x:=by
  have h1:=Int.mul_ediv_add_emod x n
  have h2:0≤n * (x / n):=Int.mul_nonneg (by omega) (Int.ediv_nonneg hx.1 (by omega))
  omega
 have b1:0≤y % (n - 1)∧y % (n - 1)<n - 1:=⟨Int.emod_nonneg _ (by omega),Int.emod_lt_of_pos _ (by omega)⟩
 have b2:y % (n - 1)≤y:=by
  have h1:=Int.mul_ediv_add_emod y (n - 1)
  have h2:0≤(n - 1) * (y / (n - 1)):=Int.mul_nonneg (by omega) (Int.ediv_nonneg hy.1 (by omega))
  omega
 refine ⟨x % n,(x % n+1+y % (n - 1)) % n,?_,?_,a1,⟨Int.emod_nonneg _ (by omega),Int.emod_lt_of_pos _ (by omega)⟩,?_⟩
 ·rw [w x hx.1 (by omega),Int.tmod_eq_emod_of_nonneg hx.1,w _ a1.1 (by omega)]
 ·have c1:0≤(x % n+1+y % (n - 1)) % n∧(x % n+1+y % (n - 1)) % n<n:=⟨Int.emod_nonneg _ (by omega),Int.emod_lt_of_pos _ (by omega)⟩
  rw [w y hy.1 (by omega),Int.tmod_eq_emod_of_nonneg hy.1,w _ b1.1 (by omega),w 1 (by omega) (by omega),w (x % n+1) (by omega) (by omega),w (x % n+1+y % (n - 1)) (by omega) (by omega),Int.tmod_eq_emod_of_nonneg (by omega),w _ c1.1 (by omega)]
 ·intro q
  generalize x % n=u at *
  generalize y % (n - 1)=v at *
  by_cases h:u+1+v<n
  ·rw [Int.emod_eq_of_lt (by omega) h] at q;omega
  ·have:(u+1+v) % n=u+1+v - n:=by
    rw [show u+1+v=(u+1+v - n)+n by omega,Int.add_emod_right,Int.emod_eq_of_lt (by omega) (by omega)];omega
   rw [this] at q;omega
theorem ybd (F:Nat→List Int→List Int) (l0 l7:Int):∀(t:Nat) (xs ys:List Int),t≤10→twJ F l0 l7 t xs→twT.get (qaa F xs)=(none,ys)→t<10∧twJ F l0 l7 (t+1) ys:=fun t xs ys ht h hy=>by
 obtain ⟨h0,hm,h7,h2,h3,h4⟩:=h
 have i0:=qez (F:=F) h2 (by omega)
 have i1:=qcu (F:=F) (k:=1) h2 (by omega)
 have i2:=qcu (F:=F) (k:=2) h2 (by omega)
 have i3:=qcu (F:=F) (k:=3) h2 (by omega)
 have l8:=qby (F:=F) h3 (by unfold maxLen;omega)
 have l7':=qmr (F:=F) (lv:=7) (xs:=xs)
 have hs:=q6a (dec (xs.getD 7 0)).length
 obtain ⟨g1,hy⟩:=qe2 hy
 obtain ⟨g2,hy⟩:=qe2 hy
 obtain ⟨g3,hy⟩:=qe2 hy
 have hy:=qhg hy
 have k2:=zoq g2 l7' (qd5 (k:=1) (by omega))
 have k3:=qib g3 l8 (qd5 (k:=10) (by omega))
 subst hy
 refine ⟨k3,(lvar_at (F:=F)).trans h0,hm,(lvar_at (F:=F)).trans h7,i3,?_,?_⟩
 ·show (dec ((SE.lcat (.lvar 8) (.lone _)).val (qaa F xs))).length=_
  rw [qj9,qan,List.length_append,h3];rfl
 ·show ∀el∈dec ((SE.lcat (.lvar 8) (.lone _)).val (qaa F xs)),_
  rw [qj9,qan]
  intro el he
  rcases List.mem_append.1 he with he |he
  ·exact h4 el he
  ·have he:=List.mem_singleton.1 he
   have e0:=qg_ (F:=F) (lv:=0) i0
   have e1:=qg_ (F:=F) (lv:=0) i1
   have e2:=qg_ (F:=F) (lv:=0) i2
   have l9:=q8f (F:=F) (by omega) hs l7'
   obtain ⟨a,b,ha,hb,r1,r2,r3⟩:=te_ab (byt (xs.getD 0 0) (3 * t)) (byt (xs.getD 0 0) (3 * t+1)) (sat (dec (xs.getD 7 0)).length:Nat) (qh4 _ _) (qh4 _ _) (by omega)
   have b2:=qh4 (xs.getD 0 0) (3 * t+2)
   rw [←h7]
   refine ⟨a,b,byt (xs.getD 0 0) (3 * t+2) % 4,byt (xs.getD 0 0) (3 * t+2) / 4,r1,r2,r3,by omega,by omega,?_⟩
   rw [he]
   have v0:∀x y:SE,(SE.bin .rem .i64 (.conv .i64 x) y).val (qaa F xs)=IntKind.i64.wrap ((IntKind.i64.wrap (x.val (qaa F xs))).tmod (y.val (qaa F xs))):=fun x y=>by simp only [SE.val,qbg]
   have v1:∀x y z:SE,(SE.bin .rem .i64 (.bin .add .i64 (.bin .add .i64 x (.lit .i64 1)) y) z).val (qaa F xs)=IntKind.i64.wrap ((IntKind.i64.wrap (IntKind.i64.wrap (x.val (qaa F xs)+IntKind.i64.wrap 1)+y.val (qaa F xs))).tmod (z.val (qaa F xs))):=fun x y z=>by simp only [SE.val,qbg]
   have v2:∀x:SE,(SE.conv .i64 (.bin .rem .u8 x (.lit .u8 4))).val (qaa F xs)=IntKind.i64.wrap (IntKind.u8.wrap ((x.val (qaa F xs)).tmod (IntKind.u8.wrap 4))):=fun x=>by simp only [SE.val,qbg]
   have v3:∀(x:SE) (j:Nat) (k:Option IntKind),(SE.app 33 j k (.cons (.bin .quo .i64 (.conv .i64 x) (.lit .i64 4)) .nil)).val (qaa F xs)=wrK k ((F 33 [IntKind.i64.wrap ((IntKind.i64.wrap (x.val (qaa F xs))).tdiv (IntKind.i64.wrap 4))]).getD j 0):=fun x j k=>by simp only [SE.val,SE.vals,qbg];rfl
   have c1:(SE.bin .rem .i64 (.conv .i64 (.el (some .u8) (.lvar 0) (.ivar .i64 11) 0)) (.len (.lvar 7))).val (qaa F xs)=a:=by rw [v0,e0,l7'];exact ha
   have i1':(SE.bin .add .i64 (.ivar .i64 11) (.lit .i64 1)).val (qaa F xs)=((3 * t+1:Nat):Int):=i1
   have i2':(SE.bin .add .i64 (.ivar .i64 11) (.lit .i64 2)).val (qaa F xs)=((3 * t+2:Nat):Int):=i2
   have e1:=qg_ (F:=F) (lv:=0) i1'
   have e2:=qg_ (F:=F) (lv:=0) i2'
   have q4:IntKind.i64.wrap (IntKind.u8.wrap ((byt (xs.getD 0 0) (3 * t+2)).tmod (IntKind.u8.wrap 4)))=byt (xs.getD 0 0) (3 * t+2) % 4:=by
    rw [show IntKind.u8.wrap 4=4 from rfl,Int.tmod_eq_emod_of_nonneg b2.1,IntKind.wrap_u8,IntKind.wrap_i64];omega
   have q5:IntKind.i64.wrap ((IntKind.i64.wrap (byt (xs.getD 0 0) (3 * t+2))).tdiv (IntKind.i64.wrap 4))=byt (xs.getD 0 0) (3 * t+2) / 4:=by
    rw [show IntKind.i64.wrap 4=4 from rfl,show IntKind.i64.wrap (byt (xs.getD 0 0) (3 * t+2))=byt (xs.getD 0 0) (3 * t+2) by rw [IntKind.wrap_i64];omega,Int.tdiv_eq_ediv_of_nonneg b2.1,IntKind.wrap_i64];omega
   have hl9:((sat (dec (xs.getD 7 0)).length - 1:Nat):Int)=((sat (dec (xs.getD 7 0)).length:Nat):Int) - 1:=by omega
   have w5:(SE.lit .u64 2305843009213693952).val (qaa F xs)=2305843009213693952:=by simp only [SE.val];rfl
   simp only [SE.vals,c1,v1,v2,v3,w5,e2,q4,q5]
   rw [v0,e1,l9,l7',hl9,hb]
theorem z9u (F:Nat→List Int→List Int) (xs:List Int) (hp:Pre twL F xs):qdn (fun _=>twT) F 0 (twU xs) (twI.map (SE.val (qaa F xs))):=
 qi5 (fun t ys=>twJ F (xs.getD 0 0) (xs.getD 7 0) t ys) 10 (fun t ys ht hj=>yay F _ _ t ys ht hj) (ybd F _ _) 11 0 0 _ rfl (by omega) (z4j F xs hp)
theorem z7r (F:Nat→List Int→List Int) (xs:List Int) (hp:Pre twL F xs):∃ys,twG F xs=0::ys∧(dec (ys.getD 7 0)).length≤10∧∀el∈dec (ys.getD 7 0),ygn F (sat (dec (xs.getD 7 0)).length) el:=by
 obtain ⟨e,ys,h1,h2⟩:=qfm (F:=F) (T:=twT) (fun t ys=>twJ F (xs.getD 0 0) (xs.getD 7 0) t ys) 10 (fun e ys=>e=0∧(dec (ys.getD 7 0)).length≤10∧∀el∈dec (ys.getD 7 0),ygn F (sat (dec (xs.getD 7 0)).length) el) (ybd F _ _) (fun t zs e ys ht hj hy=>by
  obtain ⟨h0,hm,h7,h2,h3,h4⟩:=hj
  have fin:ys.getD 7 0=zs.getD 8 0→(dec (ys.getD 7 0)).length≤10∧∀el∈dec (ys.getD 7 0),ygn F (sat (dec (xs.getD 7 0)).length) el:=by
   intro q;rw [q,h3];exact ⟨ht,h4⟩
  rcases qgd hy with ⟨_,rfl,hz⟩ |⟨_,hy⟩
  ·exact ⟨rfl,fin (by rw [hz];exact lvar_at (F:=F) (xs:=zs) (lv:=8))⟩
  ·rcases qgd hy with ⟨_,rfl,hz⟩ |⟨_,hy⟩
   ·exact ⟨rfl,fin (by rw [hz];exact lvar_at (F:=F) (xs:=zs) (lv:=8))⟩
   ·rcases qgd hy with ⟨_,rfl,hz⟩ |⟨_,hy⟩
    ·exact ⟨rfl,fin (by rw [hz];exact lvar_at (F:=F) (xs:=zs) (lv:=8))⟩
    ·exact (qiy hy).elim) 11 0 0 (twI.map (SE.val (qaa F xs))) rfl (by omega) (z4j F xs hp)
 obtain ⟨rfl,h2⟩:=h2
 refine ⟨ys,?_,h2⟩
 unfold twG qfv twU
 rw [h1];rfl
theorem yf_:qak (bW.loops zl1) qls 300 twL.f twn (qa3 Tryz.prog twL.f twL.id) twS twM twL.F twL.nx twS twL.outs twL.kk twT []=true:=by kernel_rfl
theorem tw_ok:LCT Tryz.prog twL (FT qls) (twG (FT qls)):=
 qc8 (b:=bW.loops zl1) (Tb:=qls) (y:=twL) (M:=twM) (T:=fun _=>twT) (S:=fun _=>twS) (init:=twI) (qag qbi _) (qbj zpp) zo0 (d:=300) (n:=twn) (by kernel_rfl) (by kernel_rfl) (by kernel_rfl) (by kernel_rfl) (fun _ _ _=>yf_) (fun xs hp=>z9u _ xs hp)
theorem z5u (F:Nat→List Int→List Int):Cst twL (twG F):=qdh twC (by kernel_rfl) (fun _ _ _=>by kernel_rfl)
noncomputable def qg6:List Ent:=⟨20054,[],.tup [],twG,true⟩::qls
def qrf:List LEnt:=twL::zl1
theorem qz2:qcd Tryz.prog qg6:=qbw zo0 rfl (by kernel_rfl)
theorem q23:LBs Tryz.prog qrf qg6:=qbl (y:=twL) zpp (by kernel_rfl) (by kernel_rfl) (by kernel_rfl) tw_ok (z5u _)
def tlS:List (Nat×V):=([(3,CB),(9,C5),(10,(.one (.opq Bl))),(0,(.any 0)),(1,(.any 1)),(2,(.any 2)),(8,(.any 8))]++ay 11 4)
def tlM:MB:=[(1,([Ad,Ad,BB,BA,Bc,Ad,Br,Ad,Bt,Ad,BE,Bj,CG,B7,.nils,.nils,CH]++zz 3++[.nils]),35,false),JJ,Jx]
def tlF:MB:=Jk
def tlT:RT:=(.ask (.cmp .lss Bl Bv) (.ask (.cmp .lss Bl AD) (.know (.cmp .geq Bl Aa) true (.know (.cmp .lss Bl (.len AW)) true (.next [Ab,Af,Am,Av,As,Aq,AY,AE,AG,(.lset AW Bl 18 (.cons (.bin .rem .i64 (.conv .i64 (.el (some .u8) Ab Bl 0)) (.lit .i64 101)) .nil)),(.bin .add .i64 Bl Aw)]))) (.out 0 [Af,Am,Av,As,Aq,AY,AE,AG,AW])) (.out 0 [Af,Am,Av,As,Aq,AY,AE,AG,AW]))
def tlL:LEnt:={f:=15,id:=3,num:=20055,nx:=4,S:=([(3,CB),(9,C5),(10,Bi),(0,(.any 0)),(1,(.any 1)),(2,(.any 2)),(8,(.any 8))]++ay 11 4),M:=[(1,([Ad,Ad,BB,BA,Bc,Ad,Br,Ad,Bt,Ad,BE,Bj,CG,B7,.nils,.nils,CH]++zz 3++[.nils]),35,false),(2,[(.big AE Bm)],54,true),Jx],F:=tlF,kk:=[0,1,2,3],outs:=[{x:=(.exit 0),S:=([(9,C5),(0,(.any 0)),(1,(.any 1)),(2,(.any 2)),(8,(.any 8))]++ay 11 4),M:=[(1,([Ad,Ad,BB,BD,Bz,Ad,Br,Ad,Bc,Ad,Bt,B6,Bj,Ee,.nils,.nils,(.sli 3 AE)]++zz 3++[.nils]),35,false),(2,[(.big AG Bm)],54,true),(3,[(.big AE BM)],3,true)],cv:=[(0,1,(some (some .i64))),(1,2,(some (some .u64))),(2,3,(some (some .u64))),(3,4,(some (some .u64))),(4,5,(some (some .i64))),(5,6,(some (some .i64))),(6,7,none),(7,8,none)]}],lv:=[(2,7),(3,8),(0,0)],sm:=[7],pre:=[]}
def tlI:List SE:=[Ab,Af,Am,Av,As,Aq,AY,AE,AG,AE,Aa]
def tlC:List (Nat×Nat×Option (Option IntKind)):=[(0,0,none),(1,1,(some (some .i64))),(2,2,(some (some .u64))),(3,3,(some (some .u64))),(4,4,(some (some .u64))),(5,5,(some (some .i64))),(6,6,(some (some .i64))),(7,7,none),(8,8,none)]
def tln:Nat:=40
theorem q92 {n m:Nat} (h:sat n=m) (hm:m≤1000000):n=m:=by
 unfold sat at h
 cases hb:Nat.ble n maxLen with
 |true=>rw [hb,cond_true] at h;exact h
 |false=>rw [hb,cond_false] at h;unfold maxLen at h;omega
def ThR (a b:List Int):Prop:=b=a∨∃c:Int,0≤c∧c≤100∧b=qb1 a 18 [c]
theorem qqs (a:List Int) (off:Nat) (x y:List Int) (h:x.length=y.length):qb1 (qb1 a off x) off y=qb1 a off y:=by
 unfold qb1
 have hl:((List.range (max a.length (off+x.length))).map fun j=>if off≤j∧j<off+x.length then x.getD (j - off) 0 else a.getD j 0).length=max a.length (off+x.length):=by simp
 rw [hl,h]
 have hm:max (max a.length (off+y.length)) (off+y.length)=max a.length (off+y.length):=by omega
 rw [hm]
 apply List.map_congr_left
 intro j hj
 have hj:=List.mem_range.1 hj
 split
 ·rfl
 ·rename_i hn
  rw [List.getD_eq_getElem?_getD,List.getElem?_map,List.getElem?_range hj]
  simp only [Option.map_some,Option.getD_some]
  rw [if_neg hn]
def tlJ (l0 l7 lb:Int) (t:Nat) (xs:List Int):Prop:=xs.getD 0 0=l0∧xs.getD 7 0=l7∧(dec l7).length≤1000000∧(dec lb).length=(dec l7).length∧xs.getD 10 0=(t:Int)∧(dec (xs.getD 9 0)).length=(dec l7).length∧∀j,ThR ((dec lb).getD j []) ((dec (xs.getD 9 0)).getD j [])
noncomputable def tlU (xs:List Int):Nat:=(dec (xs.getD 7 0)).length+1
noncomputable def tlG:(Nat→List Int→List Int)→List Int→List Int:=qfv tlI (fun _=>tlT) tlU
theorem yht (F:Nat→List Int→List Int) (xs:List Int) (hp:Pre tlL F xs):tlJ (xs.getD 0 0) (xs.getD 7 0) (xs.getD 7 0) 0 (tlI.map (SE.val (qaa F xs))):=by
 have h1:(dec (xs.getD 7 0)).length≤1000000:=hp.sm 7 (by decide)
 have hb:(dec (xs.getD 7 0)).length=(dec (xs.getD 7 0)).length:=rfl
 refine ⟨lvar_at,lvar_at,h1,hb,?_,?_,?_⟩
 ·show (SE.lit .i64 0).val (qaa F xs)=_
  simp only [SE.val];rfl
 ·show (dec ((SE.lvar 7).val (qaa F xs))).length=_
  rw [lvar_at]
  first |done |exact hb
 ·show ∀j,ThR _ ((dec ((SE.lvar 7).val (qaa F xs))).getD j [])
  rw [lvar_at];exact fun j=> .inl rfl
theorem yhz (F:Nat→List Int→List Int) (l0 l7 lb:Int) (t:Nat) (xs:List Int) (ht:t≤(dec l7).length) (h:tlJ l0 l7 lb t xs):tlT.ok (qaa F xs):=by
 obtain ⟨h0,h7,hm,hb,h2,h3,h4⟩:=h
 have i0:=qez (F:=F) h2 (by omega)
 have l:=qby (F:=F) (lv:=7) (n:=(dec l7).length) (xs:=xs) (by rw [h7]) (by unfold maxLen;omega)
 have l8:=qby (F:=F) (lv:=9) (n:=(dec l7).length) (xs:=xs) h3 (by unfold maxLen;omega)
 refine qh5 fun g1=>qh5 fun g2=> ?_
 have k1:=qib g1 i0 l
 exact ⟨(qf7 i0 (qd5 (k:=0) (by omega))).trans (decide_eq_true (by omega)),(qdx i0 l8).trans (decide_eq_true (by omega)),trivial⟩
theorem z8j (F:Nat→List Int→List Int) (l0 l7 lb:Int):∀(t:Nat) (xs ys:List Int),t≤(dec l7).length→tlJ l0 l7 lb t xs→tlT.get (qaa F xs)=(none,ys)→t<(dec l7).length∧tlJ l0 l7 lb (t+1) ys:=fun t xs ys ht h hy=>by
 obtain ⟨h0,h7,hm,hb,h2,h3,h4⟩:=h
 have i0:=qez (F:=F) h2 (by omega)
 have i1:=qcu (F:=F) (k:=1) h2 (by omega)
 have l:=qby (F:=F) (lv:=7) (n:=(dec l7).length) (xs:=xs) (by rw [h7]) (by unfold maxLen;omega)
 obtain ⟨g1,hy⟩:=qe2 hy
 obtain ⟨g2,hy⟩:=qe2 hy
 have hy:=qhg hy
 have k1:=qib g1 i0 l
 subst hy
 have v1:(SE.cons (.bin .rem .i64 (.conv .i64 (.el (some .u8) (.lvar 0) (.ivar .i64 10) 0)) (.lit .i64 101)) .nil).vals (qaa F xs)=[byt l0 t % 101]:=by
  have e:=qg_ (F:=F) (lv:=0) i0
  have hb:=qh4 l0 t
  rw [h0] at e
  have e3:∀x:SE,(SE.cons (.bin .rem .i64 (.conv .i64 x) (.lit .i64 101)) .nil).vals (qaa F xs)=[IntKind.i64.wrap ((IntKind.i64.wrap (x.val (qaa F xs))).tmod (IntKind.i64.wrap 101))]:=fun x=>by simp only [SE.vals,SE.val,qbg]
  rw [e3,e,show IntKind.i64.wrap 101=101 from rfl,show IntKind.i64.wrap (byt l0 t)=byt l0 t by rw [IntKind.wrap_i64];omega,Int.tmod_eq_emod_of_nonneg hb.1]
  simp only [IntKind.wrap_i64,List.cons.injEq,and_true];omega
 refine ⟨k1,(lvar_at (F:=F)).trans h0,(lvar_at (F:=F)).trans h7,hm,hb,i1,?_,?_⟩
 ·show (dec ((SE.lset (.lvar 9) (.ivar .i64 10) 18 _).val (qaa F xs))).length=_
  rw [qmz i0,qan,lvar_at]
  unfold qkn;rw [List.length_set];exact h3
 ·show ∀j,ThR _ ((dec ((SE.lset (.lvar 9) (.ivar .i64 10) 18 _).val (qaa F xs))).getD j [])
  rw [qmz i0,qan,lvar_at,v1]
  intro j
  by_cases hj:j=t
  ·subst hj
   rw [qka (by omega)]
   rcases h4 j with e |⟨c,c0,c1,e⟩
   ·rw [e];exact .inr ⟨_,Int.emod_nonneg _ (by decide),by have:=Int.emod_lt_of_pos (byt l0 j) (show (0:Int)<101 by decide);omega,rfl⟩
   ·rw [e,qqs _ 18 [c] [byt l0 j % 101] rfl];exact .inr ⟨_,Int.emod_nonneg _ (by decide),by have:=Int.emod_lt_of_pos (byt l0 j) (show (0:Int)<101 by decide);omega,rfl⟩
  ·rw [zaz hj];exact h4 j
theorem yah (F:Nat→List Int→List Int) (xs:List Int) (hp:Pre tlL F xs):qdn (fun _=>tlT) F 0 (tlU xs) (tlI.map (SE.val (qaa F xs))):=
 qi5 (fun t ys=>tlJ (xs.getD 0 0) (xs.getD 7 0) (xs.getD 7 0) t ys) (dec (xs.getD 7 0)).length (fun t ys ht hj=>yhz F _ _ _ t ys ht hj) (z8j F _ _ _) _ 0 0 _ (Nat.zero_add _) (Nat.succ_pos _) (yht F xs hp)
theorem z9_:qak (bW.loops qrf) qg6 300 tlL.f tln (qa3 Tryz.prog tlL.f tlL.id) tlS tlM tlL.F tlL.nx tlS tlL.outs tlL.kk tlT []=true:=by kernel_rfl
theorem tl_ok:LCT Tryz.prog tlL (FT qg6) (tlG (FT qg6)):=
 qc8 (b:=bW.loops qrf) (Tb:=qg6) (y:=tlL) (M:=tlM) (T:=fun _=>tlT) (S:=fun _=>tlS) (init:=tlI) (qag qbi _) (qbj q23) qz2 (d:=300) (n:=tln) (by kernel_rfl) (by kernel_rfl) (by kernel_rfl) (by kernel_rfl) (fun _ _ _=>z9_) (fun xs hp=>yah _ xs hp)
theorem yhs (F:Nat→List Int→List Int):Cst tlL (tlG F):=qdh tlC (by kernel_rfl) (fun _ _ _=>by kernel_rfl)
noncomputable def qd9:List Ent:=⟨20055,[],.tup [],tlG,true⟩::qg6
def qsi:List LEnt:=tlL::qrf
theorem q2l:qcd Tryz.prog qd9:=qbw qz2 rfl (by kernel_rfl)
theorem qzy:LBs Tryz.prog qsi qd9:=qbl (y:=tlL) q23 (by kernel_rfl) (by kernel_rfl) (by kernel_rfl) tl_ok (yhs _)
def wlS:List (Nat×V):=([(3,CB),(11,C5),(12,(.one C6)),(0,(.any 0)),(1,(.any 1)),(2,(.any 2)),(4,(.any 4)),(10,(.any 10))]++ay 13 6)
abbrev Ef:C:=.sli 4 AW
abbrev Jy:Nat×List C×Nat×Bool:=(3,[(.big AG BZ)],70,true)
def wlM:MB:=[(1,([Ad,Ad,BB,BA,Bc,Ad,Br,Ad,Bt,Ad,BE,Bj,CG,B7,CH,.nils,Ef]++zz 3++[.nils]),35,false),JI,Jy,(4,Jw,3,true)]
def wlF:MB:=Jk
def wlT:RT:=(.ask (.cmp .lss Ay Bv) (.ask Hj (.know Hi true (.know (.cmp .lss Ay (.len Bf)) true (.next [Ab,Af,Am,Av,As,Aq,AY,AE,AG,AW,(.lset Bf Ay 18 (.cons (.bin .rem .i64 Hl (.lit .i64 101)) .nil)),C7]))) (.out 0 [Ab,Af,Am,Av,As,Aq,AY,AE,AG,AW,Bf])) (.out 0 [Ab,Af,Am,Av,As,Aq,AY,AE,AG,AW,Bf]))
def wlC:List (Nat×Nat×Option (Option IntKind)):=[(0,0,none),(1,1,(some (some .i64))),(2,2,(some (some .u64))),(3,3,(some (some .u64))),(4,4,(some (some .u64))),(5,5,(some (some .i64))),(6,6,(some (some .i64))),(7,7,none),(8,8,none),(9,9,none)]
def wlL:LEnt:={f:=6,id:=5,num:=20056,nx:=5,S:=([(3,CB),(11,C5),(12,Bi),(0,(.any 0)),(1,(.any 1)),(2,(.any 2)),(4,(.any 4)),(10,(.any 10))]++ay 13 6),M:=[(1,([Ad,Ad,BB,BA,Bc,Ad,Br,Ad,Bt,Ad,BE,Bj,CG,B7,CH,.nils,Ef]++zz 3++[.nils]),35,false),JI,Jy,(4,Jw,3,true)],F:=wlF,kk:=[0,1,2,3,4],outs:=[{x:=(.exit 0),S:=([(3,CB),(11,C5),(0,(.any 0)),(1,(.any 1)),(2,(.any 2)),(4,(.any 4)),(10,(.any 10))]++ay 13 6),M:=[(1,([Ad,Ad,BB,BA,Bc,Ad,Br,Ad,Bt,Ad,BE,Bj,CG,B7,CH,.nils,Ef]++zz 3++[.nils]),35,false),JI,Jy,(4,Jw,3,true)],cv:=wlC}],lv:=[(2,10),(3,8),(4,9),(0,0)],sm:=[10],pre:=[(.cmp .neq Bv (.len Bf),false)]}
def wlI:List SE:=[Ab,Af,Am,Av,As,Aq,AY,AE,AG,AW,Bf,Aa]
def wln:Nat:=51
def wlJ (l0 l7 lb:Int) (t:Nat) (xs:List Int):Prop:=xs.getD 0 0=l0∧xs.getD 7 0=l7∧(dec l7).length≤1000000∧(dec lb).length=(dec l7).length∧xs.getD 11 0=(t:Int)∧(dec (xs.getD 10 0)).length=(dec l7).length∧∀j,ThR ((dec lb).getD j []) ((dec (xs.getD 10 0)).getD j [])
noncomputable def wlU (xs:List Int):Nat:=(dec (xs.getD 7 0)).length+1
noncomputable def wlG:(Nat→List Int→List Int)→List Int→List Int:=qfv wlI (fun _=>wlT) wlU
theorem yfw (F:Nat→List Int→List Int) (xs:List Int) (hp:Pre wlL F xs):wlJ (xs.getD 0 0) (xs.getD 7 0) (xs.getD 10 0) 0 (wlI.map (SE.val (qaa F xs))):=by
 have h8:(dec (xs.getD 10 0)).length≤1000000:=hp.sm 10 (by decide)
 have h3:=hp.pre _ (by show _∈[((SE.cmp .neq (.len (.lvar 7)) (.len (.lvar 10))),false)];exact .head _)
 have l7:=qmr (F:=F) (lv:=7) (xs:=xs)
 have l8:=qby (F:=F) (lv:=10) (xs:=xs) rfl (by unfold maxLen;omega)
 have hb:(dec (xs.getD 10 0)).length=(dec (xs.getD 7 0)).length:=by
  simp only [SE.val,qas,qa8] at h3 l7 l8
  rw [l7,l8] at h3
  have:=bne_eq_false_iff_eq.1 h3
  exact (q92 (by omega) h8).symm
 have h1:(dec (xs.getD 7 0)).length≤1000000:=by omega
 refine ⟨lvar_at,lvar_at,h1,hb,?_,?_,?_⟩
 ·show (SE.lit .i64 0).val (qaa F xs)=_
  simp only [SE.val];rfl
 ·show (dec ((SE.lvar 10).val (qaa F xs))).length=_
  rw [lvar_at]
  first |done |exact hb
 ·show ∀j,ThR _ ((dec ((SE.lvar 10).val (qaa F xs))).getD j [])
  rw [lvar_at];exact fun j=> .inl rfl
theorem z5l (F:Nat→List Int→List Int) (l0 l7 lb:Int) (t:Nat) (xs:List Int) (ht:t≤(dec l7).length) (h:wlJ l0 l7 lb t xs):wlT.ok (qaa F xs):=by
 obtain ⟨h0,h7,hm,hb,h2,h3,h4⟩:=h
 have i0:=qez (F:=F) h2 (by omega)
 have l:=qby (F:=F) (lv:=7) (n:=(dec l7).length) (xs:=xs) (by rw [h7]) (by unfold maxLen;omega)
 have l8:=qby (F:=F) (lv:=10) (n:=(dec l7).length) (xs:=xs) h3 (by unfold maxLen;omega)
 refine qh5 fun g1=>qh5 fun g2=> ?_
 have k1:=qib g1 i0 l
 exact ⟨(qf7 i0 (qd5 (k:=0) (by omega))).trans (decide_eq_true (by omega)),(qdx i0 l8).trans (decide_eq_true (by omega)),trivial⟩
theorem z7g (F:Nat→List Int→List Int) (l0 l7 lb:Int):∀(t:Nat) (xs ys:List Int),t≤(dec l7).length→wlJ l0 l7 lb t xs→wlT.get (qaa F xs)=(none,ys)→t<(dec l7).length∧wlJ l0 l7 lb (t+1) ys:=fun t xs ys ht h hy=>by
 obtain ⟨h0,h7,hm,hb,h2,h3,h4⟩:=h
 have i0:=qez (F:=F) h2 (by omega)
 have i1:=qcu (F:=F) (k:=1) h2 (by omega)
 have l:=qby (F:=F) (lv:=7) (n:=(dec l7).length) (xs:=xs) (by rw [h7]) (by unfold maxLen;omega)
 obtain ⟨g1,hy⟩:=qe2 hy
 obtain ⟨g2,hy⟩:=qe2 hy
 have hy:=qhg hy
 have k1:=qib g1 i0 l
 subst hy
 have v1:(SE.cons (.bin .rem .i64 (.conv .i64 (.el (some .u8) (.lvar 0) (.ivar .i64 11) 0)) (.lit .i64 101)) .nil).vals (qaa F xs)=[byt l0 t % 101]:=by
  have e:=qg_ (F:=F) (lv:=0) i0
  have hb:=qh4 l0 t
  rw [h0] at e
  have e3:∀x:SE,(SE.cons (.bin .rem .i64 (.conv .i64 x) (.lit .i64 101)) .nil).vals (qaa F xs)=[IntKind.i64.wrap ((IntKind.i64.wrap (x.val (qaa F xs))).tmod (IntKind.i64.wrap 101))]:=fun x=>by simp only [SE.vals,SE.val,qbg]
  rw [e3,e,show IntKind.i64.wrap 101=101 from rfl,show IntKind.i64.wrap (byt l0 t)=byt l0 t by rw [IntKind.wrap_i64];omega,Int.tmod_eq_emod_of_nonneg hb.1]
  simp only [IntKind.wrap_i64,List.cons.injEq,and_true];omega
 refine ⟨k1,(lvar_at (F:=F)).trans h0,(lvar_at (F:=F)).trans h7,hm,hb,i1,?_,?_⟩
 ·show (dec ((SE.lset (.lvar 10) (.ivar .i64 11) 18 _).val (qaa F xs))).length=_
  rw [qmz i0,qan,lvar_at]
  unfold qkn;rw [List.length_set];exact h3
 ·show ∀j,ThR _ ((dec ((SE.lset (.lvar 10) (.ivar .i64 11) 18 _).val (qaa F xs))).getD j [])
  rw [qmz i0,qan,lvar_at,v1]
  intro j
  by_cases hj:j=t
  ·subst hj
   rw [qka (by omega)]
   rcases h4 j with e |⟨c,c0,c1,e⟩
   ·rw [e];exact .inr ⟨_,Int.emod_nonneg _ (by decide),by have:=Int.emod_lt_of_pos (byt l0 j) (show (0:Int)<101 by decide);omega,rfl⟩
   ·rw [e,qqs _ 18 [c] [byt l0 j % 101] rfl];exact .inr ⟨_,Int.emod_nonneg _ (by decide),by have:=Int.emod_lt_of_pos (byt l0 j) (show (0:Int)<101 by decide);omega,rfl⟩
  ·rw [zaz hj];exact h4 j
theorem ygu (F:Nat→List Int→List Int) (xs:List Int) (hp:Pre wlL F xs):qdn (fun _=>wlT) F 0 (wlU xs) (wlI.map (SE.val (qaa F xs))):=
 qi5 (fun t ys=>wlJ (xs.getD 0 0) (xs.getD 7 0) (xs.getD 10 0) t ys) (dec (xs.getD 7 0)).length (fun t ys ht hj=>z5l F _ _ _ t ys ht hj) (z7g F _ _ _) _ 0 0 _ (Nat.zero_add _) (Nat.succ_pos _) (yfw F xs hp)
theorem yc1 (F:Nat→List Int→List Int) (xs:List Int) (hp:Pre wlL F xs):∃ys,wlG F xs=0::ys∧(dec (ys.getD 10 0)).length=(dec (xs.getD 7 0)).length∧∀j,ThR ((dec (xs.getD 10 0)).getD j []) ((dec (ys.getD 10 0)).getD j []):=by
 obtain ⟨e,ys,h1,h2⟩:=qfm (F:=F) (T:=wlT) (fun t ys=>wlJ (xs.getD 0 0) (xs.getD 7 0) (xs.getD 10 0) t ys) (dec (xs.getD 7 0)).length (fun e ys=>e=0∧(dec (ys.getD 10 0)).length=(dec (xs.getD 7 0)).length∧∀j,ThR ((dec (xs.getD 10 0)).getD j []) ((dec (ys.getD 10 0)).getD j [])) (z7g F _ _ _) (fun t zs e ys ht hj hy=>by
  obtain ⟨h0,h7,hm,hb,h2,h3,h4⟩:=hj
  have fin:ys.getD 10 0=zs.getD 10 0→(dec (ys.getD 10 0)).length=(dec (xs.getD 7 0)).length∧∀j,ThR ((dec (xs.getD 10 0)).getD j []) ((dec (ys.getD 10 0)).getD j []):=by
   intro q;rw [q];exact ⟨h3,h4⟩
  rcases qgd hy with ⟨g,rfl,hz⟩ |⟨_,hy⟩
  ·refine ⟨rfl,fin ?_⟩
   rw [hz];exact lvar_at (F:=F) (xs:=zs) (lv:=10)
  ·rcases qgd hy with ⟨g,rfl,hz⟩ |⟨_,hy⟩
   ·refine ⟨rfl,fin ?_⟩
    rw [hz];exact lvar_at (F:=F) (xs:=zs) (lv:=10)
   ·exact (qiy hy).elim) _ 0 0 (wlI.map (SE.val (qaa F xs))) (Nat.zero_add _) (Nat.succ_pos _) (yfw F xs hp)
 obtain ⟨rfl,h2⟩:=h2
 refine ⟨ys,?_,h2⟩
 unfold wlG qfv wlU
 rw [h1];rfl
theorem ydw:qak (bW.loops qsi) qd9 300 wlL.f wln (qa3 Tryz.prog wlL.f wlL.id) wlS wlM wlL.F wlL.nx wlS wlL.outs wlL.kk wlT []=true:=by kernel_rfl
theorem wl_ok:LCT Tryz.prog wlL (FT qd9) (wlG (FT qd9)):=
 qc8 (b:=bW.loops qsi) (Tb:=qd9) (y:=wlL) (M:=wlM) (T:=fun _=>wlT) (S:=fun _=>wlS) (init:=wlI) (qag qbi _) (qbj qzy) q2l (d:=300) (n:=wln) (by kernel_rfl) (by kernel_rfl) (by kernel_rfl) (by kernel_rfl) (fun _ _ _=>ydw) (fun xs hp=>ygu _ xs hp)
theorem z49 (F:Nat→List Int→List Int):Cst wlL (wlG F):=qdh wlC (by kernel_rfl) (fun _ _ _=>by kernel_rfl)
noncomputable def qek:List Ent:=⟨20056,[],.tup [],wlG,true⟩::qd9
def qsf:List LEnt:=wlL::qsi
theorem q0h:qcd Tryz.prog qek:=qbw q2l rfl (by kernel_rfl)
theorem q1r:LBs Tryz.prog qsf qek:=qbl (y:=wlL) qzy (by kernel_rfl) (by kernel_rfl) (by kernel_rfl) wl_ok (z49 _)
def raS:List (Nat×V):=[(0,CB),(5,(.one (.sli 1 Ar))),(1,(.one (.int .i64 2))),(6,C1),(4,(.any 4))]
def raM:MB:=[(1,[(.big Ar BX)],72,true)]
def raF:MB:=Jk
abbrev Hq:SE:=.bin .add .i64 BN Aw
abbrev Hr:SE:=.cons (.bin .add .i64 Aw (.conv .i64 G8)) .nil
abbrev Hs:SE:=.cons (.conv .i64 Ha) .nil
def raT:RT:=(.ask G0 (.ask (.cmp .lss BN Cu) (.know CE true (.know CD true (.know G1 true (.know G2 true (.know G3 true (.know G4 true (.know G5 true (.know (.cmp .gtr Hq Aa) true (.know G6 true (.next [Ab,(.lcat Ar (.lone (.cons (.bin .sub .i64 (.bin .rem .i64 (.conv .i64 G7) Hq) Aw) (.cons (.app 33 0 (some .i64) Hr) (.cons (.app 33 1 (some .u64) Hr) (.cons Aa (.cons (.bin .shl .u64 (.conv .u64 (.bin .rem .i64 (.conv .i64 G9) (.lit .i64 15))) (.lit .u64 60)) (.cons (.bin .mul .i64 (.conv .i64 Ha) (.lit .i64 257)) (.cons (.bin .mul .i64 (.conv .i64 G7) (.lit .i64 200)) (.cons (.bin .add .i64 (.bin .add .i64 Aw (.bin .mul .i64 (.conv .i64 G8) (.lit .i64 7))) (.conv .i64 G9)) (.cons (.app 33 0 (some .i64) Hs) (.cons (.app 33 1 (some .u64) Hs) .nil)))))))))))),Hb])))))))))) (.out 0 [Ar])) (.out 0 [Ar]))
def raL:LEnt:={f:=16,id:=3,num:=20057,nx:=2,S:=[(0,CB),(1,(.one (.int .i64 2))),(5,(.one .nils)),(6,Bi),(4,(.any 4))],M:=[],F:=raF,kk:=[0],outs:=[{x:=(.exit 0),S:=Hc,M:=[(1,Js,72,true)],cv:=[]}],lv:=[(0,0)],sm:=[],pre:=[]}
def raI:List SE:=[Ab,.lnil,Aa]
def raC:List (Nat×Nat×Option (Option IntKind)):=[(0,0,none)]
def ran:Nat:=77
def z38 (F:Nat→List Int→List Int) (j:Nat) (el:List Int):Prop:=∃b0 b1 b2 b3:Int,(0≤b0∧b0<256)∧(0≤b1∧b1<256)∧(0≤b2∧b2<256)∧(0≤b3∧b3<256)∧
 el=[b0 % ((j:Int)+1) - 1,wrK (some .i64) ((F 33 [1+b1]).getD 0 0),wrK (some .u64) ((F 33 [1+b1]).getD 1 0),0,b2 % 15 * 1152921504606846976 % 18446744073709551616,b3 * 257,b0 * 200,1+b1 * 7+b2,wrK (some .i64) ((F 33 [b3]).getD 0 0),wrK (some .u64) ((F 33 [b3]).getD 1 0)]
def raJ (F:Nat→List Int→List Int) (l0:Int) (t:Nat) (xs:List Int):Prop:=xs.getD 0 0=l0∧(dec l0).length≤maxLen∧xs.getD 2 0=((4 * t:Nat):Int)∧(dec (xs.getD 1 0)).length=t∧∀(j:Nat) (el:List Int),(dec (xs.getD 1 0))[j]? =some el→z38 F j el
noncomputable def raU (xs:List Int):Nat:=3
noncomputable def raG:(Nat→List Int→List Int)→List Int→List Int:=qfv raI (fun _=>raT) raU
theorem ye_ (F:Nat→List Int→List Int) (xs:List Int) (hp:Pre raL F xs):raJ F (xs.getD 0 0) 0 (raI.map (SE.val (qaa F xs))):=by
 have h1:(dec (xs.getD 0 0)).length≤maxLen:=hp.lv (0,0) (by decide)
 have e:(raI.map (SE.val (qaa F xs))).getD 1 0=enc []:=by
  show (SE.lnil).val (qaa F xs)=_
  simp only [SE.val]
 refine ⟨lvar_at,h1,?_,?_,?_⟩
 ·show (SE.lit .i64 0).val (qaa F xs)=_
  simp only [SE.val];rfl
 ·rw [e,qan];rfl
 ·rw [e,qan];intro j el h;simp at h
theorem zg2 {F:Nat→List Int→List Int} {xs:List Int} {n:Nat} (hm:n≤1000000000000) {x:SE} (hx:x.val (qaa F xs)=(n:Int)):(SE.bin .add .i64 x (.lit .i64 1)).val (qaa F xs)=((n+1:Nat):Int):=by
 have e:(SE.bin .add .i64 x (.lit .i64 1)).val (qaa F xs)=IntKind.i64.wrap (x.val (qaa F xs)+IntKind.i64.wrap 1):=by simp only [SE.val,qbg]
 rw [e,hx];simp only [IntKind.wrap_i64];omega
theorem z64 (F:Nat→List Int→List Int) (l0:Int) (t:Nat) (xs:List Int) (ht:t≤2) (h:raJ F l0 t xs):raT.ok (qaa F xs):=by
 obtain ⟨h0,hm,h2,h3,h4⟩:=h
 have hm':(dec (xs.getD 0 0)).length≤maxLen:=by rw [h0];exact hm
 have i0:=qez (F:=F) h2 (by omega)
 have i1:=qcu (F:=F) (k:=1) h2 (by omega)
 have i2:=qcu (F:=F) (k:=2) h2 (by omega)
 have i3:=qcu (F:=F) (k:=3) h2 (by omega)
 have l:=qby (F:=F) rfl hm'
 have l1:=qby (F:=F) h3 (by unfold maxLen;omega)
 have l2:=zg2 (F:=F) (by omega) l1
 have z:=qd5 (F:=F) (xs:=xs) (k:=0) (by omega)
 refine qh5 fun g1=>qh5 fun g2=> ?_
 have k1:=qib g1 i3 l
 exact ⟨(qf7 i0 z).trans (decide_eq_true (by omega)),(qdx i0 l).trans (decide_eq_true (by omega)),(qf7 i1 z).trans (decide_eq_true (by omega)),(qdx i1 l).trans (decide_eq_true (by omega)),(qf7 i2 z).trans (decide_eq_true (by omega)),(qdx i2 l).trans (decide_eq_true (by omega)),(qf7 i3 z).trans (decide_eq_true (by omega)),(qun l2 z).trans (decide_eq_true (by omega)),(qm9 l1 (qd5 (k:=1000000) (by omega))).trans (decide_eq_true (by omega)),trivial⟩
theorem z55 (F:Nat→List Int→List Int) (l0:Int):∀(t:Nat) (xs ys:List Int),t≤2→raJ F l0 t xs→raT.get (qaa F xs)=(none,ys)→t<2∧raJ F l0 (t+1) ys:=fun t xs ys ht h hy=>by
 obtain ⟨h0,hm,h2,h3,h4⟩:=h
 have i0:=qez (F:=F) h2 (by omega)
 have i1:=qcu (F:=F) (k:=1) h2 (by omega)
 have i2:=qcu (F:=F) (k:=2) h2 (by omega)
 have i3:=qcu (F:=F) (k:=3) h2 (by omega)
 have i4:=qcu (F:=F) (k:=4) h2 (by omega)
 have l1:=qby (F:=F) h3 (by unfold maxLen;omega)
 have l2:=zg2 (F:=F) (by omega) l1
 obtain ⟨g1,hy⟩:=qe2 hy
 obtain ⟨g2,hy⟩:=qe2 hy
 have hy:=qhg hy
 have k2:=qib g2 l1 (qd5 (k:=2) (by omega))
 subst hy
 refine ⟨k2,(lvar_at (F:=F)).trans h0,hm,i4,?_,?_⟩
 ·show (dec ((SE.lcat (.lvar 1) (.lone _)).val (qaa F xs))).length=_
  rw [qj9,qan,List.length_append,h3];rfl
 ·show ∀(j:Nat) (el:List Int),(dec ((SE.lcat (.lvar 1) (.lone _)).val (qaa F xs)))[j]? =some el→_
  rw [qj9,qan]
  intro j el he
  by_cases hj:j<t
  ·rw [List.getElem?_append_left (by omega)] at he;exact h4 j el he
  ·rw [List.getElem?_append_right (by omega)] at he
   have hjt:j=t:=by
    have h5:=(List.getElem?_eq_some_iff.1 he).1
    rw [h3] at h5
    have h6:j - t<1:=h5
    omega
   subst hjt
   rw [h3,Nat.sub_self] at he
   have he:_=el:=Option.some.inj he
   have i1':(SE.bin .add .i64 (.ivar .i64 2) (.lit .i64 1)).val (qaa F xs)=((4 * j+1:Nat):Int):=i1
   have i2':(SE.bin .add .i64 (.ivar .i64 2) (.lit .i64 2)).val (qaa F xs)=((4 * j+2:Nat):Int):=i2
   have i3':(SE.bin .add .i64 (.ivar .i64 2) (.lit .i64 3)).val (qaa F xs)=((4 * j+3:Nat):Int):=i3
   have e0:=qg_ (F:=F) (lv:=0) i0
   have e1:=qg_ (F:=F) (lv:=0) i1'
   have e2:=qg_ (F:=F) (lv:=0) i2'
   have e3:=qg_ (F:=F) (lv:=0) i3'
   have c0:=qh4 (xs.getD 0 0) (4 * j)
   have c1:=qh4 (xs.getD 0 0) (4 * j+1)
   have c2:=qh4 (xs.getD 0 0) (4 * j+2)
   have c3:=qh4 (xs.getD 0 0) (4 * j+3)
   refine ⟨_,_,_,_,c0,c1,c2,c3,?_⟩
   rw [←he]
   have w:∀z:Int,0≤z→z<9223372036854775808→IntKind.i64.wrap z=z:=fun z h1 h2=>by rw [IntKind.wrap_i64];omega
   have p1:∀x y:SE,(SE.bin .sub .i64 (.bin .rem .i64 (.conv .i64 x) y) (.lit .i64 1)).val (qaa F xs)=IntKind.i64.wrap (IntKind.i64.wrap ((IntKind.i64.wrap (x.val (qaa F xs))).tmod (y.val (qaa F xs))) - IntKind.i64.wrap 1):=fun x y=>by simp only [SE.val,qbg]
   have p2:∀(x:SE) (j:Nat) (k:Option IntKind),(SE.app 33 j k (.cons (.bin .add .i64 (.lit .i64 1) (.conv .i64 x)) .nil)).val (qaa F xs)=wrK k ((F 33 [IntKind.i64.wrap (IntKind.i64.wrap 1+IntKind.i64.wrap (x.val (qaa F xs)))]).getD j 0):=fun x j k=>by simp only [SE.val,SE.vals,qbg];rfl
   have p3:∀x:SE,(SE.bin .shl .u64 (.conv .u64 (.bin .rem .i64 (.conv .i64 x) (.lit .i64 15))) (.lit .u64 60)).val (qaa F xs)=IntKind.u64.wrap (IntKind.u64.wrap (IntKind.i64.wrap ((IntKind.i64.wrap (x.val (qaa F xs))).tmod (IntKind.i64.wrap 15))) * 2 ^ (min (IntKind.u64.wrap 60).toNat IntKind.u64.bits)):=fun x=>by simp only [SE.val,qbg]
   have p4:∀(x:SE) (n:Int),(SE.bin .mul .i64 (.conv .i64 x) (.lit .i64 n)).val (qaa F xs)=IntKind.i64.wrap (IntKind.i64.wrap (x.val (qaa F xs)) * IntKind.i64.wrap n):=fun x n=>by simp only [SE.val,qbg]
   have p5:∀(x y:SE),(SE.bin .add .i64 (.bin .add .i64 (.lit .i64 1) x) (.conv .i64 y)).val (qaa F xs)=IntKind.i64.wrap (IntKind.i64.wrap (IntKind.i64.wrap 1+x.val (qaa F xs))+IntKind.i64.wrap (y.val (qaa F xs))):=fun x y=>by simp only [SE.val,qbg]
   have p6:∀(x:SE) (j:Nat) (k:Option IntKind),(SE.app 33 j k (.cons (.conv .i64 x) .nil)).val (qaa F xs)=wrK k ((F 33 [IntKind.i64.wrap (x.val (qaa F xs))]).getD j 0):=fun x j k=>by simp only [SE.val,SE.vals];rfl
   have p7:(SE.lit .i64 0).val (qaa F xs)=0:=by simp only [SE.val];rfl
   simp only [SE.vals,p1,p2,p3,p4,p5,p6,p7,e0,e1,e2,e3,l2]
   generalize byt (xs.getD 0 0) (4 * j)=b0 at *
   generalize byt (xs.getD 0 0) (4 * j+1)=b1 at *
   generalize byt (xs.getD 0 0) (4 * j+2)=b2 at *
   generalize byt (xs.getD 0 0) (4 * j+3)=b3 at *
   have q1:IntKind.i64.wrap (IntKind.i64.wrap ((IntKind.i64.wrap b0).tmod ((j+1:Nat):Int)) - IntKind.i64.wrap 1)=b0 % ((j:Int)+1) - 1:=by
    have r1:0≤b0 % ((j:Int)+1):=Int.emod_nonneg _ (by omega)
    have r2:b0 % ((j:Int)+1)<(j:Int)+1:=Int.emod_lt_of_pos _ (by omega)
    rw [w b0 c0.1 (by omega),Int.tmod_eq_emod_of_nonneg c0.1,show ((j+1:Nat):Int)=(j:Int)+1 by omega,w _ r1 (by omega),show IntKind.i64.wrap 1=1 from rfl,IntKind.wrap_i64]
    omega
   have q2:IntKind.i64.wrap (IntKind.i64.wrap 1+IntKind.i64.wrap b1)=1+b1:=by rw [w b1 c1.1 (by omega),show IntKind.i64.wrap 1=1 from rfl,w _ (by omega) (by omega)]
   have q3:IntKind.u64.wrap (IntKind.u64.wrap (IntKind.i64.wrap ((IntKind.i64.wrap b2).tmod (IntKind.i64.wrap 15))) * 2 ^ (min (IntKind.u64.wrap 60).toNat IntKind.u64.bits))=b2 % 15 * 1152921504606846976 % 18446744073709551616:=by
    rw [w b2 c2.1 (by omega),show IntKind.i64.wrap 15=15 from rfl,Int.tmod_eq_emod_of_nonneg c2.1,w _ (by omega) (by omega),show (2:Int) ^ (min (IntKind.u64.wrap 60).toNat IntKind.u64.bits)=1152921504606846976 from rfl,IntKind.wrap_u64,IntKind.wrap_u64]
    omega
   have q4:IntKind.i64.wrap (IntKind.i64.wrap b3 * IntKind.i64.wrap 257)=b3 * 257:=by rw [w b3 c3.1 (by omega),show IntKind.i64.wrap 257=257 from rfl,w _ (by omega) (by omega)]
   have q5:IntKind.i64.wrap (IntKind.i64.wrap b0 * IntKind.i64.wrap 200)=b0 * 200:=by rw [w b0 c0.1 (by omega),show IntKind.i64.wrap 200=200 from rfl,w _ (by omega) (by omega)]
   have q6:IntKind.i64.wrap (IntKind.i64.wrap (IntKind.i64.wrap 1+IntKind.i64.wrap (IntKind.i64.wrap b1 * IntKind.i64.wrap 7))+IntKind.i64.wrap b2)=1+b1 * 7+b2:=by
    rw [w b1 c1.1 (by omega),w b2 c2.1 (by omega),show IntKind.i64.wrap 7=7 from rfl,show IntKind.i64.wrap 1=1 from rfl,w (b1 * 7) (by omega) (by omega),w (1+b1 * 7) (by omega) (by omega),w _ (by omega) (by omega)]
   have q6':IntKind.i64.wrap (IntKind.i64.wrap (IntKind.i64.wrap 1+IntKind.i64.wrap (IntKind.i64.wrap b1 * IntKind.i64.wrap 7))+IntKind.i64.wrap b2)=1+b1 * 7+b2:=q6
   have q7:IntKind.i64.wrap b3=b3:=w b3 c3.1 (by omega)
   rw [q1,q2,q3,q4,q5,q6,q7]
theorem ydc (F:Nat→List Int→List Int) (xs:List Int) (hp:Pre raL F xs):qdn (fun _=>raT) F 0 (raU xs) (raI.map (SE.val (qaa F xs))):=
 qi5 (fun t ys=>raJ F (xs.getD 0 0) t ys) 2 (fun t ys ht hj=>z64 F _ t ys ht hj) (z55 F _) 3 0 0 _ rfl (by omega) (ye_ F xs hp)
theorem z7l:qak (bW.loops qsf) qek 300 raL.f ran (qa3 Tryz.prog raL.f raL.id) raS raM raL.F raL.nx raS raL.outs raL.kk raT []=true:=by kernel_rfl
theorem ra_ok:LCT Tryz.prog raL (FT qek) (raG (FT qek)):=
 qc8 (b:=bW.loops qsf) (Tb:=qek) (y:=raL) (M:=raM) (T:=fun _=>raT) (S:=fun _=>raS) (init:=raI) (qag qbi _) (qbj q1r) q0h (d:=300) (n:=ran) (by kernel_rfl) (by kernel_rfl) (by kernel_rfl) (by kernel_rfl) (fun _ _ _=>z7l) (fun xs hp=>ydc _ xs hp)
theorem yax (F:Nat→List Int→List Int):Cst raL (raG F):=qdh raC (by kernel_rfl) (fun _ _ _=>by kernel_rfl)
noncomputable def qw2:List Ent:=⟨20057,[],.tup [],raG,true⟩::qek
def zes:List LEnt:=raL::qsf
theorem zj4:qcd Tryz.prog qw2:=qbw q0h rfl (by kernel_rfl)
theorem zl2:LBs Tryz.prog zes qw2:=qbl (y:=raL) q1r (by kernel_rfl) (by kernel_rfl) (by kernel_rfl) ra_ok (yax _)
noncomputable def qfx:List Ent:=qw2
def zj5:List LEnt:=zes
theorem zp1:qcd Tryz.prog qfx:=zj4
theorem zo7:LBs Tryz.prog zj5 qfx:=zl2
def ib2S:List (Nat×V):=[(0,CB),(1,(.one (.fn 42 []))),(4,Bi),(8,C1),(7,C0),(6,(.any 6))]
def ib2M:MB:=[]
def ib2F:MB:=[(0,Jv,54,false)]
def ib2T:RT:=(.ask CD (.know CE true (.know (.cmp .lss Ai BN) true (.ask (.app 42 0 none (.cons (.el (some .i64) Ar Ai 0) (.cons (.el (some .u64) Ar Ai 1) (.cons (.el (some .i64) Ar Ai 2) (.cons (.el (some .u64) Ar Ai 3) (.cons (.el (some .i64) Ar Ai 4) (.cons (.el (some .u64) Ar Ai 5) (.cons (.el (some .i64) Ar Ai 6) (.cons (.el (some .u64) Ar Ai 7) (.cons (.el (some .i64) Ar Ai 8) (.cons (.el (some .u64) Ar Ai 9) (.cons (.el (some .i64) Ar Ai 10) (.cons (.el (some .u64) Ar Ai 11) (.cons (.el (some .i64) Ar Ai 12) (.cons (.el (some .u64) Ar Ai 13) (.cons (.el (some .i64) Ar Ai 14) (.cons (.el (some .u64) Ar Ai 15) (.cons (.el (some .i64) Ar Ai 16) (.cons (.el (some .u64) Ar Ai 17) (.cons (.el (some .i64) Ar Ai 18) (.cons (.el (some .i64) Ar Ai 19) .nil))))))))))))))))))))) (.out 0 [Ai]) (.next [Ab,Ar,CF])))) (.out 1 [Ab]))
def ib2L:LEnt:={f:=78,id:=2,num:=20061,nx:=1,S:=JC,M:=[],F:=ib2F,kk:=[0],outs:=[{x:= .ret,S:=[(4,(.one BD))],M:=[],cv:=[]},{x:=(.exit 0),S:=[(0,CB),(4,Bi),(6,(.any 6))],M:=[],cv:=mrC}],lv:=[(0,1)],sm:=[1],pre:=[(.cmp .neq AD BN,false)]}
abbrev CI:List SE:=[Ab,Ar,Aa]
def ib2I:List SE:=CI
def z2w:List (Nat×Nat×Option (Option IntKind)):=[(0,0,none),(1,1,none)]
def ib2n:Nat:=19
def ib2E:List (SE×Bool):=[(.cmp .lss Ai BN,true)]
def zw7 (xs:List Int):Prop:=(dec (xs.getD 0 0)).length≤1000000∧(dec (xs.getD 1 0)).length=(dec (xs.getD 0 0)).length
noncomputable def z4a (xs:List Int):Nat:=(dec (xs.getD 0 0)).length+1
noncomputable def q1y:(Nat→List Int→List Int)→List Int→List Int:=qfv ib2I (fun _=>ib2T) z4a
theorem zlq (F:Nat→List Int→List Int):∀xs ys,zw7 xs→ib2T.get (qaa F xs)=(none,ys)→zw7 ys:=fun xs ys h hy=>by
 have hB:=(qi8 (hc:=z2w) (outs:=ib2L.outs) (F:=F) (xs:=xs) (t:=ib2T) (by kernel_rfl)).1 ys hy
 have h0:ys.getD 0 0=xs.getD 0 0:=hB (0,0,none) (by simp [z2w])
 have h1:ys.getD 1 0=xs.getD 1 0:=hB (1,1,none) (by simp [z2w])
 unfold zw7;rw [h0,h1];exact h
theorem zdd (F:Nat→List Int→List Int):∀(xs:List Int) (i:Nat),zw7 xs→xs.getD 2 0=((i:Nat):Int)→(dec (xs.getD 0 0)).length≤maxLen→i<(dec (xs.getD 0 0)).length→∀q∈ib2E,(q.1.val (qaa F xs) !=0)=q.2:=fun xs i hJ hc hl hi q hq=>by
 have hJ:(dec (xs.getD 0 0)).length≤1000000∧(dec (xs.getD 1 0)).length=(dec (xs.getD 0 0)).length:=hJ
 have i0:=qez (F:=F) hc (by omega)
 simp only [ib2E,List.mem_cons,List.not_mem_nil,or_false] at hq
 subst hq
 exact (qdx i0 (qby (F:=F) (lv:=1) (xs:=xs) rfl (by unfold maxLen;omega))).trans (decide_eq_true (by omega))
theorem zd1 (F:Nat→List Int→List Int) (xs:List Int) (hp:Pre ib2L F xs):zw7 (ib2I.map (SE.val (qaa F xs))):=by
 have hs:(dec (xs.getD 1 0)).length≤1000000:=hp.sm 1 (by decide)
 have p0:=hp.pre ((SE.cmp .neq (.len (.lvar 0)) (.len (.lvar 1))),false) (by show _∈[((SE.cmp .neq (.len (.lvar 0)) (.len (.lvar 1))),false)];simp)
 have l0:=qmr (F:=F) (lv:=0) (xs:=xs)
 have l1:=qmr (F:=F) (lv:=1) (xs:=xs)
 simp only [SE.val,qas,qa8] at p0 l0 l1
 rw [l0,l1] at p0
 have p0:=bne_eq_false_iff_eq.1 p0
 have hsat:∀n:Nat,n≤1000000→sat n=n:=fun n hn=>qcz (by unfold maxLen;omega)
 have e1:=hsat _ hs
 have q0:(dec (xs.getD 0 0)).length=(dec (xs.getD 1 0)).length:=q92 (by omega) hs
 unfold zw7
 rw [qbq (I:=ib2I) (c:=0) (j0:=0) (by kernel_rfl),qbq (I:=ib2I) (c:=1) (j0:=1) (by kernel_rfl)]
 exact ⟨by omega,q0.symm⟩
theorem zwn (F:Nat→List Int→List Int) (xs:List Int) (hp:Pre ib2L F xs):qdn (fun _=>ib2T) F 0 (z4a xs) (ib2I.map (SE.val (qaa F xs))):=by
 have hJ:=zd1 F xs hp
 have hl:(dec ((ib2I.map (SE.val (qaa F xs))).getD 0 0)).length≤maxLen:=by have:=hJ.1;unfold maxLen;omega
 exact qfc (T:=ib2T) (c:=2) (lv:=0) (ex:=ib2E) (by kernel_rfl) zw7 (zlq F) (zdd F) _ 0 0 _ (qg8 (I:=ib2I) (by kernel_rfl)) (by rw [qbq (I:=ib2I) (j0:=0) (by kernel_rfl)];unfold z4a;omega) (Nat.succ_pos _) hl hJ
theorem z3d:qak (bW.loops zj5) qfx 300 ib2L.f ib2n (qa3 Tryz.prog ib2L.f ib2L.id) ib2S ib2M ib2L.F ib2L.nx ib2S ib2L.outs ib2L.kk ib2T []=true:=by kernel_rfl
theorem ygc:LCT Tryz.prog ib2L (FT qfx) (q1y (FT qfx)):=
 qc8 (b:=bW.loops zj5) (Tb:=qfx) (y:=ib2L) (M:=ib2M) (T:=fun _=>ib2T) (S:=fun _=>ib2S) (init:=ib2I) (qag qbi _) (qbj zo7) zp1 (d:=300) (n:=ib2n) (by kernel_rfl) (by kernel_rfl) (by kernel_rfl) (by kernel_rfl) (fun _ _ _=>z3d) (fun xs hp=>zwn _ xs hp)
theorem zvm (F:Nat→List Int→List Int):Cst ib2L (q1y F):=qdh z2w (by kernel_rfl) (fun _ _ _=>by kernel_rfl)
noncomputable def qst:List Ent:=⟨20061,[],.tup [],q1y,true⟩::qfx
def q2x:List LEnt:=ib2L::zj5
theorem zet:qcd Tryz.prog qst:=qbw zp1 rfl (by kernel_rfl)
theorem q7u:LBs Tryz.prog q2x qst:=qbl (y:=ib2L) zo7 (by kernel_rfl) (by kernel_rfl) (by kernel_rfl) ygc (zvm _)
noncomputable def qcn:List Ent:=qst
def qq9:List LEnt:=q2x
theorem z7u:qcd Tryz.prog qcn:=zet
theorem zqt:LBs Tryz.prog qq9 qcn:=q7u
abbrev Eh:SE:=.cmp .lss At Av
def z8m:ST:=(.ask (.cmp .lss Bb Am) (.leaf (.one BQ)) (.ask (.cmp .eql Bb Am) (.leaf (.one (.opq Eh))) (.leaf CW)))
noncomputable def qgq:List Ent:=⟨113,[.agg [some .u64,some .u64],.agg [some .u64,some .u64]],.one (.one none),qaf z8m,false⟩::qcn
theorem zho:qcd Tryz.prog qgq:=qbd (b:=bW.loops qq9) (qag qbi _) (qbj zqt) (d:=300) z7u (fn rfl) (by kernel_rfl)
theorem q0g:LBs Tryz.prog qq9 qgq:=qao zqt (by kernel_rfl)
abbrev Ht:SE:=.bin .sub .u64 Bb Am
abbrev Ei:SE:=.lit .u64 1
abbrev Hu:C:=.opq (.bin .sub .u64 At Av)
abbrev Hv:C:=.opq (.app 113 0 none DS)
def tr36:ST:=(.ask Eh (.leaf (.agg [(.opq (.bin .sub .u64 Ht Ei)),Hu,Hv])) (.leaf (.agg [(.opq (.bin .sub .u64 Ht Al)),Hu,Hv])))
noncomputable def qxy:List Ent:=⟨114,[.agg [some .u64,some .u64],.agg [some .u64,some .u64]],.one (.agg [some .u64,some .u64,none]),qaf tr36,false⟩::qgq
theorem zmb:qcd Tryz.prog qxy:=qbd (b:=bW.loops qq9) (qag qbi _) (qbj q0g) (d:=300) zho (fn rfl) (by kernel_rfl)
theorem zng:LBs Tryz.prog qq9 qxy:=qao q0g (by kernel_rfl)
def Tr6_L:List LEnt:=qq9
noncomputable def qdv:List Ent:=qxy
theorem zof:qcd Tryz.prog qdv:=zmb
theorem zpc:LBs Tryz.prog qq9 qdv:=zng
end Go.Proofs.YtilkebpcjklmfaaGreat.Own
