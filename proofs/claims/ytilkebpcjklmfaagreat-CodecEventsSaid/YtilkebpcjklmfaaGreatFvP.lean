/- A walk by reckoning: values that are not reckoned but written as terms. A walk by reckoning: what operations make of values that are not reckoned, is what the model says. A walk by reckoning: tables of contracts; a function's contract as a tree that the kernel checks. A walk by reckoning: pieces of strings and of arrays. A walk by reckoning: a function's contract as a tree of questions, checked by the kernel; tables of contracts. A walk by reckoning: states as patterns, which are matched by states. -/
import Derived.Test.YtilkebpcjklmfaaGreatFv6
set_option linter.unusedVariables false
set_option linter.unusedSimpArgs false
namespace Go.Proofs.YtilkebpcjklmfaaGreat.Own
open Go Go.RowKit
set_option maxRecDepth 100000
set_option maxHeartbeats 40000000
def eqS (P:Program):Nat→TypeId→V→V→Option SE
 |0,_,_,_=>none
 |d+1,t,x,y=>
  match P.underlying t,x,y with
  |some (.int _),.one a,.one b=>(match toI a,toI b with |some (k,u),some (k',v)=>bif decide (k=k') then some (.cmp .eql u v) else none |_,_=>none)
  |some (.struct fs),.agg xs,.agg ys=>
   bif P.stoodInHeld t then none else
   fs.toList.foldr (fun f r=>bif decide (f.name= "_") then none else
    match qnq P f.type xs f.offset,qnq P f.type ys f.offset with
    |some u,some v=>(match eqS P d f.type u v,r with |some b,some b'=>some (.and b b') |_,_=>none)
    |_,_=>none) (some (.cmp .eql (.lit .i64 1) (.lit .i64 1)))
  |_,_,_=>none
def orS (k:IntKind) (x y:SE):SE:=match k,x,y with
 | .u64,.lit .u64 0,.conv .u64 (.el (some .u8) z (.lit .i64 0) 0)=> .wd z 1
 | .u64,.bin .shl .u64 (.lit .u64 0) (.lit _ 8),.conv .u64 (.el (some .u8) z (.lit .i64 0) 0)=> .wd z 1
 | .u64,.bin .shl .u64 (.wd z i) (.lit k' 8),.conv .u64 (.el (some .u8) z' (.lit .i64 (.ofNat n)) 0)=>bif Nat.beq n i&&(Nat.blt i 8&&decide (z=z')) then .wd z (i+1) else .bin .or .u64 (.bin .shl .u64 (.wd z i) (.lit k' 8)) (.conv .u64 (.el (some .u8) z' (.lit .i64 (.ofNat n)) 0))
 |k,x,y=> .bin .or k x y
theorem zc2 (l:List (List Int)):∀i,IntKind.u64.wrap (rdN l i)=rdN l i
 |0=>rfl
 |i+1=>by unfold rdN;exact qaq _ _
theorem z1m {e:Env} (k:IntKind) (x y:SE):(orS k x y).val e=(SE.bin .or k x y).val e∧(orS k x y).ty=some (some k):=by
 unfold orS
 split
 ·rename_i z
  refine ⟨?_,rfl⟩
  simp only [SE.val,zc2]
  rfl
 ·rename_i k' z
  refine ⟨?_,rfl⟩
  simp only [SE.val,zc2]
  cases k'<;>rfl
 ·rename_i z i k' z' n
  cases hb:(Nat.beq n i&&(Nat.blt i 8&&decide (z=z'))) with
  |false=>rw [cond_false];exact ⟨rfl,rfl⟩
  |true=>
   rw [cond_true]
   simp only [Bool.and_eq_true] at hb
   have h1:=Nat.eq_of_beq_eq_true hb.1
   have h2:i<8:=by simpa [Nat.blt_eq] using hb.2.1
   have h3:=of_decide_eq_true hb.2.2
   subst h1;subst h3
   refine ⟨?_,rfl⟩
   simp only [SE.val,zc2]
   have e1:(IntKind.i64.wrap (Int.ofNat n)).toNat=n:=by rw [show Int.ofNat n=((n:Nat):Int) from rfl,qck (by unfold maxLen;omega)];rfl
   have e2:k'.wrap 8=8:=by cases k'<;>rfl
   rw [e1,e2]
   rfl
 ·exact ⟨rfl,rfl⟩
theorem z74 {e:Env} (k:IntKind) (x y:SE):eS e (orS k x y)=eS e (.bin .or k x y):=by
 obtain ⟨h1,h2⟩:=z1m (e:=e) k x y
 rw [qne h2,h1,qne (k:=some k) rfl]
def gSb (P:Program) (op:BinOp) (t:TypeId) (a b:C):Option V:=
 match toI a,toI b with
 |some (k,x),some (k',y)=>
  (match op with
  | .shl=>(match b with | .int _ n=>bif decide (n<0) then none else some (.one (.opq (.bin .shl k x y))) |_=>none)
  | .shr=>(match b with | .int _ n=>bif decide (n<0) then none else (match k with | .u64 | .i64 | .u8=>some (.one (.opq (.bin .shr k x y))) |_=>none) |_=>none)
  |op=>bif decide (k=k') then
   (match op with
   | .add | .sub | .mul | .and=>some (.one (.opq (.bin op k x y)))
   | .or=>some (.one (.opq (orS k x y)))
   | .xor=>some (.one (.opq (.bin op k x y)))
   | .quo=>(match b with | .int _ n=>bif (n==0) then none else some (.one (.opq (.bin .quo k x y))) |_=>none)
   | .rem=>(match b with | .int _ n=>bif decide (0<n) then (match k with | .u64 | .i64 | .u8 | .u32=>some (.one (.opq (.bin .rem k x y))) |_=>none) else none |_=>none)
   | .eql | .neq | .lss | .leq | .gtr | .geq=>some (.one (.opq (.cmp op x y)))
   |_=>none) else none)
 |_,_=>match toB a,toB b,P.underlying t,op with
  |some x,some y,some .bool,.eql=>some (.one (.opq (.cmp .eql x y)))
  |some x,some y,some .bool,.neq=>some (.one (.opq (.cmp .neq x y)))
  |_,_,_,_=>none
def gS (P:Program) (o:Oper) (vs:List V):Option V:=
 match o.op,vs with
 | .binOp op t _ _ _,[.one a,.one b]=>gSb P op t a b
 | .binOp op t _ _ _,[.agg xs,.agg ys]=>(match op with
  | .eql=>bif P.eqGuardType P.depth t then none else (match eqS P 10000 t (.agg xs) (.agg ys) with |some b=>some (.one (.opq b)) |none=>none)
  | .neq=>bif P.eqGuardType P.depth t then none else (match eqS P 10000 t (.agg xs) (.agg ys) with |some b=>some (.one (.opq (.not b))) |none=>none)
  |_=>none)
 | .unOp .not _ _,[.one (.opq x)]=>(match x.ty with |some none=>some (.one (.opq (.not x))) |_=>none)
 | .unOp .neg _ _,[.one (.opq x)]=>(match x.ty with |some (some k)=>some (.one (.opq (.bin .sub k (.lit k 0) x))) |_=>none)
 | .convert s d _,[.one (.opq x)]=>(match x.ty,P.underlying s,P.underlying d with |some (some _),some (.int _),some (.int k)=>some (.one (.opq (.conv k x))) |_,_,_=>none)
 | .call {callee:= .builtin .max,args:=⟨[_,_]⟩,..},[.one a,.one b]=>(match toI a,toI b with |some (k,x),some (k',y)=>bif decide (k=k') then some (.one (.opq (.mx k x y))) else none |_,_=>none)
 | .call {callee:= .builtin .min,args:=⟨[_,_]⟩,..},[.one a,.one b]=>(match toI a,toI b with |some (k,x),some (k',y)=>bif decide (k=k') then some (.one (.opq (.mn k x y))) else none |_,_=>none)
 |_,_=>none
section
variable {E:Env} {σ:List (Nat×Nat×Nat)} {P:Program} {w0:World} {L:List Blk} {o:Oper} {ρ:Operand→Value}
theorem qlc:∀(d:Nat) {t:TypeId} {x y:V} {b:SE} {u v:Value},eqS P d t x y=some b→RelV (eV E) σ x u→RelV (eV E) σ y v→b.ty=some none∧EqR P d t u v (b.val E !=0)
 |0,_,_,_,_,_,_,h,_,_=>by cases h
 |d+1,t,x,y,b,u,v,h,hx,hy=>by
  simp only [eqS] at h
  split at h
  ·rename_i k a a' hu
   split at h
   ·rename_i k1 p k2 q hp hq
    cases hk:decide (k1=k2) with
    |false=>rw [hk,cond_false] at h;cases h
    |true=>
     rw [hk,cond_true] at h;cases h
     have hk:=of_decide_eq_true hk
     subst hk
     obtain ⟨e1,_⟩:=qgu hp (qd0 hx)
     obtain ⟨e2,_⟩:=qgu hq (qd0 hy)
     rw [e1,e2]
     refine ⟨rfl,fun w=> ?_⟩
     simp only [SE.val,qas,qa8]
     simp [Op.equalIn,Sem.run_bind,run_underlying hu w]
   ·cases h
  ·rename_i fs xs ys hu
   cases hs:P.stoodInHeld t with
   |true=>simp only [hs,cond_true] at h;cases h
   |false=>
    simp only [hs,cond_false] at h
    obtain ⟨us,hus,rfl⟩:=qg2 hx
    obtain ⟨vs,hvs,rfl⟩:=qg2 hy
    have key:∀(fl:List Field) (b:SE),fl.foldr (fun f r=>bif decide (f.name= "_") then none else
      match qnq P f.type xs f.offset,qnq P f.type ys f.offset with
      |some u,some v=>(match eqS P d f.type u v,r with |some b,some b'=>some (SE.and b b') |_,_=>none)
      |_,_=>none) (some (.cmp .eql (.lit .i64 1) (.lit .i64 1)))=some b→b.ty=some none∧FEq P d us vs fl (b.val E !=0):=by
     intro fl
     induction fl with
     |nil=>intro b hb;cases hb;exact ⟨rfl,.nil⟩
     |cons f fl ih=>
      intro b hb
      simp only [List.foldr_cons] at hb
      cases hn:decide (f.name= "_") with
      |true=>rw [hn,cond_true] at hb;cases hb
      |false=>
       simp only [hn,cond_false] at hb
       split at hb
       ·rename_i p q hp hq
        split at hb
        ·rename_i b1 b2 h1 h2
         cases hb
         refine ⟨rfl,?_⟩
         simp only [SE.val,qas]
         have hne:f.name≠ "_":=of_decide_eq_false hn
         rcases qgl hp hus with ⟨n,ps,i1,i2,i3,i4,_⟩ |⟨n,pv,i1,i2,i3,i4⟩
         ·rcases qgl hq hvs with ⟨n',qs,j1,j2,j3,j4,_⟩ |⟨n',qv,j1,j2,j3,j4⟩
          ·rw [i1] at j1;cases j1
           exact .agg hne i1 i2 j2 (qlc d h1 i4 j4).2 (ih _ h2).2
          ·rw [i1] at j1;cases j1
         ·rcases qgl hq hvs with ⟨n',qs,j1,j2,j3,j4,_⟩ |⟨n',qv,j1,j2,j3,j4⟩
          ·rw [i1] at j1;cases j1
          ·rw [i1] at j1;cases j1
           exact .one hne i1 i2 j2 (qlc d h1 i3 j3).2 (ih _ h2).2
        ·cases hb
       ·cases hb
    obtain ⟨h1,h2⟩:=key fs.toList b h
    exact ⟨h1,qg9 (fs:=fs.toList) (by simpa using hu) hs h2⟩
  ·cases h
theorem qu2 (op:BinOp) (k:IntKind) (x y:Int):k.wrap (bits op k x y)=bits op k x y:=by
 unfold bits
 split<;>first |exact qaq _ _ |(cases k<;>rfl)
theorem zli {k:IntKind} (hk:k= .u64∨k= .i64∨k= .u8) {x:Int} (hx:k.wrap x=x) (n:Nat):k.wrap (x.fdiv (2 ^ n))=x.fdiv (2 ^ n):=by
 have hp:(0:Int)<2 ^ n:=Int.pow_pos (by decide)
 rw [Int.fdiv_eq_ediv_of_nonneg _ (Int.le_of_lt hp)]
 have h1:0≤x→0≤x / 2 ^ n∧x / 2 ^ n≤x:=fun h=>⟨Int.ediv_nonneg h (Int.le_of_lt hp),Int.ediv_le_self _ h⟩
 have h2:x<0→x≤x / 2 ^ n∧x / 2 ^ n<0:=fun h=>by
  refine ⟨?_,Int.ediv_neg_of_neg_of_pos h hp⟩
  apply Int.le_ediv_of_mul_le hp
  have h1:(1:Int)≤2 ^ n:=hp
  have h2:=Int.mul_nonneg (a:= -x) (b:=2 ^ n - 1) (by omega) (by omega)
  rw [Int.neg_mul,Int.mul_sub,Int.mul_one] at h2
  omega
 rcases hk with rfl |rfl |rfl
 ·rw [IntKind.wrap_u64] at hx ⊢;have:=h1 (by omega);omega
 ·rw [IntKind.wrap_i64] at hx ⊢
  by_cases q:0≤x
  ·have:=h1 q;omega
  ·have:=h2 (by omega);omega
 ·rw [IntKind.wrap_u8'] at hx ⊢;have:=h1 (by omega);omega
theorem q98 {x n:Int} (hx:0≤x) (hn:0<n):x % n≤x:=by
 have h1:=Int.mul_ediv_add_emod x n
 have h2:=Int.mul_nonneg (Int.le_of_lt hn) (Int.ediv_nonneg hx (Int.le_of_lt hn))
 omega
theorem q2a {k:IntKind} (hk:k= .u64∨k= .i64∨k= .u8∨k= .u32) {x n:Int} (hx:k.wrap x=x) (hn:0<n):k.wrap (x.tmod n)=x.tmod n:=by
 have h1:0≤x→0≤x.tmod n∧x.tmod n≤x:=fun h=>by
  rw [Int.tmod_eq_emod_of_nonneg h]
  exact ⟨Int.emod_nonneg _ (by omega),q98 h hn⟩
 have h2:x<0→x≤x.tmod n∧x.tmod n≤0:=fun h=>by
  have e:x.tmod n= -((-x).tmod n):=by rw [Int.neg_tmod];omega
  rw [e,Int.tmod_eq_emod_of_nonneg (by omega)]
  have:=Int.emod_nonneg (-x) (show n≠0 by omega)
  have:=q98 (show (0:Int)≤-x by omega) hn
  omega
 rcases hk with rfl |rfl |rfl |rfl
 ·rw [IntKind.wrap_u64] at hx ⊢;have:=h1 (by omega);omega
 ·rw [IntKind.wrap_i64] at hx ⊢
  by_cases q:0≤x
  ·have:=h1 q;omega
  ·have:=h2 (by omega);omega
 ·rw [IntKind.wrap_u8'] at hx ⊢;have:=h1 (by omega);omega
 ·rw [IntKind.wrap_u32] at hx ⊢;have:=h1 (by omega);omega
end
section
variable {E:Env} {σ:List (Nat×Nat×Nat)} {P:Program}
theorem qve {E:Env} {p q:SE} (h1:p.ty=some none) (h2:q.ty=some none):qa8 .eql (p.val E) (q.val E)=((p.val E !=0)==(q.val E !=0)):=by
 have e1:=qi1 (E:=E) h1
 have e2:=qi1 (E:=E) h2
 generalize (p.val E !=0)=a at *
 generalize (q.val E !=0)=b at *
 simp only [qa8]
 rw [e1,e2]
 cases a<;>cases b<;>rfl
theorem zat {o:Oper} {op:BinOp} {t ty:TypeId} {a b:C} {v:V} {u1 u2:Value} {x y:Operand} (h:gSb P op t a b=some v) (ha:RelC (eV E) σ a u1) (hb:RelC (eV E) σ b u2) (ho:o.op= .binOp op t x y ty):
  ∃u,RelV (eV E) σ v u∧∀(ρ:Operand→Value),ρ x=u1→ρ y=u2→∀(w0:World) (L:List Blk),QV P w0 o ρ L u:=by
 unfold gSb at h
 split at h
 ·rename_i k p k' q hp hq
  obtain ⟨e1,t1⟩:=qgu hp ha
  obtain ⟨e2,t2⟩:=qgu hq hb
  have ops:∀(k':IntKind) (op':BinOp) (v':Value),u2= .int k (q.val E)→qbx op k (p.val E) (q.val E)=some v'→∀(ρ:Operand→Value),ρ x=u1→ρ y=u2→∀(w0:World) (L:List Blk),QV P w0 o ρ L v':=fun _ _ v' hq' hv ρ hx hy w0 L=>qwa ho (hx.trans e1) (hy.trans hq') hv
  split at h
  ·split at h
   ·rename_i kb n
    cases hn:decide (n<0) with
    |true=>rw [hn,cond_true] at h;cases h
    |false=>
     rw [hn,cond_false] at h;cases h
     refine ⟨_,.one (qbu _),fun ρ hx hy w0 L=> ?_⟩
     rw [qnf]
     have hnq:decide (q.val E<0)=false:=by cases hb;cases e2;exact hn
     exact zyg ho (hx.trans e1) (hy.trans e2) hnq
   ·cases h
  ·split at h
   ·rename_i kb n
    cases hn:decide (n<0) with
    |true=>rw [hn,cond_true] at h;cases h
    |false=>
     rw [hn,cond_false] at h
     have hk:k= .u64∨k= .i64∨k= .u8:=by
      split at h
      ·exact .inl rfl
      ·exact .inr (.inl rfl)
      ·exact .inr (.inr rfl)
      ·cases h
     have h':v= .one (.opq (.bin .shr k p q)):=by rcases hk with rfl |rfl |rfl<;>(cases h;rfl)
     subst h'
     refine ⟨_,.one (qbu _),fun ρ hx hy w0 L=> ?_⟩
     rw [qnf]
     have hnq:decide (q.val E<0)=false:=by cases hb;cases e2;exact hn
     have:=zuc (P:=P) (w0:=w0) (L:=L) ho (hx.trans e1) (hy.trans e2) hnq
     simp only [qbg]
     rw [zli hk (qbn E t1)]
     exact this
   ·cases h
  ·rename_i op' hsl hsr
   cases hk:decide (k=k') with
   |false=>rw [hk,cond_false] at h;cases h
   |true=>
    rw [hk,cond_true] at h
    have hk:=of_decide_eq_true hk
    subst hk
    split at h
    case h_7=>
     split at h
     ·rename_i kb n
      cases hn:(n==0) with
      |true=>rw [hn,cond_true] at h;cases h
      |false=>
       rw [hn,cond_false] at h;cases h
       refine ⟨_,.one (qbu _),fun ρ hx hy w0 L=> ?_⟩
       rw [qnf]
       have hnq:(q.val E==0)=false:=by cases hb;cases e2;exact hn
       exact z16 ho (hx.trans e1) (hy.trans e2) hnq
     ·cases h
    case h_8=>
     split at h
     ·rename_i kb n
      cases hn:decide (0<n) with
      |false=>rw [hn,cond_false] at h;cases h
      |true=>
       rw [hn,cond_true] at h
       have hk:k= .u64∨k= .i64∨k= .u8∨k= .u32:=by
        split at h
        ·exact .inl rfl
        ·exact .inr (.inl rfl)
        ·exact .inr (.inr (.inl rfl))
        ·exact .inr (.inr (.inr rfl))
        ·cases h
       have h':v= .one (.opq (.bin .rem k p q)):=by rcases hk with rfl |rfl |rfl |rfl<;>(cases h;rfl)
       subst h'
       refine ⟨_,.one (qbu _),fun ρ hx hy w0 L=> ?_⟩
       rw [qnf]
       have hn0:=of_decide_eq_true hn
       have hnq:0<q.val E:=by cases hb;cases e2;exact hn0
       have:=zlb (P:=P) (w0:=w0) (L:=L) ho (hx.trans e1) (hy.trans e2) (by rw [beq_eq_false_iff_ne];exact Int.ne_of_gt hnq)
       simp only [qbg]
       rw [q2a hk (qbn E t1) hnq]
       exact this
     ·cases h
    case h_15=>cases h
    case h_5=>
     cases h
     refine ⟨_,.one (qbu _),fun ρ hx hy w0 L=> ?_⟩
     rw [z74,qnf];simp only [qbg,qu2];exact qwa ho (hx.trans e1) (hy.trans e2) rfl
    all_goals
     cases h
     refine ⟨_,.one (qbu _),fun ρ hx hy w0 L=> ?_⟩
     first
     |(rw [qf5];exact qwa ho (hx.trans e1) (hy.trans e2) rfl)
     |(rw [qnf];simp only [qbg,qu2];exact qwa ho (hx.trans e1) (hy.trans e2) rfl)
 ·split at h
  ·rename_i p q hp hq hu
   obtain ⟨e1,t1⟩:=qos hp ha
   obtain ⟨e2,t2⟩:=qos hq hb
   cases h
   refine ⟨_,.one (qbu _),fun ρ hx hy w0 L=> ?_⟩
   have:=zx1 (hi:=hu) (P:=P) (w0:=w0) (L:=L) ho (hx.trans e1) (hy.trans e2)
   rw [qf5]
   have e:qa8 .eql (p.val E) (q.val E)=((p.val E !=0)==(q.val E !=0)):=qve t1 t2
   rw [e];exact this
  ·rename_i p q hp hq hu
   obtain ⟨e1,t1⟩:=qos hp ha
   obtain ⟨e2,t2⟩:=qos hq hb
   cases h
   refine ⟨_,.one (qbu _),fun ρ hx hy w0 L=> ?_⟩
   have:=zr5 (hi:=hu) (P:=P) (w0:=w0) (L:=L) ho (hx.trans e1) (hy.trans e2)
   rw [qf5]
   have e:qa8 .eql (p.val E) (q.val E)=((p.val E !=0)==(q.val E !=0)):=qve t1 t2
   have e':qa8 .neq (p.val E) (q.val E)= !((p.val E !=0)==(q.val E !=0)):=by rw [←e];rfl
   rw [e'];exact this
  ·cases h
theorem zja {o:Oper} {vs:List V} {v:V} {us:List Value} (h:gS P o vs=some v) (hus:RelVs (eV E) σ vs us):
  ∃u,RelV (eV E) σ v u∧∀(ρ:Operand→Value),o.op.operands.toList.map ρ=us→∀(w0:World) (L:List Blk),QV P w0 o ρ L u:=by
 unfold gS at h
 split at h
 ·rename_i op t x y ty a b ho
  cases hus with |cons ha t'=>cases t' with |cons hb t'=>cases t' with |nil=>
  obtain ⟨u,h1,h2⟩:=zat h (qd0 ha) (qd0 hb) ho
  refine ⟨u,h1,fun ρ hr w0 L=> ?_⟩
  rw [ho] at hr
  simp [Op.operands] at hr
  exact h2 ρ hr.1 hr.2 w0 L
 ·rename_i op t x y ty xs ys ho
  cases hus with |cons ha t'=>cases t' with |cons hb t'=>cases t' with |nil=>
  obtain ⟨a9s,has,rfl⟩:=qg2 ha
  obtain ⟨bs,hbs,rfl⟩:=qg2 hb
  split at h
  ·cases hg:P.eqGuardType P.depth t with
   |true=>rw [hg,cond_true] at h;cases h
   |false=>
    rw [hg,cond_false] at h
    split at h
    ·rename_i b hb';cases h
     obtain ⟨h1,h2⟩:=qlc _ hb' ha hb
     refine ⟨_,.one (qbu _),fun ρ hr w0 L=> ?_⟩
     rw [ho] at hr
     simp [Op.operands] at hr
     simp only [eS,h1]
     exact ztv ho hr.1 hr.2 ⟨hg,h2⟩
    ·cases h
  ·cases hg:P.eqGuardType P.depth t with
   |true=>rw [hg,cond_true] at h;cases h
   |false=>
    rw [hg,cond_false] at h
    split at h
    ·rename_i b hb';cases h
     obtain ⟨h1,h2⟩:=qlc _ hb' ha hb
     refine ⟨_,.one (qbu _),fun ρ hr w0 L=> ?_⟩
     rw [ho] at hr
     simp [Op.operands] at hr
     simp only [eS,SE.ty,SE.val,qas]
     exact zq_ ho hr.1 hr.2 ⟨hg,h2⟩
    ·cases h
  ·cases h
 ·rename_i t x y ho
  cases hus with |cons ha t'=>cases t' with |nil=>
  split at h
  ·rename_i hty;cases h
   have ha:=qd0 ha
   refine ⟨_,.one (qbu _),fun ρ hr w0 L=> ?_⟩
   rw [ho] at hr
   simp [Op.operands] at hr
   simp only [eS,SE.ty,SE.val,qas]
   refine zyx ho ?_
   rw [hr];cases ha;simp only [eV,eS,hty]
  ·cases h
 ·rename_i t x y ho
  cases hus with |cons ha t'=>cases t' with |nil=>
  split at h
  ·rename_i k hty;cases h
   have ha:=qd0 ha
   refine ⟨_,.one (qbu _),fun ρ hr w0 L=> ?_⟩
   rw [ho] at hr
   simp [Op.operands] at hr
   rw [qnf]
   have h0:(SE.lit k 0).val E=0:=by simp only [SE.val];cases k<;>rfl
   simp only [qbg,h0]
   refine ztx ho ?_
   rw [hr];cases ha;simp only [eV,eS,hty]
  ·cases h
 ·rename_i s d x y ho
  cases hus with |cons ha t'=>cases t' with |nil=>
  split at h
  ·rename_i k k1 k2 hty hs hd;cases h
   have ha:=qd0 ha
   refine ⟨_,.one (qbu _),fun ρ hr w0 L=> ?_⟩
   rw [ho] at hr
   simp [Op.operands] at hr
   simp only [eS,SE.ty,SE.val]
   refine zfe (hs:=hs) (hd:=hd) (k2:=k) ho ?_
   rw [hr];cases ha;simp only [eV,eS,hty]
  ·cases h
 ·rename_i x y ts a b ho
  cases hus with |cons ha t'=>cases t' with |cons hb t'=>cases t' with |nil=>
  split at h
  ·rename_i k p k' q hp hq
   cases hk:decide (k=k') with
   |false=>rw [hk,cond_false] at h;cases h
   |true=>
    rw [hk,cond_true] at h;cases h
    have hk:=of_decide_eq_true hk
    subst hk
    obtain ⟨e1,t1⟩:=qgu hp (qd0 ha)
    obtain ⟨e2,t2⟩:=qgu hq (qd0 hb)
    refine ⟨_,.one (qbu _),fun ρ hr w0 L=> ?_⟩
    rw [ho] at hr
    simp [Op.operands,Call.operands] at hr
    have:=ye8 (P:=P) (w0:=w0) (L:=L) ho rfl rfl (hr.1.trans e1) (hr.2.trans e2)
    have e:eS E (.mx k p q)= .int k (bif decide (q.val E>p.val E) then q.val E else p.val E):=by
     simp only [eS,SE.ty,SE.val]
     cases decide (q.val E>p.val E)
     ·rw [cond_false,qbn E t1]
     ·rw [cond_true,qbn E t2]
    show QV P w0 o ρ L (eS E (.mx k p q))
    rw [e];exact this
  ·cases h
 ·rename_i x y ts a b ho
  cases hus with |cons ha t'=>cases t' with |cons hb t'=>cases t' with |nil=>
  split at h
  ·rename_i k p k' q hp hq
   cases hk:decide (k=k') with
   |false=>rw [hk,cond_false] at h;cases h
   |true=>
    rw [hk,cond_true] at h;cases h
    have hk:=of_decide_eq_true hk
    subst hk
    obtain ⟨e1,t1⟩:=qgu hp (qd0 ha)
    obtain ⟨e2,t2⟩:=qgu hq (qd0 hb)
    refine ⟨_,.one (qbu _),fun ρ hr w0 L=> ?_⟩
    rw [ho] at hr
    simp [Op.operands,Call.operands] at hr
    have:=yft (P:=P) (w0:=w0) (L:=L) ho rfl rfl (hr.1.trans e1) (hr.2.trans e2)
    have e:eS E (.mn k p q)= .int k (bif decide (q.val E<p.val E) then q.val E else p.val E):=by
     simp only [eS,SE.ty,SE.val]
     cases decide (q.val E<p.val E)
     ·rw [cond_false,qbn E t1]
     ·rw [cond_true,qbn E t2]
    show QV P w0 o ρ L (eS E (.mn k p q))
    rw [e];exact this
  ·cases h
 ·cases h
def dS0:List (SE×Bool)→SE→Option Bool
 |[],_=>none
 |(y,b)::r,x=>bif decide (y=x) then some b else dS0 r x
inductive Knows (E:Env):List (SE×Bool)→Prop where
 |nil:Knows E []
 |cons {x:SE} {b:Bool} {r:List (SE×Bool)} (h:eS E x= .bool b) (t:Knows E r):Knows E ((x,b)::r)
theorem yfi {ds:List (SE×Bool)} (h:Knows E ds):∀x b,dS0 ds x=some b→eS E x= .bool b:=by
 induction h with
 |nil=>intro x b h;cases h
 | @cons y c r h t ih=>
  intro x b hx
  simp only [dS0] at hx
  cases hd:decide (y=x) with
  |true=>rw [hd,cond_true] at hx;cases hx;rw [←of_decide_eq_true hd];exact h
  |false=>rw [hd,cond_false] at hx;exact ih _ _ hx
def za5 (f:SE→Bool→Bool):List (SE×Bool)→Bool
 |[]=>false
 |(x,b)::r=>bif f x b then true else za5 f r
theorem qsa {f:SE→Bool→Bool} {ds:List (SE×Bool)} (h:Knows E ds):za5 f ds=true→∃x b,f x b=true∧eS E x= .bool b:=by
 induction h with
 |nil=>intro h;cases h
 | @cons y c r h t ih=>
  intro hx
  simp only [za5] at hx
  cases hf:f y c with
  |true=>exact ⟨y,c,hf,h⟩
  |false=>rw [hf,cond_false] at hx;exact ih hx
def fLo (z:SE) (k:Int):SE→Bool→Bool
 | .cmp .lss (.len y) (.lit .i64 m),false=>decide (0≤k∧k≤m∧m≤1000000)&&decide (y=z)
 |_,_=>false
def fUp (a:SE) (m:Int):SE→Bool→Bool
 | .cmp .leq b (.lit .i64 m'),true=>decide (0≤m'∧m'≤m∧m≤1000000)&&decide (b=a)
 | .cmp .gtr b (.lit .i64 m'),false=>decide (0≤m'∧m'≤m∧m≤1000000)&&decide (b=a)
 |_,_=>false
def fNn (a:SE):SE→Bool→Bool
 | .cmp .lss b (.lit .i64 n),false=>decide (n=0)&&decide (b=a)
 |_,_=>false
def q9x:SE→Bool
 | .len _=>true
 |_=>false
def dV (ds:List (SE×Bool)):SE→Option Bool
 | .cmp .lss (.lit .i64 k) (.len z)=>bif decide (0≤k)&&za5 (fLo z (k+1)) ds then some true else none
 | .cmp .leq (.lit .i64 k) (.len z)=>bif za5 (fLo z k) ds then some true else none
 | .cmp .leq a (.lit .i64 m)=>bif za5 (fUp a m) ds then some true else none
 | .cmp .geq a (.lit .i64 n)=>bif decide (n=0)&&(q9x a||za5 (fNn a) ds) then some true else none
 | .cmp .neq a b=>bif decide (a=b) then some false else none
 |_=>none
theorem qv2 (k:IntKind) (n:Int):(SE.lit k n).val E=k.wrap n:=by simp only [SE.val]
theorem qql {n:Int} (h0:0≤n) (h1:n≤1000000):IntKind.i64.wrap n=n:=by rw [IntKind.wrap_i64];omega
theorem zq3 {z:SE} {k:Int} {x:SE} {b:Bool} (hf:fLo z k x b=true) (h:eS E x= .bool b):0≤k∧k≤1000000∧k≤(SE.len z).val E:=by
 unfold fLo at hf
 split at hf
 ·rename_i y m
  simp only [Bool.and_eq_true,decide_eq_true_eq] at hf
  obtain ⟨⟨h0,h1,h2⟩,rfl⟩:=hf
  rw [qf5] at h
  injection h with h
  have h3:decide ((SE.len y).val E<IntKind.i64.wrap m)=false:=h
  have h4:=of_decide_eq_false h3
  rw [qql (by omega) h2] at h4
  exact ⟨h0,by omega,by omega⟩
 ·cases hf
theorem z58 {a:SE} {m:Int} {x:SE} {b:Bool} (hf:fUp a m x b=true) (h:eS E x= .bool b):0≤m∧m≤1000000∧a.val E≤m:=by
 unfold fUp at hf
 split at hf
 ·rename_i y m'
  simp only [Bool.and_eq_true,decide_eq_true_eq] at hf
  obtain ⟨⟨h0,h1,h2⟩,rfl⟩:=hf
  rw [qf5] at h
  injection h with h
  have h3:decide (y.val E≤IntKind.i64.wrap m')=true:=h
  have h4:=of_decide_eq_true h3
  rw [qql h0 (by omega)] at h4
  exact ⟨by omega,h2,by omega⟩
 ·rename_i y m'
  simp only [Bool.and_eq_true,decide_eq_true_eq] at hf
  obtain ⟨⟨h0,h1,h2⟩,rfl⟩:=hf
  rw [qf5] at h
  injection h with h
  have h3:decide (y.val E>IntKind.i64.wrap m')=false:=h
  have h4:=of_decide_eq_false h3
  rw [qql h0 (by omega)] at h4
  exact ⟨by omega,h2,by omega⟩
 ·cases hf
theorem yd2 {a:SE} {x:SE} {b:Bool} (hf:fNn a x b=true) (h:eS E x= .bool b):0≤a.val E:=by
 unfold fNn at hf
 split at hf
 ·rename_i y n
  simp only [Bool.and_eq_true,decide_eq_true_eq] at hf
  obtain ⟨rfl,rfl⟩:=hf
  rw [qf5] at h
  injection h with h
  have h3:decide (y.val E<IntKind.i64.wrap 0)=false:=h
  have h4:=of_decide_eq_false h3
  rw [show IntKind.i64.wrap 0=0 from rfl] at h4
  omega
 ·cases hf
theorem dV_ok {ds:List (SE×Bool)} (hk:Knows E ds) {x:SE} {b:Bool} (h:dV ds x=some b):eS E x= .bool b:=by
 unfold dV at h
 split at h
 ·rename_i k z
  cases hb:(decide (0≤k)&&za5 (fLo z (k+1)) ds) with
  |false=>rw [hb,cond_false] at h;cases h
  |true=>
   rw [hb,cond_true] at h;cases h
   simp only [Bool.and_eq_true,decide_eq_true_eq] at hb
   obtain ⟨y,c,h1,h2⟩:=qsa hk hb.2
   obtain ⟨a1,a2,a3⟩:=zq3 h1 h2
   rw [qf5]
   refine congrArg Value.bool (decide_eq_true ?_)
   rw [qv2,qql hb.1 (by omega)];omega
 ·rename_i k z
  cases hb:za5 (fLo z k) ds with
  |false=>rw [hb,cond_false] at h;cases h
  |true=>
   rw [hb,cond_true] at h;cases h
   obtain ⟨y,c,h1,h2⟩:=qsa hk hb
   obtain ⟨a1,a2,a3⟩:=zq3 h1 h2
   rw [qf5]
   refine congrArg Value.bool (decide_eq_true ?_)
   rw [qv2,qql a1 a2];omega
 ·rename_i a m
  cases hb:za5 (fUp a m) ds with
  |false=>rw [hb,cond_false] at h;cases h
  |true=>
   rw [hb,cond_true] at h;cases h
   obtain ⟨y,c,h1,h2⟩:=qsa hk hb
   obtain ⟨a1,a2,a3⟩:=z58 h1 h2
   rw [qf5]
   refine congrArg Value.bool (decide_eq_true ?_)
   rw [qv2,qql a1 a2];exact a3
 ·rename_i a n
  cases hb:(decide (n=0)&&(q9x a||za5 (fNn a) ds)) with
  |false=>rw [hb,cond_false] at h;cases h
  |true=>
   rw [hb,cond_true] at h;cases h
   simp only [Bool.and_eq_true,Bool.or_eq_true,decide_eq_true_eq] at hb
   obtain ⟨rfl,hb⟩:=hb
   have h0:0≤a.val E:=by
    rcases hb with hb |hb
    ·unfold q9x at hb
     split at hb
     ·rw [qgn];exact Int.natCast_nonneg _
     ·cases hb
    ·obtain ⟨y,c,h1,h2⟩:=qsa hk hb
     exact yd2 h1 h2
   rw [qf5]
   refine congrArg Value.bool (decide_eq_true ?_)
   rw [qv2];exact h0
 ·rename_i a c
  cases hb:decide (a=c) with
  |false=>rw [hb,cond_false] at h;cases h
  |true=>
   rw [hb,cond_true] at h;cases h
   rw [of_decide_eq_true hb,qf5]
   simp [qa8]
 ·cases h
def dS (ds:List (SE×Bool)) (x:SE):Option Bool:=match dS0 ds x with |some b=>some b |none=>dV ds x
theorem qwe {ds:List (SE×Bool)} (h:Knows E ds):∀x b,dS ds x=some b→eS E x= .bool b:=by
 intro x b hx
 unfold dS at hx
 cases h0:dS0 ds x with
 |some c=>rw [h0] at hx;cases hx;exact yfi h _ _ h0
 |none=>rw [h0] at hx;exact dV_ok h hx
def zze:qm7:=fun _ _=>none
def qy8 (P:Program) (E:Env) (h:qm7):Prop:=∀(σ:List (Nat×Nat×Nat)) (f:Nat) (vs:List V) (v:V) (us:List Value),h f vs=some v→RelVs (eV E) σ vs us→isFn P f=true∧∃u,RelV (eV E) σ v u∧Pure P f (List.toArray us) u
end
inductive Sh where
 |one (k:Option IntKind)
 |agg (ks:Ks)
inductive Res where
 |one (s:Sh)
 |tup (ss:List Sh)
def qj2:Ks→List Int→List Value
 |[],_=>[]
 |k::ks,xs=>qf2 k (xs.headD 0)::qj2 ks xs.tail
def q43:List Sh→List Int→List Value
 |[],_=>[]
 | .one k::r,xs=>qf2 k (xs.headD 0)::q43 r xs.tail
 | .agg ks::r,xs=> .agg (List.toArray (qj2 ks xs))::q43 r (xs.drop ks.length)
def flat:List Sh→Ks
 |[]=>[]
 | .one k::r=>k::flat r
 | .agg ks::r=>ks++flat r
def znw:Res→Ks
 | .one s=>flat [s]
 | .tup ss=>flat ss
def qui (r:Res) (xs:List Int):Value:=match r with
 | .one s=>(q43 [s] xs).headD undef
 | .tup ss=> .tuple (List.toArray (q43 ss xs))
theorem InC.split:∀{ks ks':Ks} {xs:List Int},InC (ks++ks') xs→InC ks (xs.take ks.length)∧InC ks' (xs.drop ks.length)
 |[],_,_,h=>by simpa [InC] using h
 |k::ks,ks',[],h=>by cases h
 |k::ks,ks',x::xs,h=>by
  obtain ⟨h1,h2⟩:=h
  have:=InC.split h2
  exact ⟨⟨h1,this.1⟩,this.2⟩
theorem qk5:∀(ks:Ks) (xs:List Int),qj2 ks (xs.take ks.length)=qj2 ks xs
 |[],_=>rfl
 |k::ks,[]=>by simp [qj2]
 |k::ks,x::xs=>by simp [qj2,qk5 ks xs]
def symC:Ks→Nat→List C
 |[],_=>[]
 |some k::ks,i=> .opq (.ivar k i)::symC ks (i+1)
 |none::ks,i=> .opq (.bvar i)::symC ks (i+1)
def z9a:List Sh→Nat→List V
 |[],_=>[]
 | .one (some k)::r,i=> .one (.opq (.ivar k i))::z9a r (i+1)
 | .one none::r,i=> .one (.opq (.bvar i))::z9a r (i+1)
 | .agg ks::r,i=> .agg (symC ks i)::z9a r (i+ks.length)
def qaa (F:Nat→List Int→List Int) (xs:List Int):Env:={iv:=fun i=>xs.getD i 0,bv:=fun i=>xs.getD i 0 !=0,F:=fun f i ys=>(F f ys).getD i 0,pv:=fun _=> .bool false,pv1:=fun _=>rfl}
section
variable {F:Nat→List Int→List Int} {xs:List Int} {σ:List (Nat×Nat×Nat)}
theorem zbq {k:Option IntKind} {i:Nat} {y:Int} (hy:xs.getD i 0=y) (h:inK k y):RelC (eV (qaa F xs)) σ (match k with |some k=>C.opq (.ivar k i) |none=>C.opq (.bvar i)) (qf2 k y):=by
 subst hy
 cases k with
 |some k=>
  have e:eS (qaa F xs) (.ivar k i)= .int k (xs.getD i 0):=by
   have h:k.wrap (xs.getD i 0)=xs.getD i 0:=h
   show Value.int k (k.wrap (xs.getD i 0))=_
   rw [h]
  have:=qbu (σ:=σ) (e:=qaa F xs) (.ivar k i)
  rw [e] at this
  exact this
 |none=>
  have e:eS (qaa F xs) (.bvar i)= .bool (xs.getD i 0 !=0):=by
   show Value.bool (b2i (xs.getD i 0 !=0) !=0)=_
   rw [qas]
  have:=qbu (σ:=σ) (e:=qaa F xs) (.bvar i)
  rw [e] at this
  exact this
theorem q3r:∀(ks:Ks) (i:Nat) (ys:List Int),(∀j,j<ys.length→xs.getD (i+j) 0=ys.getD j 0)→InC ks ys→RelCs (eV (qaa F xs)) σ (symC ks i) (qj2 ks ys)
 |[],i,ys,_,_=> .nil
 |k::ks,i,[],_,h=>by cases h
 |k::ks,i,y::ys,hx,h=>by
  have h0:=hx 0 (by simp)
  simp only [Nat.add_zero,List.getD_cons_zero] at h0
  have h1:=zbq (F:=F) (σ:=σ) h0 h.1
  have h2:=q3r ks (i+1) ys (fun j hj=>by have:=hx (j+1) (by simp;omega);rw [show i+1+j=i+(j+1) from by omega];simpa using this) h.2
  cases k with
  |some k=>exact .cons h1 h2
  |none=>exact .cons h1 h2
theorem qr4:∀(a9s:List Sh) (i:Nat) (ys:List Int),(∀j,j<ys.length→xs.getD (i+j) 0=ys.getD j 0)→InC (flat a9s) ys→RelVs (eV (qaa F xs)) σ (z9a a9s i) (q43 a9s ys)
 |[],i,ys,_,_=> .nil
 | .one k::r,i,[],_,h=>by cases h
 | .one k::r,i,y::ys,hx,h=>by
  have h0:=hx 0 (by simp)
  simp only [Nat.add_zero,List.getD_cons_zero] at h0
  have h1:=zbq (F:=F) (σ:=σ) h0 h.1
  have h2:=qr4 r (i+1) ys (fun j hj=>by have:=hx (j+1) (by simp;omega);rw [show i+1+j=i+(j+1) from by omega];simpa using this) h.2
  cases k with
  |some k=>exact .cons (.one h1) h2
  |none=>exact .cons (.one h1) h2
 | .agg ks::r,i,ys,hx,h=>by
  obtain ⟨h1,h2⟩:=InC.split h
  have a1:=q3r (F:=F) (σ:=σ) (xs:=xs) ks i (ys.take ks.length) (fun j hj=>by
   rw [hx j (by simp at hj;omega)]
   simp only [List.length_take] at hj
   rw [List.getD_eq_getElem?_getD,List.getD_eq_getElem?_getD,List.getElem?_take,if_pos (by omega)]) h1
  rw [qk5] at a1
  have a2:=qr4 r (i+ks.length) (ys.drop ks.length) (fun j hj=>by
   simp only [List.length_drop] at hj
   rw [show i+ks.length+j=i+(ks.length+j) from by omega,hx _ (by omega)]
   rw [List.getD_eq_getElem?_getD,List.getD_eq_getElem?_getD,List.getElem?_drop]) h2
  exact .cons (.agg a1) a2
end
def CTE (P:Program) (g:List Int→List Int) (f:Nat) (a9s:List Sh) (r:Res):Prop:=∀xs,InC (flat a9s) xs→InC (znw r) (g xs)∧Pure P f (List.toArray (q43 a9s xs)) (qui r (g xs))
def qpj:List Sh→List V→Option (List SE)
 |[],[]=>some []
 | .one k::r,.one c::vs=>(match toK k c,qpj r vs with |some x,some l=>some (x::l) |_,_=>none)
 | .agg ks::r,.agg cs::vs=>(match qko ks cs,qpj r vs with |some x,some l=>some (x++l) |_,_=>none)
 |_,_=>none
section
variable {E:Env} {σ:List (Nat×Nat×Nat)}
theorem qqj:∀{ks:Ks} {cs:List C} {l:List SE} {vs:List Value},qko ks cs=some l→RelCs (eV E) σ cs vs→∀(t:List Int),vs=qj2 ks (l.map (SE.val E)++t)∧InC ks (l.map (SE.val E))∧l.length=ks.length
 |[],[],l,vs,h,hr,t=>by cases h;cases hr;exact ⟨rfl,trivial,rfl⟩
 |k::ks,c::cs,l,vs,h,hr,t=>by
  simp only [qko] at h
  split at h
  ·rename_i x l' hx hl
   cases h
   cases hr with |cons h1 h2=>
   obtain ⟨e1,e2⟩:=qk7 hx h1
   obtain ⟨e3,e4,e5⟩:=qqj hl h2 t
   refine ⟨?_,⟨e2,e4⟩,by simp [e5]⟩
   simp only [List.map_cons,List.cons_append,qj2,List.headD_cons,List.tail_cons]
   rw [e1,e3]
  ·cases h
 |[],c::cs,l,vs,h,hr,t=>by cases h
 |k::ks,[],l,vs,h,hr,t=>by cases h
theorem InC.append:∀{ks ks':Ks} {xs ys:List Int},InC ks xs→InC ks' ys→InC (ks++ks') (xs++ys)
 |[],_,[],_,_,h=>h
 |[],_,x::xs,_,h,_=>by cases h
 |k::ks,_,[],_,h,_=>by cases h
 |k::ks,ks',x::xs,ys,h,h'=>⟨h.1,InC.append h.2 h'⟩
theorem qm2:∀{a9s:List Sh} {vs:List V} {l:List SE} {us:List Value},qpj a9s vs=some l→RelVs (eV E) σ vs us→us=q43 a9s (l.map (SE.val E))∧InC (flat a9s) (l.map (SE.val E))
 |[],[],l,us,h,hr=>by cases h;cases hr;exact ⟨rfl,trivial⟩
 | .one k::r,.one c::vs,l,us,h,hr=>by
  simp only [qpj] at h
  split at h
  ·rename_i x l' hx hl
   cases h
   cases hr with |cons h1 h2=>
   obtain ⟨e1,e2⟩:=qk7 hx (qd0 h1)
   obtain ⟨e3,e4⟩:=qm2 hl h2
   refine ⟨?_,⟨e2,e4⟩⟩
   simp only [List.map_cons,q43,List.headD_cons,List.tail_cons]
   rw [e1,e3]
  ·cases h
 | .agg ks::r,.agg cs::vs,l,us,h,hr=>by
  simp only [qpj] at h
  split at h
  ·rename_i x l' hx hl
   cases h
   cases hr with |cons h1 h2=>
   obtain ⟨ws,hw,e0⟩:=qg2 h1
   obtain ⟨e1,e2,e5⟩:=qqj hx hw (l'.map (SE.val E))
   obtain ⟨e3,e4⟩:=qm2 hl h2
   refine ⟨?_,by rw [List.map_append];exact InC.append e2 e4⟩
   simp only [q43,List.map_append]
   rw [e0,e1,e3]
   rw [List.drop_append_of_le_length (by simp [e5]),List.drop_eq_nil_of_le (by simp [e5])]
   simp
  ·cases h
 |[],v::vs,l,us,h,hr=>by cases h
 | .one k::r,[],l,us,h,hr=>by cases h
 | .agg ks::r,[],l,us,h,hr=>by cases h
 | .one k::r,.agg _::_,l,us,h,hr=>by cases h
 | .one k::r,.tup _::_,l,us,h,hr=>by cases h
 | .agg k::r,.one _::_,l,us,h,hr=>by cases h
 | .agg k::r,.tup _::_,l,us,h,hr=>by cases h
def appC (f:Nat) (a9s:SE):Ks→Nat→List C
 |[],_=>[]
 |k::ks,i=> .opq (.app f i k a9s)::appC f a9s ks (i+1)
def z8w (f:Nat) (a9s:SE):List Sh→Nat→List V
 |[],_=>[]
 | .one k::r,i=> .one (.opq (.app f i k a9s))::z8w f a9s r (i+1)
 | .agg ks::r,i=> .agg (appC f a9s ks i)::z8w f a9s r (i+ks.length)
def appR (f:Nat) (a9s:SE):Res→V
 | .one s=>(z8w f a9s [s] 0).headD (.tup [])
 | .tup ss=> .tup (z8w f a9s ss 0)
theorem zf0 {f i:Nat} {a9s:SE} {k:Option IntKind} {y:Int} (hy:E.F f i (a9s.vals E)=y) (h:inK k y):RelC (eV E) σ (.opq (.app f i k a9s)) (qf2 k y):=by
 have:=qbu (σ:=σ) (e:=E) (.app f i k a9s)
 have e:eS E (.app f i k a9s)=qf2 k y:=by rw [qne (k:=k) rfl];simp only [SE.val];rw [hy,q1d h]
 rw [e] at this;exact this
theorem q4b {f:Nat} {a9s:SE} {zs:List Int} (hz:∀i,E.F f i (a9s.vals E)=zs.getD i 0):∀(ks:Ks) (i:Nat) (ys:List Int),(∀j,j<ys.length→zs.getD (i+j) 0=ys.getD j 0)→InC ks ys→RelCs (eV E) σ (appC f a9s ks i) (qj2 ks ys)
 |[],i,ys,_,_=> .nil
 |k::ks,i,[],_,h=>by cases h
 |k::ks,i,y::ys,hx,h=>by
  have h0:=hx 0 (by simp)
  simp only [Nat.add_zero,List.getD_cons_zero] at h0
  have h1:=zf0 (σ:=σ) (k:=k) ((hz i).trans h0) h.1
  have h2:=q4b hz ks (i+1) ys (fun j hj=>by have:=hx (j+1) (by simp;omega);rw [show i+1+j=i+(j+1) from by omega];simpa using this) h.2
  exact .cons h1 h2
theorem qnv {f:Nat} {a9s:SE} {zs:List Int} (hz:∀i,E.F f i (a9s.vals E)=zs.getD i 0):∀(ss:List Sh) (i:Nat) (ys:List Int),(∀j,j<ys.length→zs.getD (i+j) 0=ys.getD j 0)→InC (flat ss) ys→RelVs (eV E) σ (z8w f a9s ss i) (q43 ss ys)
 |[],i,ys,_,_=> .nil
 | .one k::r,i,[],_,h=>by cases h
 | .one k::r,i,y::ys,hx,h=>by
  have h0:=hx 0 (by simp)
  simp only [Nat.add_zero,List.getD_cons_zero] at h0
  have h1:=zf0 (σ:=σ) (k:=k) ((hz i).trans h0) h.1
  have h2:=qnv hz r (i+1) ys (fun j hj=>by have:=hx (j+1) (by simp;omega);rw [show i+1+j=i+(j+1) from by omega];simpa using this) h.2
  exact .cons (.one h1) h2
 | .agg ks::r,i,ys,hx,h=>by
  obtain ⟨h1,h2⟩:=InC.split h
  have a1:=q4b (σ:=σ) hz ks i (ys.take ks.length) (fun j hj=>by
   rw [hx j (by simp at hj;omega)]
   simp only [List.length_take] at hj
   rw [List.getD_eq_getElem?_getD,List.getD_eq_getElem?_getD,List.getElem?_take,if_pos (by omega)]) h1
  rw [qk5] at a1
  have a2:=qnv hz r (i+ks.length) (ys.drop ks.length) (fun j hj=>by
   simp only [List.length_drop] at hj
   rw [show i+ks.length+j=i+(ks.length+j) from by omega,hx _ (by omega)]
   rw [List.getD_eq_getElem?_getD,List.getD_eq_getElem?_getD,List.getElem?_drop]) h2
  exact .cons (.agg a1) a2
theorem zl8 {f:Nat} {a9s:SE} {zs:List Int} (hz:∀i,E.F f i (a9s.vals E)=zs.getD i 0) {r:Res} (h:InC (znw r) zs):RelV (eV E) σ (appR f a9s r) (qui r zs):=by
 cases r with
 |one s=>
  have:=qnv (σ:=σ) hz [s] 0 zs (fun j _=>by rw [Nat.zero_add]) h
  cases s with
  |one k=>cases this with |cons h _=>exact h
  |agg ks=>cases this with |cons h _=>exact h
 |tup ss=>exact .tup (qnv (σ:=σ) hz ss 0 zs (fun j _=>by rw [Nat.zero_add]) h)
end
theorem zvz (s:ByteArray) (l:Nat):s.extract l s.size=⟨(s.data.toList.drop l).toArray⟩:=by
 apply ByteArray.ext
 rw [ByteArray.data_extract]
 apply Array.toList_inj.1
 rw [Array.toList_extract]
 show List.extract s.data.toList l s.data.size=_
 rw [List.extract_eq_take_drop,←Array.length_toList,List.take_of_length_le (by rw [List.length_drop];exact Nat.le_refl _)]
theorem zic (s:ByteArray) (h:Nat):s.extract 0 h=⟨(s.data.toList.take h).toArray⟩:=by
 apply ByteArray.ext
 rw [ByteArray.data_extract]
 apply Array.toList_inj.1
 rw [Array.toList_extract]
 show List.extract s.data.toList 0 h=_
 rw [List.extract_eq_take_drop]
 simp
theorem q5u (l:List (List Int)) (n:Nat):(⟨((qa_ l).data.toList.drop n).toArray⟩:ByteArray)=qa_ (l.drop n):=by
 unfold qa_;simp [List.map_drop]
theorem qqc (l:List (List Int)) (n:Nat):(⟨((qa_ l).data.toList.take n).toArray⟩:ByteArray)=qa_ (l.take n):=by
 unfold qa_;simp [List.map_take]
section
variable {P:Program} {w0:World} {o:Oper} {ρ:Operand→Value} {L:List Blk}
theorem qxw {t e len m:Nat} {b:Bool} {x:Operand} {g off:Nat} (ha:P.underlying t=some (.array len e)) (hi:qcq P e=some (b,m)) (hl:0<len) (ho:o.op= .slice t x none none none) (hx:ρ x= .pointer (some ⟨g,off,none⟩)):
  QV P w0 o ρ L (.slice (some ⟨g,off,none⟩) len len):=
 q_of fun w _=>by
  simp only [execOp,ho,hx,Option.map_none]
  refine qgt ?_
  simp only [Instr.sliceAt,Sem.run_bind,run_underlying ha w,Result.andThen_ok,Instr.sliceBounds,Sem.run_pure,Instr.sureAddr,qde hi w]
  by_cases q:len=0
  ·omega
  ·simp [q,qds]
theorem qjy {t:Nat} {x lo:Operand} {s:ByteArray} {k:IntKind} {l:Nat} (hs:P.underlying t=some .string) (ho:o.op= .slice t x (some lo) none none) (hx:ρ x= .string s) (hl:ρ lo= .int k (.ofNat l)) (h:l≤s.size):
  QV P w0 o ρ L (.string ⟨(s.data.toList.drop l).toArray⟩):=
 q_of fun w _=>by
  have h1:(0:Int)≤Int.ofNat l∧Int.ofNat l≤(s.size:Int):=⟨Int.natCast_nonneg l,by show (l:Int)≤s.size;omega⟩
  simp only [execOp,ho,hx,hl,Option.map_some,Option.map_none]
  refine qgt ?_
  simp only [Instr.sliceAt,Instr.slice,Sem.run_bind,run_underlying hs w,Result.andThen_ok,Option.isSome_none,Bool.false_eq_true,if_false,Instr.sliceBounds,Instr.sliceBound,asIntOf,Sem.run_pure,h1,and_self,if_true]
  rw [←zvz];rfl
theorem qgw {t:Nat} {x hi:Operand} {s:ByteArray} {k:IntKind} {n:Nat} (hs:P.underlying t=some .string) (ho:o.op= .slice t x none (some hi) none) (hx:ρ x= .string s) (hl:ρ hi= .int k (.ofNat n)) (h:n≤s.size):
  QV P w0 o ρ L (.string ⟨(s.data.toList.take n).toArray⟩):=
 q_of fun w _=>by
  have h1:(0:Int)≤Int.ofNat n∧Int.ofNat n≤(s.size:Int):=⟨Int.natCast_nonneg n,by show (n:Int)≤s.size;omega⟩
  simp only [execOp,ho,hx,hl,Option.map_some,Option.map_none]
  refine qgt ?_
  simp only [Instr.sliceAt,Instr.slice,Sem.run_bind,run_underlying hs w,Result.andThen_ok,Option.isSome_none,Bool.false_eq_true,if_false,Instr.sliceBounds,Instr.sliceBound,asIntOf,Sem.run_pure,h1,and_self,if_true]
  rw [←zic];rfl
end
def ldrS (z:SE) (l:Nat):SE:=match z with
 | .ldr y (.lit .i64 (.ofNat m))=>bif Nat.ble (m+l) 1000000 then .ldr y (.lit .i64 (Int.ofNat (m+l))) else .ldr z (.lit .i64 l)
 |_=> .ldr z (.lit .i64 l)
theorem qsn {e:Env} (z:SE) {l:Nat} (hl:l≤1000000):(SE.ldr z (.lit .i64 l)).lst e=(z.lst e).drop l:=by
 simp only [SE.lst,SE.val,qan]
 rw [show (IntKind.i64.wrap ((l:Nat):Int)).toNat=l by rw [qck (by unfold maxLen;omega)];rfl]
theorem zhx {e:Env} (z:SE) {l:Nat} (hl:l≤1000000):(ldrS z l).lst e=(z.lst e).drop l:=by
 unfold ldrS
 split
 ·rename_i y m
  cases hb:Nat.ble (m+l) 1000000 with
  |false=>rw [cond_false];exact qsn _ hl
  |true=>
   rw [cond_true]
   have hm:=Nat.le_of_ble_eq_true hb
   have h1:=qsn (e:=e) y (l:=m+l) hm
   have h2:=qsn (e:=e) y (l:=m) (by omega)
   show (SE.ldr y (.lit .i64 ((m+l:Nat):Int))).lst e=((SE.ldr y (.lit .i64 ((m:Nat):Int))).lst e).drop l
   rw [h1,h2,List.drop_drop]
 ·exact qsn _ hl
def gB (P:Program) (D:SE→Option Bool) (o:Oper) (vs:List V):Option V:=
 match o.op,vs with
 | .slice t _ none none none,[.one (.ptr k off)]=>(match P.underlying t with
  |some (.array len e)=>(match qcq P e with |some _=>bif Nat.blt 0 len then some (.one (.sl k off len len)) else none |none=>none)
  |_=>none)
 | .slice t _ (some _) none none,[.one (.str s),.one (.int _ (.ofNat l))]=>(match P.underlying t with
  |some .string=>bif Nat.ble l s.size then some (.one (.str ⟨(s.data.toList.drop l).toArray⟩)) else none
  |_=>none)
 | .slice t _ none (some _) none,[.one (.str s),.one (.int _ (.ofNat l))]=>(match P.underlying t with
  |some .string=>bif Nat.ble l s.size then some (.one (.str ⟨(s.data.toList.take l).toArray⟩)) else none
  |_=>none)
 | .slice t _ (some _) none none,[.one (.sts z),.one (.int _ (.ofNat l))]=>(match P.underlying t,D (.cmp .leq (.lit .i64 l) (qki z)) with
  |some .string,some true=>bif Nat.ble l 1000000 then some (.one (.sts (ldrS z l))) else none
  |_,_=>none)
 | .slice t _ none (some _) none,[.one (.sts z),.one (.int _ (.ofNat l))]=>(match P.underlying t,D (.cmp .leq (.lit .i64 l) (qki z)) with
  |some .string,some true=>bif Nat.ble l 1000000 then some (.one (.sts (.ltk z (.lit .i64 l)))) else none
  |_,_=>none)
 | .slice t _ none (some _) none,[.one (.sts z),.one (.opq a)]=>(match P.underlying t,D (.cmp .geq a (.lit .i64 0)),D (.cmp .leq a (qki z)) with
  |some .string,some true,some true=>bif q4q a then some (.one (.sts (.ltk z a))) else none
  |_,_,_=>none)
 |_,_=>none
theorem q7a {e:Env} {D:SE→Option Bool} (hD:∀x b,D x=some b→eS e x= .bool b) {z:SE} {l:Nat} (h:D (.cmp .leq (.lit .i64 l) (qki z))=some true) (hl:l≤1000000):l≤(z.lst e).length:=by
 have h1:=hD _ _ h
 rw [qf5] at h1
 injection h1 with h1
 have h2:decide (IntKind.i64.wrap l≤(qki z).val e)=true:=h1
 have h3:=of_decide_eq_true h2
 rw [(qfd z).1,qck (by unfold maxLen;omega)] at h3
 exact Nat.le_trans (by omega) (qm6 _)
theorem zju {P:Program} {E:Env} {σ:List (Nat×Nat×Nat)} {D:SE→Option Bool} (hD:∀x b,D x=some b→eS E x= .bool b) {o:Oper} {vs:List V} {v:V} {us:List Value} (h:gB P D o vs=some v) (hus:RelVs (eV E) σ vs us):
  ∃u,RelV (eV E) σ v u∧∀(ρ:Operand→Value),o.op.operands.toList.map ρ=us→∀(w0:World) (L:List Blk),QV P w0 o ρ L u:=by
 unfold gB at h
 split at h
 ·rename_i t x k off ho
  cases hus with |cons ha t1=>cases t1 with |nil=>
  obtain ⟨g,b,c,hg,rfl⟩:=qks ha
  split at h
  ·rename_i len e hu
   split at h
   ·rename_i y hy
    obtain ⟨yb,ym⟩:=y
    cases hl:Nat.blt 0 len with
    |false=>rw [hl,cond_false] at h;cases h
    |true=>
     rw [hl,cond_true] at h;cases h
     refine ⟨_,.one (.sl hg),fun ρ hρ w0 L=> ?_⟩
     rw [ho] at hρ
     simp [Op.operands] at hρ
     exact qxw hu hy (Nat.le_of_ble_eq_true hl) ho hρ
   ·cases h
  ·cases h
 ·rename_i t x lo s k l ho
  cases hus with |cons ha t1=>cases t1 with |cons hb t2=>cases t2 with |nil=>
  split at h
  ·rename_i hu
   cases hl:Nat.ble l s.size with
   |false=>rw [hl,cond_false] at h;cases h
   |true=>
    rw [hl,cond_true] at h;cases h
    refine ⟨_,.one .str,fun ρ hρ w0 L=> ?_⟩
    rw [ho] at hρ
    simp [Op.operands] at hρ
    exact qjy hu ho (hρ.1.trans (qnb ha)) (hρ.2.trans (qdo hb)) (Nat.le_of_ble_eq_true hl)
  ·cases h
 ·rename_i t x lo s k l ho
  cases hus with |cons ha t1=>cases t1 with |cons hb t2=>cases t2 with |nil=>
  split at h
  ·rename_i hu
   cases hl:Nat.ble l s.size with
   |false=>rw [hl,cond_false] at h;cases h
   |true=>
    rw [hl,cond_true] at h;cases h
    refine ⟨_,.one .str,fun ρ hρ w0 L=> ?_⟩
    rw [ho] at hρ
    simp [Op.operands] at hρ
    exact qgw hu ho (hρ.1.trans (qnb ha)) (hρ.2.trans (qdo hb)) (Nat.le_of_ble_eq_true hl)
  ·cases h
 ·rename_i t x lo z k l ho
  cases hus with |cons ha t1=>cases t1 with |cons hb t2=>cases t2 with |nil=>
  split at h
  ·rename_i hu hd
   cases hl:Nat.ble l 1000000 with
   |false=>rw [hl,cond_false] at h;cases h
   |true=>
    rw [hl,cond_true] at h;cases h
    have hl':=Nat.le_of_ble_eq_true hl
    have hle:=q7a (e:=E) hD hd hl'
    refine ⟨_,.one .sts,fun ρ hρ w0 L=> ?_⟩
    rw [ho] at hρ
    simp [Op.operands] at hρ
    have:=qjy (P:=P) (w0:=w0) (L:=L) hu ho (hρ.1.trans (qon ha)) (hρ.2.trans (qdo hb)) (by rw [qd7];exact hle)
    rw [q5u] at this
    rw [zhx z hl'];exact this
  ·cases h
 ·rename_i t x lo z k l ho
  cases hus with |cons ha t1=>cases t1 with |cons hb t2=>cases t2 with |nil=>
  split at h
  ·rename_i hu hd
   cases hl:Nat.ble l 1000000 with
   |false=>rw [hl,cond_false] at h;cases h
   |true=>
    rw [hl,cond_true] at h;cases h
    have hl':=Nat.le_of_ble_eq_true hl
    have hle:=q7a (e:=E) hD hd hl'
    refine ⟨_,.one .sts,fun ρ hρ w0 L=> ?_⟩
    rw [ho] at hρ
    simp [Op.operands] at hρ
    have:=qgw (P:=P) (w0:=w0) (L:=L) hu ho (hρ.1.trans (qon ha)) (hρ.2.trans (qdo hb)) (by rw [qd7];exact hle)
    rw [qqc] at this
    have e:(SE.ltk z (.lit .i64 l)).lst (eV E)=(z.lst (eV E)).take l:=by
     simp only [SE.lst,SE.val,qan]
     rw [show (IntKind.i64.wrap ((l:Nat):Int)).toNat=l by rw [qck (by unfold maxLen;omega)];rfl]
    rw [e];exact this
  ·cases h
 ·rename_i t x lo z a ho
  cases hus with |cons ha t1=>cases t1 with |cons hb t2=>cases t2 with |nil=>
  split at h
  ·rename_i hu hd0 hd1
   cases hty:q4q a with
   |false=>rw [hty,cond_false] at h;cases h
   |true=>
    rw [hty,cond_true] at h;cases h
    have hty:a.ty=some (some .i64):=by
     unfold q4q at hty
     split at hty
     ·assumption
     ·cases hty
    have h0:0≤a.val E:=by
     have h1:=hD _ _ hd0
     rw [qf5] at h1
     injection h1 with h1
     have h2:decide (a.val E≥(SE.lit .i64 0).val E)=true:=h1
     have h3:=of_decide_eq_true h2
     rw [qv2,show IntKind.i64.wrap 0=0 from rfl] at h3
     exact h3
    have h1:a.val E≤((sat (z.lst E).length:Nat):Int):=by
     have h1:=hD _ _ hd1
     rw [qf5] at h1
     injection h1 with h1
     have h2:decide (a.val E≤(qki z).val E)=true:=h1
     have h3:=of_decide_eq_true h2
     rw [(qfd z).1] at h3
     exact h3
    obtain ⟨m,hm⟩:∃m:Nat,a.val E=(m:Int):=⟨(a.val E).toNat,by omega⟩
    have hle:m≤(z.lst E).length:=Nat.le_trans (by omega) (qm6 _)
    refine ⟨_,.one .sts,fun ρ hρ w0 L=> ?_⟩
    rw [ho] at hρ
    simp [Op.operands] at hρ
    have hbv:RelC (eV E) σ (.opq a) _:=qd0 hb
    have h2:=qbu (e:=eV E) (σ:=σ) a
    rw [qne hty] at h2
    have h4:=hbv.det h2
    have h5:ρ lo= .int .i64 (.ofNat m):=by rw [hρ.2,h4];show Value.int .i64 (a.val E)=_;rw [hm];rfl
    have:=qgw (P:=P) (w0:=w0) (L:=L) hu ho (hρ.1.trans (qon ha)) h5 (by rw [qd7];exact hle)
    rw [qqc] at this
    have e:(SE.ltk z a).lst (eV E)=(z.lst (eV E)).take m:=by
     simp only [SE.lst,SE.val,qan]
     rw [hm,Int.toNat_natCast]
    rw [e];exact this
  ·cases h
 ·cases h
inductive ST where
 |leaf (v:V)
 |ask (x:SE) (t e:ST)
noncomputable def ST.get (E:Env):ST→V
 | .leaf v=>v
 | .ask x t e=>bif x.val E !=0 then t.get E else e.get E
noncomputable def qfn (E:Env):C→Int
 | .int _ n=>n
 | .bool b=>b2i b
 | .opq x=>x.val E
 |_=>0
def qf8:List V→List C
 |[]=>[]
 | .one c::r=>c::qf8 r
 | .agg cs::r=>cs++qf8 r
 | .tup _::r=>qf8 r
 | .any _::r=>qf8 r
def qc0:V→List C
 | .one c=>[c]
 | .agg cs=>cs
 | .tup vs=>qf8 vs
 | .any _=>[]
noncomputable def qaf (T:ST) (F:Nat→List Int→List Int) (xs:List Int):List Int:=(qc0 (T.get (qaa F xs))).map (qfn (qaa F xs))
structure Ent where
 f:Nat
 a9s:List Sh
 r:Res
 fn:(Nat→List Int→List Int)→List Int→List Int
 lp:Bool:=false
def FT:List Ent→Nat→List Int→List Int
 |[],_,_=>[]
 |x::r,f,xs=>bif Nat.beq f x.f then x.fn (FT r) xs else FT r f xs
def zqi:SE→Bool
 | .lit _ _=>true
 | .cmp .eql (.lit _ _) (.lit _ _)=>true
 |_=>false
def hT:List Ent→qm7
 |[],_,_=>none
 |x::r,f,vs=>bif Nat.beq f x.f&& !x.lp then (match qpj x.a9s vs with |some l=>bif l.all zqi then none else some (appR f (seL l) x.r) |none=>none) else hT r f vs
def qwh:List Ent→Nat→Option (List Sh×Res)
 |[],_=>none
 |x::r,f=>bif Nat.beq f x.f&& !x.lp then some (x.a9s,x.r) else qwh r f
def qcd (P:Program) (Tb:List Ent):Prop:=∀f a9s r,qwh Tb f=some (a9s,r)→isFn P f=true∧CTE P (FT Tb f) f a9s r
theorem qvk {P:Program}:qcd P []:=fun _ _ _ h=>by cases h
theorem qih {P:Program} {Tb:List Ent} (h:qcd P Tb) {x:Ent} (hlp:x.lp=false) (hf:isFn P x.f=true) (hc:CTE P (fun xs=>x.fn (FT Tb) xs) x.f x.a9s x.r):qcd P (x::Tb):=by
 intro f a9s r hfind
 simp only [qwh,hlp,Bool.not_false,Bool.and_true] at hfind
 cases hb:Nat.beq f x.f with
 |true=>
  rw [hb,cond_true] at hfind
  cases hfind
  have:=Nat.eq_of_beq_eq_true hb
  subst this
  have e:FT (x::Tb) x.f=fun xs=>x.fn (FT Tb) xs:=by funext xs;simp only [FT,hb,cond_true]
  rw [e];exact ⟨hf,hc⟩
 |false=>
  rw [hb,cond_false] at hfind
  have e:FT (x::Tb) f=FT Tb f:=by funext xs;simp only [FT,hb,cond_false]
  rw [e];exact h f a9s r hfind
theorem qbw {P:Program} {Tb:List Ent} (h:qcd P Tb) {x:Ent} (hlp:x.lp=true) (hn:qwh Tb x.f=none):qcd P (x::Tb):=by
 intro f a9s r hfind
 simp only [qwh,hlp,Bool.not_true,Bool.and_false,cond_false] at hfind
 have hne:Nat.beq f x.f=false:=by
  rw [Bool.eq_false_iff];intro q
  rw [Nat.eq_of_beq_eq_true q,hn] at hfind;cases hfind
 have e:FT (x::Tb) f=FT Tb f:=by funext xs;simp only [FT,hne,cond_false]
 rw [e];exact h f a9s r hfind
theorem q7r:∀{Tb:List Ent} {f:Nat} {vs:List V} {v:V},hT Tb f vs=some v→∃a9s r l,qwh Tb f=some (a9s,r)∧qpj a9s vs=some l∧v=appR f (seL l) r
 |[],_,_,_,h=>by cases h
 |x::Tb,f,vs,v,h=>by
  simp only [hT] at h
  simp only [qwh]
  cases hb:(Nat.beq f x.f&& !x.lp) with
  |true=>
   simp only [hb,cond_true] at h ⊢
   split at h
   ·rename_i l hl
    cases hp:l.all zqi with
    |true=>rw [hp,cond_true] at h;cases h
    |false=>rw [hp,cond_false] at h;cases h;exact ⟨_,_,l,rfl,hl,rfl⟩
   ·cases h
  |false=>simp only [hb,cond_false] at h ⊢;exact q7r h
theorem hT_ok {P:Program} {E:Env} {Tb:List Ent} (h:qcd P Tb) (hE:E.F=fun f i ys=>(FT Tb f ys).getD i 0):qy8 P E (hT Tb):=by
 intro σ f vs v us hv hus
 obtain ⟨a9s,r,l,h1,h2,rfl⟩:=q7r hv
 obtain ⟨hf,hc⟩:=h f a9s r h1
 obtain ⟨e1,e2⟩:=qm2 h2 hus
 obtain ⟨c1,c2⟩:=hc _ e2
 refine ⟨hf,_,zl8 (σ:=σ) (zs:=FT Tb f (l.map (SE.val E))) (fun i=>by rw [hE,qhl]) c1,?_⟩
 rw [e1];exact c2
def q1m:Option IntKind→C→Bool
 |some k,.int k' n=>decide (k=k')&&decide (k.wrap n=n)
 |none,.bool _=>true
 |k,.opq x=>decide (x.ty=some k)
 |_,_=>false
def shC:Ks→List C→Bool
 |[],[]=>true
 |k::ks,c::cs=>q1m k c&&shC ks cs
 |_,_=>false
def shL:List Sh→List V→Bool
 |[],[]=>true
 | .one k::r,.one c::vs=>q1m k c&&shL r vs
 | .agg ks::r,.agg cs::vs=>shC ks cs&&shL r vs
 |_,_=>false
def shB:Res→V→Bool
 | .one s,v=>shL [s] [v]
 | .tup ss,.tup vs=>shL ss vs
 |_,_=>false
def ye1:C→C→Bool
 | .int k n,.int k' n'=>decide (k=k')&&decide (n=n')
 | .bool a,.bool b=>a==b
 | .opq x,.opq y=>decide (x=y)
 |_,_=>false
def eqlB:List C→List C→Bool
 |[],[]=>true
 |a::a9s,b::bs=>ye1 a b&&eqlB a9s bs
 |_,_=>false
def eq1B:V→V→Bool
 | .one a,.one b=>ye1 a b
 | .agg a,.agg b=>eqlB a b
 |_,_=>false
def eqLB:List V→List V→Bool
 |[],[]=>true
 |a::a9s,b::bs=>eq1B a b&&eqLB a9s bs
 |_,_=>false
def eqvB:V→V→Bool
 | .tup a,.tup b=>eqLB a b
 |a,b=>eq1B a b
theorem qw5 {a b:C} (h:ye1 a b=true):a=b:=by
 unfold ye1 at h
 split at h
 ·simp only [Bool.and_eq_true,decide_eq_true_eq] at h;rw [h.1,h.2]
 ·simp only [beq_iff_eq] at h;rw [h]
 ·simp only [decide_eq_true_eq] at h;rw [h]
 ·cases h
theorem zde:∀{a b:List C},eqlB a b=true→a=b
 |[],[],_=>rfl
 |a::a9s,b::bs,h=>by simp only [eqlB,Bool.and_eq_true] at h;rw [qw5 h.1,zde h.2]
 |[],b::bs,h=>by cases h
 |a::a9s,[],h=>by cases h
theorem q7i {a b:V} (h:eq1B a b=true):a=b:=by
 unfold eq1B at h
 split at h
 ·rw [qw5 h]
 ·rw [zde h]
 ·cases h
theorem za1:∀{a b:List V},eqLB a b=true→a=b
 |[],[],_=>rfl
 |a::a9s,b::bs,h=>by simp only [eqLB,Bool.and_eq_true] at h;rw [q7i h.1,za1 h.2]
 |[],b::bs,h=>by cases h
 |a::a9s,[],h=>by cases h
theorem zwe {a b:V} (h:eqvB a b=true):a=b:=by
 unfold eqvB at h
 split at h
 ·rw [za1 h]
 ·exact q7i h
section
variable {E:Env} {σ:List (Nat×Nat×Nat)}
theorem qqr {k:Option IntKind} {c:C} (h:q1m k c=true):RelC (eV E) σ c (qf2 k (qfn E c))∧inK k (qfn E c):=by
 unfold q1m at h
 split at h
 ·rename_i k k' n
  simp only [Bool.and_eq_true,decide_eq_true_eq] at h
  obtain ⟨rfl,h2⟩:=h
  exact ⟨.int,h2⟩
 ·rename_i b
  refine ⟨?_,q7y b⟩
  show RelC (eV E) σ (.bool b) (.bool (b2i b !=0))
  rw [qas];exact .bool
 ·rename_i x
  have hty:=of_decide_eq_true h
  have:=qbu (σ:=σ) (e:=E) x
  cases k with
  |some k=>
   have e:eS E x= .int k (x.val E):=by simp only [eS,hty]
   rw [e] at this;exact ⟨this,qbn E hty⟩
  |none=>
   have e:eS E x= .bool (x.val E !=0):=by simp only [eS,hty]
   rw [e] at this
   refine ⟨this,?_⟩
   show x.val E=0∨x.val E=1
   rw [qi1 hty];exact q7y _
 ·cases h
theorem zfd:∀{ks:Ks} {cs:List C},shC ks cs=true→∀(t:List Int),RelCs (eV E) σ cs (qj2 ks (cs.map (qfn E)++t))∧InC ks (cs.map (qfn E))∧cs.length=ks.length
 |[],[],_,t=>⟨.nil,trivial,rfl⟩
 |k::ks,c::cs,h,t=>by
  simp only [shC,Bool.and_eq_true] at h
  obtain ⟨h1,h2⟩:=qqr (E:=E) (σ:=σ) h.1
  obtain ⟨h3,h4,h5⟩:=zfd h.2 t
  exact ⟨.cons h1 h3,⟨h2,h4⟩,by simp [h5]⟩
 |[],c::cs,h,_=>by cases h
 |k::ks,[],h,_=>by cases h
theorem qq2:∀{ss:List Sh} {vs:List V},shL ss vs=true→RelVs (eV E) σ vs (q43 ss ((qf8 vs).map (qfn E)))∧InC (flat ss) ((qf8 vs).map (qfn E))
 |[],[],_=>⟨.nil,trivial⟩
 | .one k::r,.one c::vs,h=>by
  simp only [shL,Bool.and_eq_true] at h
  obtain ⟨h1,h2⟩:=qqr (E:=E) (σ:=σ) h.1
  obtain ⟨h3,h4⟩:=qq2 h.2
  exact ⟨.cons (.one h1) h3,⟨h2,h4⟩⟩
 | .agg ks::r,.agg cs::vs,h=>by
  simp only [shL,Bool.and_eq_true] at h
  obtain ⟨h1,h2,h5⟩:=zfd (E:=E) (σ:=σ) h.1 ((qf8 vs).map (qfn E))
  obtain ⟨h3,h4⟩:=qq2 h.2
  simp only [qf8,q43,List.map_append]
  rw [List.drop_append_of_le_length (by simp [h5]),List.drop_eq_nil_of_le (by simp [h5])]
  exact ⟨.cons (.agg h1) h3,InC.append h2 h4⟩
 |[],v::vs,h=>by cases h
 | .one k::r,[],h=>by cases h
 | .agg ks::r,[],h=>by cases h
 | .one k::r,.agg _::_,h=>by cases h
 | .one k::r,.tup _::_,h=>by cases h
 | .agg k::r,.one _::_,h=>by cases h
 | .agg k::r,.tup _::_,h=>by cases h
theorem zwr {r:Res} {v:V} (h:shB r v=true):RelV (eV E) σ v (qui r ((qc0 v).map (qfn E)))∧InC (znw r) ((qc0 v).map (qfn E)):=by
 unfold shB at h
 split at h
 ·rename_i s
  obtain ⟨h1,h2⟩:=qq2 (E:=E) (σ:=σ) h
  cases v with
  |one c=>
   cases s with
   |one k=>cases h1 with |cons h1 _=>exact ⟨h1,h2⟩
   |agg ks=>cases h
  |agg cs=>
   cases s with
   |one k=>cases h
   |agg ks=>
    simp only [qf8,List.append_nil] at h1 h2
    cases h1 with |cons h1 _=>exact ⟨h1,h2⟩
  |tup vs=>cases s<;>cases h
  |any i=>cases s<;>cases h
 ·obtain ⟨h1,h2⟩:=qq2 (E:=E) (σ:=σ) h
  exact ⟨.tup h1,h2⟩
 ·cases h
end
def gR (D:SE→Option Bool) (o:Oper) (vs:List V):Option V:=
 match o.op,vs with
 | .binOp .rem _ _ _ _,[.one a,.one b]=>(match toI a,toI b with
  |some (k,x),some (k',y)=>(match k,k' with
   | .i64,.i64=>(match D (.cmp .gtr y (.lit .i64 0)) with |some true=>some (.one (.opq (.bin .rem .i64 x y))) |_=>none)
   |_,_=>none)
  |_,_=>none)
 |_,_=>none
theorem zkq {P:Program} {E:Env} {σ:List (Nat×Nat×Nat)} {D:SE→Option Bool} (hD:∀x b,D x=some b→eS E x= .bool b) {o:Oper} {vs:List V} {v:V} {us:List Value} (h:gR D o vs=some v) (hus:RelVs (eV E) σ vs us):
  ∃u,RelV (eV E) σ v u∧∀(ρ:Operand→Value),o.op.operands.toList.map ρ=us→∀(w0:World) (L:List Blk),QV P w0 o ρ L u:=by
 unfold gR at h
 split at h
 ·rename_i t x y ty a b ho
  cases hus with |cons ha t1=>cases t1 with |cons hb t2=>cases t2 with |nil=>
  cases ha with |one ha=>cases hb with |one hb=>
  split at h
  ·rename_i k p k' q hp hq
   obtain ⟨e1,w1⟩:=qgu hp ha
   obtain ⟨e2,w2⟩:=qgu hq hb
   split at h
   ·split at h
    ·rename_i hd
     cases h
     have hp0:0<q.val E:=by
      have h1:=hD _ _ hd
      rw [qf5] at h1
      injection h1 with h1
      have h2:decide (q.val E>IntKind.i64.wrap 0)=true:=h1
      have h3:=of_decide_eq_true h2
      rwa [show IntKind.i64.wrap 0=0 from rfl] at h3
     refine ⟨_,.one (qbu _),fun ρ hρ w0 L=> ?_⟩
     rw [ho] at hρ
     simp [Op.operands] at hρ
     rw [qnf]
     have:=zlb (P:=P) (w0:=w0) (L:=L) ho (hρ.1.trans e1) (hρ.2.trans e2) (by rw [beq_eq_false_iff_ne];exact Int.ne_of_gt hp0)
     simp only [qbg]
     rw [q2a (.inr (.inl rfl)) (qbn E w1) hp0]
     exact this
    ·cases h
   ·cases h
  ·cases h
 ·cases h
def cfT (b:Cfg) (Tb:List Ent) (ds:List (SE×Bool)):Cfg:={P:=b.P,X:=b.X,H:=hT Tb,G:=fun o vs=>match gS b.P o vs with |some v=>some v |none=>(match gR (dS ds) o vs with |some v=>some v |none=>gB b.P (dS ds) o vs),D:=dS ds,E:=b.E,S:=b.S,L:=b.L,W:=b.W,B:=b.B}
def qqi (b:Cfg) (Tb:List Ent) (d f:Nat) (a9s:List Sh) (r:Res):ST→List (SE×Bool)→Bool
 | .leaf v,ds=>(match evF (cfT b Tb ds) d f (z9a a9s 0) [] [] 0 with |some (v',_,_)=>eqvB v' v |none=>false)&&shB r v
 | .ask x t e,ds=>(match x.ty with |some none=>true |_=>false)&&(qqi b Tb d f a9s r t ((x,true)::ds)&&qqi b Tb d f a9s r e ((x,false)::ds))
structure CfgOK (b:Cfg):Prop where
 x:∀e σ0,XOK b e σ0
 mixed:b.P.follows .mixedOrders=true
 b:∀(E:Env) (σ0:List (Nat×Nat×Nat)) (D:SE→Option Bool),(∀x t,D x=some t→eS E x= .bool t)→qjz b (eV E) σ0 (b.B D)
def LB (b:Cfg) (Tb:List Ent):Prop:=∀E:Env,E.F=(fun f i ys=>(FT Tb f ys).getD i 0)→∀ds,Knows E ds→∀σ0,LOK (cfT b Tb ds) (eV E) σ0
theorem okT {b:Cfg} (hb:CfgOK b) {E:Env} {Tb:List Ent} (hlb:LB b Tb) (h:qcd b.P Tb) (hE:E.F=fun f i ys=>(FT Tb f ys).getD i 0) {ds:List (SE×Bool)} (hk:Knows E ds) {σ0:List (Nat×Nat×Nat)}:OK (cfT b Tb ds) (eV E) σ0:=
 ⟨⟨zpq E,E.pv1⟩,fun σ hx f vs v us h1 h2=>hb.x (eV E) σ0 σ hx f vs v us h1 h2,fun σ hx f vs v us h1 h2=>hT_ok h hE σ f vs v us h1 h2,fun σ hx o vs us v h1 h2=>(by
  change (match gS b.P o vs with |some v=>some v |none=>(match gR (dS ds) o vs with |some v=>some v |none=>gB b.P (dS ds) o vs))=some v at h1
  cases hg:gS b.P o vs with
  |some x=>rw [hg] at h1;cases h1;exact zja hg h2
  |none=>
   rw [hg] at h1
   cases hr:gR (dS ds) o vs with
   |some x=>rw [hr] at h1;cases h1;exact zkq (qwe hk) hr h2
   |none=>rw [hr] at h1;exact zju (qwe hk) h1 h2),qwe hk,hlb E hE ds hk σ0,hb.b E σ0 (dS ds) (qwe hk),hb.mixed⟩
theorem qmi {b:Cfg} (hb:CfgOK b) {Tb:List Ent} (hlb:LB b Tb) (hT:qcd b.P Tb) {d f:Nat} {a9s:List Sh} {r:Res} {xs:List Int} (hx:InC (flat a9s) xs):∀(T:ST) (ds:List (SE×Bool)),qqi b Tb d f a9s r T ds=true→Knows (qaa (FT Tb) xs) ds→
  InC (znw r) (qaf T (FT Tb) xs)∧Pure b.P f (List.toArray (q43 a9s xs)) (qui r (qaf T (FT Tb) xs))
 | .leaf v,ds,h,hk=>by
  simp only [qqi,Bool.and_eq_true] at h
  obtain ⟨h1,h2⟩:=h
  obtain ⟨h3,h4⟩:=zwr (E:=qaa (FT Tb) xs) (σ:=[]) h2
  refine ⟨h4,?_⟩
  refine qmm (c:=cfT b Tb ds) (d:=d) (okT hb hlb hT rfl hk) (v:=v) ?_ (qr4 (σ:=[]) a9s 0 xs (fun j _=>by rw [Nat.zero_add]) hx) h3
  split at h1
  ·rename_i v' M n hev
   rw [hev,←zwe h1];rfl
  ·cases h1
 | .ask x t e,ds,h,hk=>by
  simp only [qqi,Bool.and_eq_true] at h
  obtain ⟨h0,h1,h2⟩:=h
  have hty:x.ty=some none:=by
   split at h0
   ·assumption
   ·cases h0
  have e0:eS (qaa (FT Tb) xs) x= .bool (x.val (qaa (FT Tb) xs) !=0):=by simp only [eS,hty]
  cases hb':(x.val (qaa (FT Tb) xs) !=0) with
  |true=>
   have e1:qaf (.ask x t e) (FT Tb) xs=qaf t (FT Tb) xs:=by unfold qaf;simp only [ST.get,hb',cond_true]
   rw [e1]
   exact qmi hb hlb hT hx t _ h1 (.cons (by rw [e0,hb']) hk)
  |false=>
   have e1:qaf (.ask x t e) (FT Tb) xs=qaf e (FT Tb) xs:=by unfold qaf;simp only [ST.get,hb',cond_false]
   rw [e1]
   exact qmi hb hlb hT hx e _ h2 (.cons (by rw [e0,hb']) hk)
theorem qbd {b:Cfg} (hb:CfgOK b) {Tb:List Ent} (hlb:LB b Tb) (hT:qcd b.P Tb) {d f:Nat} {a9s:List Sh} {r:Res} {T:ST} (hf:isFn b.P f=true) (h:qqi b Tb d f a9s r T []=true):qcd b.P (⟨f,a9s,r,qaf T,false⟩::Tb):=
 qih hT rfl hf fun xs hx=>qmi hb hlb hT hx T [] h .nil
def zsa:List (Nat×V)→Tr
 |[]=> .leaf
 |(t,v)::r=>(zsa r).put 12 (t+1) v
theorem qo2 {e:Vl} {σ:List (Nat×Nat×Nat)}:∀{S:List (Nat×V)} {l:List (Nat×Value)},(∀p∈S,RelV e σ p.2 (look l p.1))→RF e σ (zsa S) l
 |[],l,_=>fun t x hx=>by simp [zsa,Tr.get] at hx
 |(t,v)::r,l,h=>fun t' x hx=>by
  rcases qow _ _ _ _ _ _ (by omega) (by omega) hx with ⟨h1,rfl⟩ |⟨h1,h2⟩
  ·have:t'=t:=by omega
   subst this;exact h _ (.head _)
  ·exact qo2 (fun p hp=>h p (.tail _ hp)) t' x h2
theorem zfk {E E':Env} (h1:E.iv=E'.iv) (h2:E.bv=E'.bv) (h3:E.F=E'.F) (x:SE):x.val E=x.val E'∧x.vals E=x.vals E':=by
 induction x<;>(constructor<;>simp_all [SE.val,SE.vals])
def qeo (F:Nat→List Int→List Int) (xs:List Int) (av:Nat→Value) (fr:List Blk):Env:=
 {iv:=fun i=>xs.getD i 0,bv:=fun i=>xs.getD i 0 !=0,F:=fun f i ys=>(F f ys).getD i 0,pv:=fun _=> .bool false,pv1:=fun _=>rfl,av:=av,fr:=fr}
theorem qho {F:Nat→List Int→List Int} {xs:List Int} {av:Nat→Value} {fr:List Blk} (x:SE):x.val (qeo F xs av fr)=x.val (qaa F xs):=(zfk (E:=qeo F xs av fr) (E':=qaa F xs) rfl rfl rfl x).1
structure Bd where
 ts:List SE
 ks:List (Nat×Option Nat)
def qja:List (Nat×Option Nat)→Nat→Option (Option Nat)
 |[],_=>none
 |(k,y)::r,t=>bif Nat.beq k t then some y else qja r t
def qpd (j:Nat) (x:SE) (b:Bd):Option Bd:=
 bif Nat.beq j b.ts.length then some ⟨b.ts++[x],b.ks⟩ else
 match b.ts[j]? with
 |some y=>bif decide (y=x) then some b else none
 |none=>none
def qv3 (kp:Nat) (ka:Option Nat) (b:Bd):Option Bd:=
 match qja b.ks kp with
 |none=>some ⟨b.ts,(kp,ka)::b.ks⟩
 |some ka'=>bif decide (ka'=ka) then some b else none
mutual
def qtk (p c:C) (b:Bd):Option Bd:=
 match p with
 | .opq (.ivar k j)=>(match toK (some k) c with |some x=>qpd j x b |none=>none)
 | .opq (.bvar j)=>(match toK none c with |some x=>qpd j x b |none=>none)
 | .sli kp (.lvar j)=>(match c with
  | .sli ka x=>(match qv3 kp (some ka) b with |some b1=>qpd j x b1 |none=>none)
  | .nils=>(match qv3 kp none b with |some b1=>qpd j .lnil b1 |none=>none)
  |_=>none)
 | .opq (.len (.lvar j))=>(match toK (some .i64) c with |some x=>(match b.ts[j]? with |some y=>bif decide (x=qki y) then some b else none |none=>none) |none=>none)
 | .sts (.lvar j)=>(match strT c with |some x=>qpd j x b |none=>none)
 | .ptr kp o=>(match c with | .ptr ka o'=>bif Nat.beq o o' then qv3 kp (some ka) b else none |_=>none)
 | .sl kp o l q=>(match c with | .sl ka o' l' q'=>bif Nat.beq o o'&&(Nat.beq l l'&&Nat.beq q q') then qv3 kp (some ka) b else none |_=>none)
 | .slo kp l=>(match c with | .slo ka l'=>bif Nat.beq l l' then qv3 kp (some ka) b else none |_=>none)
 | .fn f ps=>(match c with | .fn f' cs=>bif Nat.beq f f' then qjr ps cs b else none |_=>none)
 | .int k n=>(match c with | .int k' n'=>bif decide (k=k')&&decide (n=n') then some b else none |_=>none)
 | .bool x=>(match c with | .bool x'=>bif x==x' then some b else none |_=>none)
 | .nilp=>(match c with | .nilp=>some b |_=>none)
 | .nils=>(match c with | .nils=>some b |_=>none)
 | .str s=>(match c with | .str s'=>bif decide (s=s') then some b else none |_=>none)
 |_=>none
def qjr (ps cs:List C) (b:Bd):Option Bd:=
 match ps with
 |[]=>(match cs with |[]=>some b |_=>none)
 |p::ps'=>(match cs with
  |c::cs'=>(match qtk p c b with |some b1=>qjr ps' cs' b1 |none=>none)
  |[]=>none)
end
def mV (p v:V) (b:Bd):Option Bd:=
 match p,v with
 | .one p,.one c=>qtk p c b
 | .agg ps,.agg cs=>qjr ps cs b
 | .any i,.any i'=>bif Nat.beq i i' then some b else none
 |_,_=>none
def mS (en:Bool):List (Nat×V)→Tr→Bd→Option Bd
 |[],_,b=>some b
 |(t,p)::r,fr,b=>
  bif (match p with | .any i=>en&&Nat.beq i t |_=>false) then mS en r fr b else
  match fr.get (t+1) with
  |some v=>(match mV p v b with |some b1=>mS en r fr b1 |none=>none)
  |none=>none
def yhn (ps cs:List C) (b:Bd):Option Bd:=
 match ps with
 |[.big (.lvar j) ks]=>(match cs with |[.big x ks']=>bif decide (ks=ks') then qpd j x b else none |_=>none)
 |ps=>bif qjx cs then none else qjr ps cs b
def mM:MB→MB→Bd→Option (Bd×MB)
 |[],m,b=>some (b,m)
 |(kp,ps,T,o)::r,m,b=>
  match qja b.ks kp with
  |some (some ka)=>(match qjc m ka with
   |some ((_,cs,T',o'),m')=>bif Nat.beq T T'&&(o==o') then (match yhn ps cs b with |some b1=>mM r m' b1 |none=>none) else none
   |none=>none)
  |some none=>(match ps with |[.big (.lvar j) _]=>(match qpd j .lnil b with |some b1=>mM r m b1 |none=>none) |_=>none)
  |none=>none
def mF:MB→List MB→Bd→Option Bd
 |[],_,b=>some b
 |(kp,ps,T,o)::r,F,b=>
  match qja b.ks kp with
  |some (some ka)=>(match ps with
   |[.big (.lvar j) ks]=>(match qtf F ka with
    |some (x,ks',T')=>bif decide (ks=ks')&&Nat.beq T T' then (match qpd j x b with |some b1=>mF r F b1 |none=>none) else none
    |none=>none)
   |ps=>(match lkM F ka with
    |some (cs,T',o')=>bif Nat.beq T T'&&(o==o') then (match qjr ps cs b with |some b1=>mF r F b1 |none=>none) else none
    |none=>none))
  |some none=>(match ps with |[.big (.lvar j) _]=>(match qpd j .lnil b with |some b1=>mF r F b1 |none=>none) |_=>none)
  |none=>none
def keyC:C→Bool
 | .ptr _ _ | .sl _ _ _ _ | .slo _ _ | .sli _ _ | .fn _ (_::_)=>true
 |_=>false
def late (p:Nat×V):Bool:=match p.2 with
 | .one c=> !keyC c
 | .agg cs=> !cs.any keyC
 |_=>true
def soon (p:Nat×V):Bool:= !late p
theorem qt_ {Q:Nat×V→Prop} {S:List (Nat×V)} (h1:∀p∈S.filter soon,Q p) (h2:∀p∈S.filter late,Q p):∀p∈S,Q p:=fun p hp=>by
 cases hl:late p with
 |true=>exact h2 p (List.mem_filter.2 ⟨hp,hl⟩)
 |false=>exact h1 p (List.mem_filter.2 ⟨hp,by unfold soon;rw [hl];rfl⟩)
def SubB (b b':Bd):Prop:=(∃t,b'.ts=b.ts++t)∧∀kp o,qja b.ks kp=some o→qja b'.ks kp=some o
theorem SubB.refl (b:Bd):SubB b b:=⟨⟨[],by simp⟩,fun _ _ h=>h⟩
theorem SubB.trans {a b c:Bd} (h:SubB a b) (h':SubB b c):SubB a c:=by
 obtain ⟨⟨t,ht⟩,h1⟩:=h
 obtain ⟨⟨u,hu⟩,h2⟩:=h'
 exact ⟨⟨t++u,by rw [hu,ht,List.append_assoc]⟩,fun k o q=>h2 k o (h1 k o q)⟩
theorem SubB.get {b b':Bd} (h:SubB b b') {j:Nat} {x:SE} (hx:b.ts[j]? =some x):b'.ts[j]? =some x:=by
 obtain ⟨⟨t,ht⟩,_⟩:=h
 rw [ht,List.getElem?_append_left (List.getElem?_eq_some_iff.1 hx).1];exact hx
theorem qcc {j:Nat} {x:SE} {b b':Bd} (h:qpd j x b=some b'):SubB b b'∧b'.ts[j]? =some x:=by
 unfold qpd at h
 cases hb:Nat.beq j b.ts.length with
 |true=>
  rw [hb,cond_true] at h;cases h
  have:=Nat.eq_of_beq_eq_true hb
  subst this
  exact ⟨⟨⟨[x],rfl⟩,fun _ _ h=>h⟩,by simp⟩
 |false=>
  rw [hb,cond_false] at h
  split at h
  ·rename_i y hy
   cases hd:decide (y=x) with
   |true=>rw [hd,cond_true] at h;cases h;rw [←of_decide_eq_true hd];exact ⟨SubB.refl _,hy⟩
   |false=>rw [hd,cond_false] at h;cases h
  ·cases h
theorem qd8 {kp:Nat} {ka:Option Nat} {b b':Bd} (h:qv3 kp ka b=some b'):SubB b b'∧qja b'.ks kp=some ka:=by
 unfold qv3 at h
 split at h
 ·rename_i hn
  cases h
  refine ⟨⟨⟨[],by simp⟩,fun k o q=> ?_⟩,?_⟩
  ·simp only [qja]
   cases hb:Nat.beq kp k with
   |true=>rw [Nat.eq_of_beq_eq_true hb,q] at hn;cases hn
   |false=>exact q
  ·simp only [qja,Nat.beq_refl,cond_true]
 ·rename_i ka' hk
  cases hd:decide (ka'=ka) with
  |true=>rw [hd,cond_true] at h;cases h;rw [←of_decide_eq_true hd];exact ⟨SubB.refl _,hk⟩
  |false=>rw [hd,cond_false] at h;cases h
theorem qms {α:Type} {c:Bool} {x:Option α} {y:α} (h:(bif c then x else none)=some y):x=some y:=by cases c<;>first |exact h |cases h
theorem qfa {α:Type} {c:Bool} {x:Option α} {y:α} (h:(bif c then x else none)=some y):x=some y:=by cases c<;>first |exact h |cases h
structure Tgt (b:Bd) (E E':Env) (σ σ':List (Nat×Nat×Nat)):Prop where
 iv:∀j x,b.ts[j]? =some x→E'.iv j=x.val E
 bv:∀j x,b.ts[j]? =some x→E'.bv j=(x.val E !=0)
 ka:∀kp ka,qja b.ks kp=some (some ka)→∀y,σ[ka]? =some y→σ'[kp]? =some y
 kn:∀kp,qja b.ks kp=some none→∃g bb,σ'[kp]? =some (g,bb,0)
theorem Tgt.sub {b b':Bd} {E E':Env} {σ σ':List (Nat×Nat×Nat)} (h:Tgt b' E E' σ σ') (s:SubB b b'):Tgt b E E' σ σ':=
 ⟨fun j x hx=>h.iv j x (s.get hx),fun j x hx=>h.bv j x (s.get hx),fun kp ka hk=>h.ka kp ka (s.2 _ _ hk),fun kp hk=>h.kn kp (s.2 _ _ hk)⟩
mutual
theorem qup:∀(p c:C) {b b':Bd},qtk p c b=some b'→SubB b b'
 |p,c,b,b',h=>by
  unfold qtk at h
  split at h
  ·split at h
   ·exact (qcc h).1
   ·cases h
  ·split at h
   ·exact (qcc h).1
   ·cases h
  ·split at h
   ·split at h
    ·rename_i b1 h1;exact (qd8 h1).1.trans (qcc h).1
    ·cases h
   ·split at h
    ·rename_i b1 h1;exact (qd8 h1).1.trans (qcc h).1
    ·cases h
   ·cases h
  ·split at h
   ·split at h
    ·cases qfa h;exact SubB.refl _
    ·cases h
   ·cases h
  ·split at h
   ·exact (qcc h).1
   ·cases h
  ·split at h
   ·exact (qd8 (qfa h)).1
   ·cases h
  ·split at h
   ·exact (qd8 (qfa h)).1
   ·cases h
  ·split at h
   ·exact (qd8 (qfa h)).1
   ·cases h
  ·split at h
   ·exact qf9 _ _ (qfa h)
   ·cases h
  ·split at h
   ·cases qfa h;exact SubB.refl _
   ·cases h
  ·split at h
   ·cases qfa h;exact SubB.refl _
   ·cases h
  ·split at h
   ·cases h;exact SubB.refl _
   ·cases h
  ·split at h
   ·cases h;exact SubB.refl _
   ·cases h
  ·split at h
   ·cases qfa h;exact SubB.refl _
   ·cases h
  ·cases h
theorem qf9:∀(ps cs:List C) {b b':Bd},qjr ps cs b=some b'→SubB b b'
 |ps,cs,b,b',h=>by
  unfold qjr at h
  split at h
  ·split at h
   ·cases h;exact SubB.refl _
   ·cases h
  ·split at h
   ·split at h
    ·rename_i b1 h1;exact (qup _ _ h1).trans (qf9 _ _ h)
    ·cases h
   ·cases h
end
section
variable {E E':Env} {σ σ':List (Nat×Nat×Nat)} {P:Program}
theorem Tgt.lst {b:Bd} (h:Tgt b E E' σ σ') {j:Nat} {x:SE} (hx:b.ts[j]? =some x):(SE.lvar j).lst E'=x.lst E:=by
 simp only [SE.lst,SE.val,h.iv j x hx]
mutual
theorem qut:∀(p c:C) {b b':Bd} {v:Value},qtk p c b=some b'→Tgt b' E E' σ σ'→RelC E σ c v→RelC E' σ' p v
 |p,c,b,b',v,h,g,hr=>by
  unfold qtk at h
  split at h
  ·rename_i k j
   split at h
   ·rename_i x hx
    obtain ⟨_,hj⟩:=qcc h
    obtain ⟨e1,e2⟩:=qk7 hx hr
    have:=qbu (e:=E') (σ:=σ') (.ivar k j)
    have e3:eS E' (.ivar k j)=v:=by
     rw [e1,qne (k:=some k) rfl]
     simp only [SE.val,g.iv j x hj]
     rw [show k.wrap (x.val E)=x.val E from e2]
    rw [e3] at this;exact this
   ·cases h
  ·rename_i j
   split at h
   ·rename_i x hx
    obtain ⟨_,hj⟩:=qcc h
    obtain ⟨e1,e2⟩:=qk7 hx hr
    have:=qbu (e:=E') (σ:=σ') (.bvar j)
    have e3:eS E' (.bvar j)=v:=by
     rw [e1,qne (k:=none) rfl]
     simp only [SE.val,g.bv j x hj,qf2,qas]
    rw [e3] at this;exact this
   ·cases h
  ·rename_i kp j
   split at h
   ·rename_i ka x
    split at h
    ·rename_i b1 h1
     obtain ⟨s2,hj⟩:=qcc h
     obtain ⟨_,hk⟩:=qd8 h1
     cases hr with |sli hg=>
     have:=RelC.sli (e:=E') (x:= .lvar j) (g.ka _ _ (s2.2 _ _ hk) _ hg)
     rw [g.lst hj] at this;exact this
    ·cases h
   ·split at h
    ·rename_i b1 h1
     obtain ⟨s2,hj⟩:=qcc h
     obtain ⟨_,hk⟩:=qd8 h1
     cases hr
     obtain ⟨gg,bb,hg⟩:=g.kn _ (s2.2 _ _ hk)
     have:=RelC.sli (e:=E') (x:= .lvar j) hg
     rw [g.lst hj,qgf] at this;exact this
    ·cases h
   ·cases h
  ·rename_i j
   split at h
   ·rename_i x hx
    split at h
    ·rename_i y hy
     cases hb:decide (x=qki y) with
     |false=>rw [hb,cond_false] at h;cases h
     |true=>
      rw [hb,cond_true] at h;cases h
      have hxy:=of_decide_eq_true hb
      subst hxy
      obtain ⟨e1,_⟩:=qk7 hx hr
      have:=qbu (e:=E') (σ:=σ') (.len (.lvar j))
      have e3:eS E' (.len (.lvar j))=v:=by
       have e4:=qpc (e:=E') (.lvar j)
       rw [g.lst hy] at e4
       have e5:=qfd (e:=E) y
       rw [e1,e5.1];exact e4
      rw [e3] at this;exact this
    ·cases h
   ·cases h
  ·rename_i j
   split at h
   ·rename_i x hx
    obtain ⟨_,hj⟩:=qcc h
    rw [q1h hx hr,←g.lst hj]
    exact .sts
   ·cases h
  ·rename_i kp o
   split at h
   ·rename_i ka o'
    cases hb:Nat.beq o o' with
    |false=>rw [hb,cond_false] at h;cases h
    |true=>
     rw [hb,cond_true] at h
     have:=Nat.eq_of_beq_eq_true hb
     subst this
     cases hr with |ptr hg=>
     exact .ptr (g.ka _ _ (qd8 h).2 _ hg)
   ·cases h
  ·rename_i kp o l q
   split at h
   ·rename_i ka o' l' q'
    cases hb:(Nat.beq o o'&&(Nat.beq l l'&&Nat.beq q q')) with
    |false=>rw [hb,cond_false] at h;cases h
    |true=>
     rw [hb,cond_true] at h
     simp only [Bool.and_eq_true] at hb
     obtain ⟨h1,h2,h3⟩:=hb
     have h1:=Nat.eq_of_beq_eq_true h1
     have h2:=Nat.eq_of_beq_eq_true h2
     have h3:=Nat.eq_of_beq_eq_true h3
     subst h1;subst h2;subst h3
     cases hr with |sl hg=>
     exact .sl (g.ka _ _ (qd8 h).2 _ hg)
   ·cases h
  ·rename_i kp l
   split at h
   ·rename_i ka l'
    cases hb:Nat.beq l l' with
    |false=>rw [hb,cond_false] at h;cases h
    |true=>
     rw [hb,cond_true] at h
     have:=Nat.eq_of_beq_eq_true hb
     subst this
     cases hr with |slo hg=>
     exact .slo (g.ka _ _ (qd8 h).2 _ hg)
   ·cases h
  ·rename_i f ps
   split at h
   ·rename_i f' cs
    cases hb:Nat.beq f f' with
    |false=>rw [hb,cond_false] at h;cases h
    |true=>
     rw [hb,cond_true] at h
     have:=Nat.eq_of_beq_eq_true hb
     subst this
     cases hr with |fn hc=>
     exact .fn (qif _ _ h g hc)
   ·cases h
  ·rename_i k n
   split at h
   ·rename_i k' n'
    cases hb:(decide (k=k')&&decide (n=n')) with
    |false=>rw [hb,cond_false] at h;cases h
    |true=>
     simp only [Bool.and_eq_true,decide_eq_true_eq] at hb
     obtain ⟨rfl,rfl⟩:=hb
     cases hr;exact .int
   ·cases h
  ·rename_i x
   split at h
   ·rename_i x'
    cases hb:(x==x') with
    |false=>rw [hb,cond_false] at h;cases h
    |true=>
     simp only [beq_iff_eq] at hb
     subst hb
     cases hr;exact .bool
   ·cases h
  ·split at h
   ·cases hr;exact .nilp
   ·cases h
  ·split at h
   ·cases hr;exact .nils
   ·cases h
  ·rename_i s
   split at h
   ·rename_i s'
    cases hb:decide (s=s') with
    |false=>rw [hb,cond_false] at h;cases h
    |true=>
     have:=of_decide_eq_true hb
     subst this
     cases hr;exact .str
   ·cases h
  ·cases h
theorem qif:∀(ps cs:List C) {b b':Bd} {vs:List Value},qjr ps cs b=some b'→Tgt b' E E' σ σ'→RelCs E σ cs vs→RelCs E' σ' ps vs
 |ps,cs,b,b',vs,h,g,hr=>by
  unfold qjr at h
  split at h
  ·split at h
   ·cases hr;exact .nil
   ·cases h
  ·split at h
   ·split at h
    ·rename_i b1 h1
     cases hr with |cons r1 r2=>
     exact .cons (qut _ _ h1 (g.sub (qf9 _ _ h)) r1) (qif _ _ h g r2)
    ·cases h
   ·cases h
end
theorem zq5 {p x:V} {b b':Bd} (h:mV p x b=some b'):SubB b b':=by
 unfold mV at h
 split at h
 ·exact qup _ _ h
 ·exact qf9 _ _ h
 ·cases qfa h;exact SubB.refl _
 ·cases h
theorem zoz {p x:V} {b b':Bd} {v:Value} (h:mV p x b=some b') (g:Tgt b' E E' σ σ') (hav:E'.av=E.av∨∀i,p≠.any i) (hr:RelV E σ x v):RelV E' σ' p v:=by
 unfold mV at h
 split at h
 ·exact .one (qut _ _ h g (qd0 hr))
 ·obtain ⟨vs,h1,rfl⟩:=qg2 hr
  exact .agg (qif _ _ h g h1)
 ·rename_i i i'
  cases hb:Nat.beq i i' with
  |false=>rw [hb,cond_false] at h;cases h
  |true=>
   have:=Nat.eq_of_beq_eq_true hb
   subst this
   cases hr
   rcases hav with hav |hav
   ·rw [←hav];exact .any
   ·exact absurd rfl (hav i)
 ·cases h
theorem qvj:∀{en:Bool} {S:List (Nat×V)} {fr:Tr} {b b':Bd},mS en S fr b=some b'→SubB b b'
 |en,[],_,_,_,h=>by cases h;exact SubB.refl _
 |en,(t,p)::r,fr,b,b',h=>by
  simp only [mS] at h
  cases hb:(match p with | .any i=>en&&Nat.beq i t |_=>false) with
  |true=>rw [hb,cond_true] at h;exact qvj h
  |false=>
   rw [hb,cond_false] at h
   split at h
   ·split at h
    ·rename_i b1 h1;exact (zq5 h1).trans (qvj h)
    ·cases h
   ·cases h
theorem qqv:∀{en:Bool} {S:List (Nat×V)} {fr:Tr} {b b':Bd} {l:List (Nat×Value)},mS en S fr b=some b'→Tgt b' E E' σ σ'→(en=true→∀t,E'.av t=look l t)→(en=true→∀t i,(t,V.any i)∈S→i=t)→(en=false→E'.av=E.av)→RF E σ fr l→∀p∈S,RelV E' σ' p.2 (look l p.1)
 |en,[],_,_,_,_,_,_,_,_,_,_=>fun p hp=>by cases hp
 |en,(t,q)::r,fr,b,b',l,h,g,ha,hany,ha',hr=>by
  simp only [mS] at h
  intro p hp
  cases hb:(match q with | .any i=>en&&Nat.beq i t |_=>false) with
  |true=>
   rw [hb,cond_true] at h
   rcases List.mem_cons.1 hp with rfl |hp
   ·split at hb
    ·rename_i i
     simp only [Bool.and_eq_true] at hb
     have:=Nat.eq_of_beq_eq_true hb.2
     subst this
     rw [←ha hb.1];exact .any
    ·cases hb
   ·exact qqv h g ha (fun e t i hm=>hany e t i (.tail _ hm)) ha' hr p hp
  |false=>
   rw [hb,cond_false] at h
   split at h
   ·rename_i v hv
    split at h
    ·rename_i b1 h1
     rcases List.mem_cons.1 hp with rfl |hp
     ·refine zoz h1 (g.sub (qvj h)) ?_ (hr t v hv)
      cases en with
      |false=>exact .inl (ha' rfl)
      |true=>
       refine .inr fun i hi=> ?_
       subst hi
       have:=hany rfl t i (.head _)
       subst this
       simp at hb
     ·exact qqv h g ha (fun e t i hm=>hany e t i (.tail _ hm)) ha' hr p hp
    ·cases h
   ·cases h
theorem q3h {ps cs:List C} {b b':Bd} (h:yhn ps cs b=some b'):SubB b b':=by
 unfold yhn at h
 split at h
 ·split at h
  ·exact (qcc (qfa h)).1
  ·cases h
 ·cases hb:qjx cs with
  |true=>rw [hb,cond_true] at h;cases h
  |false=>rw [hb,cond_false] at h;exact qf9 _ _ h
theorem q0r:∀{M:MB} {k:Nat} {x:Nat×List C×TypeId×Bool} {M':MB},qjc M k=some (x,M')→x.1=k
 |[],_,_,_,h=>by cases h
 |(k',y)::r,k,x,M',h=>by
  simp only [qjc] at h
  cases hb:Nat.beq k' k with
  |true=>simp only [hb,cond_true,Option.some.injEq,Prod.mk.injEq] at h;rw [←h.1];exact Nat.eq_of_beq_eq_true hb
  |false=>
   simp only [hb,cond_false] at h
   split at h
   ·rename_i b r' hr;cases h;exact q0r hr
   ·cases h
theorem qvx {M:MB} {LM:List Blk} (hm:RM P E σ M LM) {k:Nat} {b:Nat×List C×TypeId×Bool} {M':MB} (h:qjc M k=some (b,M')):∃Lb LM',RM P E σ [b] Lb∧RM P E σ M' LM'∧LM.Perm (Lb++LM'):=by
 exact qkg (c:={P:=P,X:=fun _ _=>none,H:=fun _ _=>none,G:=fun _ _=>none,D:=fun _=>none,E:=fun _ _=>[],S:=fun _ _=>[],L:=fun _ _ _ _ _ _ _=>none}) hm h
theorem zl7 {kp ka:Nat} {ps cs:List C} {T:TypeId} {o:Bool} {b b':Bd} {Lb:List Blk} (h:yhn ps cs b=some b') (g:Tgt b' E E' σ σ') (hk:qja b'.ks kp=some (some ka)) (hr:RM P E σ [(ka,cs,T,o)] Lb):RM P E' σ' [(kp,ps,T,o)] Lb:=by
 unfold yhn at h
 split at h
 ·rename_i j ks
  split at h
  ·rename_i x ks'
   cases hb:decide (ks=ks') with
   |false=>rw [hb,cond_false] at h;cases h
   |true=>
    rw [hb,cond_true] at h
    have:=of_decide_eq_true hb
    subst this
    have hj:=(qcc h).2
    have hl:=g.lst hj
    cases hr with
    |cons hk' hc ho hr t=>cases hc.notBig
    |big hk' hc hi hn hr t=>
     cases t
     rw [←hl] at hn hr ⊢
     exact .big (g.ka _ _ hk _ hk') hc hi hn hr .nil
    |big0 hk' he t=>
     cases t
     rw [←hl] at he
     exact .big0 (g.ka _ _ hk _ hk') he .nil
  ·cases h
 ·cases hb:qjx cs with
  |true=>rw [hb,cond_true] at h;cases h
  |false=>
   rw [hb,cond_false] at h
   cases hr with
   |cons hk' hc ho hr t=>cases t;exact .cons (g.ka _ _ hk _ hk') (qif _ _ h g hc) ho hr .nil
   |big=>cases hb
   |big0=>cases hb
   |frm=>cases hb
theorem qo_:∀{M m:MB} {b b':Bd} {rest:MB},mM M m b=some (b',rest)→SubB b b'
 |[],m,b,b',rest,h=>by cases h;exact SubB.refl _
 |(kp,ps,T,o)::r,m,b,b',rest,h=>by
  simp only [mM] at h
  split at h
  ·split at h
   ·rename_i ka _ k' cs T' o' m' ho
    have h:=qms h
    split at h
    ·rename_i b1 h1;exact (q3h h1).trans (qo_ h)
    ·cases h
   ·cases h
  ·split at h
   ·split at h
    ·rename_i b1 h1;exact (qcc h1).1.trans (qo_ h)
    ·cases h
   ·cases h
  ·cases h
theorem qvp:∀{M m:MB} {b b':Bd} {rest:MB} {L:List Blk},mM M m b=some (b',rest)→RM P E σ m L→∃Lp Lr,RM P E σ rest Lr∧L.Perm (Lp++Lr)∧∀E' σ',Tgt b' E E' σ σ'→RM P E' σ' M Lp
 |[],m,b,b',rest,L,h,hr=>by cases h;exact ⟨[],L,hr,List.Perm.refl _,fun _ _ _=> .nil⟩
 |(kp,ps,T,o)::r,m,b,b',rest,L,h,hr=>by
  simp only [mM] at h
  split at h
  ·rename_i ka hk
   split at h
   ·rename_i k' cs T' o' m' ho
    cases hb:(Nat.beq T T'&&(o==o')) with
    |false=>rw [hb,cond_false] at h;cases h
    |true=>
     rw [hb,cond_true] at h
     simp only [Bool.and_eq_true,beq_iff_eq] at hb
     obtain ⟨hT,rfl⟩:=hb
     have hT:=Nat.eq_of_beq_eq_true hT
     subst hT
     split at h
     ·rename_i b1 h1
      obtain ⟨Lb,LM',a1,a2,a3⟩:=qvx hr ho
      have hkey:k'=ka:=q0r ho
      subst hkey
      have s1:=q3h h1
      have s2:=qo_ h
      obtain ⟨Lp,Lr,c2,c3,c1⟩:=qvp h a2
      refine ⟨Lb++Lp,Lr,c2,?_,fun E' σ' g=>(zl7 h1 (g.sub s2) (s1.2 _ _ hk) a1).app (c1 E' σ' g)⟩
      rw [List.append_assoc]
      exact a3.trans (c3.append_left Lb)
     ·cases h
   ·cases h
  ·rename_i hk
   split at h
   ·rename_i j ks
    split at h
    ·rename_i b1 h1
     obtain ⟨s1,hj⟩:=qcc h1
     have s2:=qo_ h
     obtain ⟨Lp,Lr,c2,c3,c1⟩:=qvp h hr
     refine ⟨Lp,Lr,c2,c3,fun E' σ' g=> ?_⟩
     obtain ⟨gg,bb,hg⟩:=g.kn kp (s2.2 _ _ (s1.2 _ _ hk))
     refine .big0 hg ?_ (c1 E' σ' g)
     rw [g.lst (s2.get hj),qgf]
    ·cases h
   ·cases h
  ·cases h
theorem q44 (y:SE) (ks:Ks) (cs:List C) (b:Bd):qjr [.big y ks] cs b=none:=by
 unfold qjr
 cases cs with
 |nil=>rfl
 |cons c cs=>
  have:qtk (.big y ks) c b=none:=by unfold qtk;rfl
  simp only [this]
theorem qlv:∀{F0:MB} {F:List MB} {b b':Bd},mF F0 F b=some b'→SubB b b'
 |[],F,b,b',h=>by cases h;exact SubB.refl _
 |(kp,ps,T,o)::r,F,b,b',h=>by
  simp only [mF] at h
  split at h
  ·split at h
   ·split at h
    ·have h:=qms h
     split at h
     ·rename_i b1 h1;exact (qcc h1).1.trans (qlv h)
     ·cases h
    ·cases h
   ·split at h
    ·have h:=qms h
     split at h
     ·rename_i b1 h1;exact (qf9 _ _ h1).trans (qlv h)
     ·cases h
    ·cases h
  ·split at h
   ·split at h
    ·rename_i b1 h1;exact (qcc h1).1.trans (qlv h)
    ·cases h
   ·cases h
  ·cases h
theorem qqw {F:List MB} {w:World} (hF:FR P E σ F w):∀{F0:MB} {b b':Bd},mF F0 F b=some b'→Tgt b' E E' σ σ'→FR P E' σ' [F0] w
 |[],b,b',h,g=>⟨fun k cs T o hk=>(by cases hk),fun k x ks T hk=>(by cases hk)⟩
 |(kp,ps,T,o)::r,b,b',h,g=>by
  have one:∀{k cs T' o'},lkM [(kp,ps,T,o)::r] k=some (cs,T',o')→(kp=k∧qjx ps=false∧cs=ps∧T'=T∧o'=o)∨lkM [r] k=some (cs,T',o'):=fun {k cs T' o'} hk=>by
   simp only [lkM,lkB] at hk ⊢
   cases hb:Nat.beq kp k with
   |true=>
    simp only [hb,cond_true] at hk
    cases hg:qjx ps with
    |true=>simp only [hg,cond_true] at hk;cases hk
    |false=>
     simp only [hg,cond_false,Option.some.injEq,Prod.mk.injEq] at hk
     exact .inl ⟨Nat.eq_of_beq_eq_true hb,rfl,hk.1.symm,hk.2.1.symm,hk.2.2.symm⟩
   |false=>simp only [hb,cond_false] at hk;exact .inr hk
  have two:∀{k x ks T'},qtf [(kp,ps,T,o)::r] k=some (x,ks,T')→(kp=k∧ps=[.big x ks]∧T'=T)∨qtf [r] k=some (x,ks,T'):=fun {k x ks T'} hk=>by
   simp only [qtf,lkL] at hk ⊢
   cases hb:Nat.beq kp k with
   |true=>
    simp only [hb,cond_true] at hk
    split at hk
    ·rename_i y hy
     split at hy
     ·cases hy;cases hk;exact .inl ⟨Nat.eq_of_beq_eq_true hb,rfl,rfl⟩
     ·cases hy
    ·cases hk
   |false=>simp only [hb,cond_false] at hk;exact .inr hk
  simp only [mF] at h
  split at h
  ·rename_i ka hk0
   split at h
   ·rename_i j ks0
    split at h
    ·rename_i x ks' T' hl
     cases hb:(decide (ks0=ks')&&Nat.beq T T') with
     |false=>rw [hb,cond_false] at h;cases h
     |true=>
      rw [hb,cond_true] at h
      simp only [Bool.and_eq_true,decide_eq_true_eq] at hb
      obtain ⟨rfl,hT⟩:=hb
      split at h
      ·rename_i b1 h1
       obtain ⟨s1,hj⟩:=qcc h1
       have s2:=qlv h
       have ih:=qqw hF h g
       refine ⟨fun k cs T2 o2 hk=> ?_,fun k y ks T2 hk=> ?_⟩
       ·rcases one hk with ⟨_,hbig,_⟩ |hk
        ·cases hbig
        ·exact ih.n k cs T2 o2 hk
       ·rcases two hk with ⟨rfl,he,_⟩ |hk
        ·cases he
         obtain ⟨gg,bb,cc,f1,f2,f3,f4⟩:=hF.l _ _ _ _ hl
         rw [g.lst (s2.get hj)]
         exact ⟨gg,bb,cc,g.ka _ _ (s2.2 _ _ (s1.2 _ _ hk0)) _ f1,f2,f3,f4⟩
        ·exact ih.l k y ks T2 hk
      ·cases h
    ·cases h
   ·rename_i hnb
    split at h
    ·rename_i cs T' o' hl
     cases hb:(Nat.beq T T'&&(o==o')) with
     |false=>rw [hb,cond_false] at h;cases h
     |true=>
      rw [hb,cond_true] at h
      simp only [Bool.and_eq_true,beq_iff_eq] at hb
      obtain ⟨hT,rfl⟩:=hb
      have hT:=Nat.eq_of_beq_eq_true hT
      subst hT
      split at h
      ·rename_i b1 h1
       have s1:=qf9 _ _ h1
       have s2:=qlv h
       have ih:=qqw hF h g
       refine ⟨fun k cs T2 o2 hk=> ?_,fun k y ks T2 hk=> ?_⟩
       ·rcases one hk with ⟨rfl,hbig,rfl,rfl,rfl⟩ |hk
        ·obtain ⟨gg,bb,cc,vs,f1,f2,f3,f4,f5⟩:=hF.n _ _ _ _ hl
         exact ⟨gg,bb,cc,vs,g.ka _ _ (s2.2 _ _ (s1.2 _ _ hk0)) _ f1,qif _ _ h1 (g.sub s2) f2,f3,f4,f5⟩
        ·exact ih.n k cs T2 o2 hk
       ·rcases two hk with ⟨rfl,he,_⟩ |hk
        ·subst he
         exfalso
         rw [q44] at h1;cases h1
        ·exact ih.l k y ks T2 hk
      ·cases h
    ·cases h
  ·rename_i hk0
   split at h
   ·rename_i j ks0
    split at h
    ·rename_i b1 h1
     obtain ⟨s1,hj⟩:=qcc h1
     have s2:=qlv h
     have ih:=qqw hF h g
     refine ⟨fun k cs T2 o2 hk=> ?_,fun k y ks T2 hk=> ?_⟩
     ·rcases one hk with ⟨_,hbig,_⟩ |hk
      ·cases hbig
      ·exact ih.n k cs T2 o2 hk
     ·rcases two hk with ⟨rfl,he,_⟩ |hk
      ·cases he
       obtain ⟨gg,bb,hg⟩:=g.kn kp (s2.2 _ _ (s1.2 _ _ hk0))
       have hl:=g.lst (s2.get hj)
       rw [qgf] at hl
       rw [hl]
       exact ⟨gg,bb,0,hg,Nat.zero_le _,fun _=>rfl,fun j v hv=>by simp [qbh] at hv⟩
      ·exact ih.l k y ks T2 hk
    ·cases h
   ·cases h
  ·cases h
end
end Go.Proofs.YtilkebpcjklmfaaGreat.Own
