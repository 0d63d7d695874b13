/- A walk by reckoning: operations that only compute. A walk by reckoning: each operation's outcome is what the model says. -/
import Derived.Test.YtilkebpcjklmfaaGreatFv2
import Derived.Laws.StructEq
import Derived.Laws.IdiomStrings
set_option linter.unusedVariables false
set_option linter.unusedSimpArgs false
namespace Go.Proofs.YtilkebpcjklmfaaGreat.Own
open Go Go.RowKit
set_option maxRecDepth 100000
set_option maxHeartbeats 40000000
section
variable {e:Vl} {σ:List (Nat×Nat×Nat)} {P:Program} {w0:World} {u:Value}
theorem qdo {k:IntKind} {n:Int} (h:RelV e σ (.one (.int k n)) u):u= .int k n:=by cases h with |one h=>cases h;rfl
theorem qjp {b:Bool} (h:RelV e σ (.one (.bool b)) u):u= .bool b:=by cases h with |one h=>cases h;rfl
theorem qks {k off:Nat} (h:RelV e σ (.one (.ptr k off)) u):∃g b c,σ[k]? =some (g,b,c)∧u= .pointer (some ⟨g,b+off,none⟩):=by cases h with |one h=>cases h with |ptr h=>exact ⟨_,_,_,h,rfl⟩
theorem zuu {k off n m:Nat} (h:RelV e σ (.one (.sl k off n m)) u):∃g b c,σ[k]? =some (g,b,c)∧u= .slice (some ⟨g,b+off,none⟩) n m:=by cases h with |one h=>cases h with |sl h=>exact ⟨_,_,_,h,rfl⟩
theorem zae {k n:Nat} (h:RelV e σ (.one (.slo k n)) u):∃g b c,σ[k]? =some (g,b,c)∧u= .slice (some ⟨g,b,none⟩) n c:=by cases h with |one h=>cases h with |slo h=>exact ⟨_,_,_,h,rfl⟩
theorem ycn {k l sz n:Nat} (h:RelV e σ (.one (.slt k l sz n)) u):∃g b c,σ[k]? =some (g,b,c)∧u= .slice (some ⟨g,if c=l then b else b+l * sz,none⟩) n (c - l):=by cases h with |one h=>cases h with |slt h=>exact ⟨_,_,_,h,rfl⟩
theorem ztg (h:RelV e σ (.one .nils) u):u= .slice none 0 0:=by cases h with |one h=>cases h;rfl
theorem qnb {s:ByteArray} (h:RelV e σ (.one (.str s)) u):u= .string s:=by cases h with |one h=>cases h;rfl
theorem iv_fn {f:Nat} {cs:List C} (h:RelV e σ (.one (.fn f cs)) u):∃vs,RelCs e σ cs vs∧u= .func (.func f) #[] (List.toArray vs):=by cases h with |one h=>cases h with |fn h=>exact ⟨_,h,rfl⟩
theorem qg2 {cs:List C} (h:RelV e σ (.agg cs) u):∃vs,RelCs e σ cs vs∧u= .agg (List.toArray vs):=by cases h with |agg h=>exact ⟨_,h,rfl⟩
theorem zn6 {xs:List V} (h:RelV e σ (.tup xs) u):∃vs,RelVs e σ xs vs∧u= .tuple (List.toArray vs):=by cases h with |tup h=>exact ⟨_,h,rfl⟩
theorem qd0 {c:C} (h:RelV e σ (.one c) u):RelC e σ c u:=by cases h with |one h=>exact h
theorem RelCs.get:∀{cs:List C} {vs:List Value},RelCs e σ cs vs→∀{i:Nat} {c:C},cs[i]? =some c→∃v,vs[i]? =some v∧RelC e σ c v
 |_,_,.nil,i,c,h=>by simp at h
 |_,_,.cons h t,0,c,hc=>by simp at hc;subst hc;exact ⟨_,rfl,h⟩
 |_,_,.cons h t,i+1,c,hc=>by simp at hc;obtain ⟨v,h1,h2⟩:=RelCs.get t hc;exact ⟨v,by simpa using h1,h2⟩
theorem RelCs.drop:∀{cs:List C} {vs:List Value},RelCs e σ cs vs→∀(n:Nat),RelCs e σ (cs.drop n) (vs.drop n)
 |_,_,.nil,n=>by simpa using .nil
 |_,_,.cons h t,0=> .cons h t
 |_,_,.cons h t,n+1=>by simpa using RelCs.drop t n
theorem RelCs.take:∀{cs:List C} {vs:List Value},RelCs e σ cs vs→∀(n:Nat),RelCs e σ (cs.take n) (vs.take n)
 |_,_,.nil,n=>by simpa using .nil
 |_,_,.cons h t,0=> .nil
 |_,_,.cons h t,n+1=>by simpa using .cons h (RelCs.take t n)
theorem RelCs.app:∀{cs:List C} {vs:List Value},RelCs e σ cs vs→∀{cs':List C} {vs':List Value},RelCs e σ cs' vs'→RelCs e σ (cs++cs') (vs++vs')
 |_,_,.nil,_,_,h=>h
 |_,_,.cons h t,_,_,h'=> .cons h (RelCs.app t h')
theorem RelVs.get:∀{cs:List V} {vs:List Value},RelVs e σ cs vs→∀{i:Nat} {c:V},cs[i]? =some c→∃v,vs[i]? =some v∧RelV e σ c v
 |_,_,.nil,i,c,h=>by simp at h
 |_,_,.cons h t,0,c,hc=>by simp at hc;subst hc;exact ⟨_,rfl,h⟩
 |_,_,.cons h t,i+1,c,hc=>by simp at hc;obtain ⟨v,h1,h2⟩:=RelVs.get t hc;exact ⟨v,by simpa using h1,h2⟩
theorem RelVs.app:∀{cs:List V} {vs:List Value},RelVs e σ cs vs→∀{cs':List V} {vs':List Value},RelVs e σ cs' vs'→RelVs e σ (cs++cs') (vs++vs')
 |_,_,.nil,_,_,h=>h
 |_,_,.cons h t,_,_,h'=> .cons h (RelVs.app t h')
theorem RelVs.len:∀{cs:List V} {vs:List Value},RelVs e σ cs vs→vs.length=cs.length
 |_,_,.nil=>rfl
 |_,_,.cons h t=>by simp [RelVs.len t]
theorem RelCs.ofOnes:∀{cs:List C} {vs:List Value},RelCs e σ cs vs→RelVs e σ (cs.map .one) vs
 |_,_,.nil=> .nil
 |_,_,.cons h t=> .cons (.one h) (RelCs.ofOnes t)
theorem qn9 {cs us:List C} {vs xs:List Value} (h:RelCs e σ cs vs) (h':RelCs e σ us xs) (off:Nat):RelCs e σ (qm1 cs off us) (qdy vs off xs):=by
 unfold qm1 qdy
 rw [h'.len]
 exact (h.take off).app (h'.app (h.drop _))
theorem qgl {t:TypeId} {cs:List C} {vs:List Value} {off:Nat} {x:V} (h:qnq P t cs off=some x) (hc:RelCs e σ cs vs):
  (∃n us,qcq P t=some (true,n)∧(vs.drop off).take n=us∧us.length=n∧RelV e σ x (.agg (List.toArray us))∧x≠.tup [])∨(∃n v,qcq P t=some (false,n)∧vs[off]? =some v∧RelV e σ x v∧oneC v=true):=by
 unfold qnq at h
 split at h
 ·rename_i n hi
  simp only at h
  cases hb:Nat.beq ((cs.drop off).take n).length n with
  |true=>
   simp only [hb,cond_true,Option.some.injEq] at h
   subst h
   have hr:=(hc.drop off).take n
   exact .inl ⟨n,_,hi,rfl,by rw [hr.len];exact Nat.eq_of_beq_eq_true hb,.agg hr,by simp⟩
  |false=>rw [hb,cond_false] at h;cases h
 ·rename_i n hi
  split at h
  ·rename_i c hcc
   cases h
   obtain ⟨v,h1,h2⟩:=hc.get hcc
   exact .inr ⟨n,v,hi,h1,.one h2,h2.one⟩
  ·cases h
 ·cases h
theorem qh2 {v:V} {u:Value} {cs:List C} (h:v.cs=some cs) (hv:RelV e σ v u):RelCs e σ cs u.cells.toList:=by
 cases v with
 |one c=>
  cases h
  have hc:=qd0 hv
  have:u.cells.toList=[u]:=by have:=hc.one;cases u<;>simp [oneC] at this<;>rfl
  rw [this];exact .cons hc .nil
 |agg l=>cases h;obtain ⟨vs,h1,rfl⟩:=qg2 hv;exact h1
 |tup l=>cases h
 |any i=>cases h
inductive PRel (e:Vl) (σ:List (Nat×Nat×Nat)):List (Nat×V)→List (Nat×Value)→Prop where
 |nil:PRel e σ [] []
 |cons {i v u l l'} (h:RelV e σ v u) (t:PRel e σ l l'):PRel e σ ((i,v)::l) ((i,u)::l')
variable {ρ':Operand→Option V} {ρ:Operand→Value}
theorem qq7 (hρ:∀x v,ρ' x=some v→RelV e σ v (ρ x)):∀{ps:List (Nat×Operand)} {l:List (Nat×V)},opsL ρ' ps=some l→PRel e σ l (ps.map fun x=>(x.1,ρ x.2))
 |[],_,h=>by cases h;exact .nil
 |(i,x)::r,l,h=>by
  simp only [opsL] at h
  split at h
  ·rename_i v l' hv hl;cases h;exact .cons (hρ _ _ hv) (qq7 hρ hl)
  ·cases h
theorem qle (hρ:∀x v,ρ' x=some v→RelV e σ v (ρ x)):∀{ps:List Operand} {l:List V},q45 ρ' ps=some l→RelVs e σ l (ps.map ρ)
 |[],_,h=>by cases h;exact .nil
 |x::r,l,h=>by
  simp only [q45] at h
  split at h
  ·rename_i v l' hv hl;cases h;exact .cons (hρ _ _ hv) (qle hρ hl)
  ·cases h
theorem qpq {pl:List (Nat×Nat)}:∀{l:List (Nat×V)} {l':List (Nat×Value)},PRel e σ l l'→∀{z cs:List C} {z':List Value},fillC pl z l=some cs→RelCs e σ z z'→∃vs,RelCs e σ cs vs∧qpu pl z' l'=some vs
 |_,_,.nil,z,cs,z',h,hz=>by cases h;exact ⟨z',hz,rfl⟩
 |_,_,.cons (i:=i) (v:=v) (u:=u) hv t,z,cs,z',h,hz=>by
  simp only [fillC] at h
  split at h
  ·rename_i off n us hp hu
   have hc:=qh2 hu hv
   cases hb:(Nat.beq us.length n&&Nat.ble (off+us.length) z.length) with
   |true=>
    simp only [hb,cond_true] at h
    obtain ⟨vs,h1,h2⟩:=qpq t h (qn9 hz hc off)
    refine ⟨vs,h1,?_⟩
    have hsz:u.cells.size=us.length:=by rw [←hc.len];simp
    simp only [qpu,hp,hsz,hz.len,hb,cond_true]
    exact h2
   |false=>simp [hb] at h
  ·cases h
theorem ql4:∀(d:Nat) {t:TypeId} {x y:V} {b:Bool} {u v:Value},eqC P d t x y=some b→RelV e σ x u→RelV e σ y v→EqR P d t u v b
 |0,_,_,_,_,_,_,h,_,_=>by cases h
 |d+1,t,x,y,b,u,v,h,hx,hy=>by
  simp only [eqC] at h
  split at h
  ·rename_i k k1 a k2 b' hu
   cases hk:decide (k1=k2) with
   |false=>simp [hk] at h
   |true=>
    have hk:=of_decide_eq_true hk
    subst hk
    simp only [decide_true,cond_true,Option.some.injEq] at h
    subst h
    rw [qdo hx,qdo hy]
    intro w
    simp [Op.equalIn,Sem.run_bind,run_underlying hu w]
  ·rename_i a b' hu
   cases h
   rw [qjp hx,qjp hy]
   exact zx0 (hi:=hu)
  ·rename_i fs xs ys hu
   cases hs:P.stoodInHeld t with
   |true=>simp [hs] at h
   |false=>
    simp only [hs,cond_false] at h
    obtain ⟨us,hus,rfl⟩:=qg2 hx
    obtain ⟨vs,hvs,rfl⟩:=qg2 hy
    have key:∀(fl:List Field) (b:Bool),fl.foldr (fun f r=>bif decide (f.name= "_") then none else
      match qnq P f.type xs f.offset,qnq P f.type ys f.offset with
      |some u,some v=>(match eqC P d f.type u v,r with |some b,some b'=>some (b&&b') |_,_=>none)
      |_,_=>none) (some true)=some b→FEq P d us vs fl b:=by
     intro fl
     induction fl with
     |nil=>intro b hb;cases hb;exact .nil
     |cons f fl ih=>
      intro b hb
      simp only [List.foldr_cons] at hb
      cases hn:decide (f.name= "_") with
      |true=>simp [hn] at hb
      |false=>
       simp only [hn,cond_false] at hb
       split at hb
       ·rename_i p q hp hq
        split at hb
        ·rename_i b1 b2 h1 h2
         cases hb
         have hne:f.name≠ "_":=of_decide_eq_false hn
         rcases qgl hp hus with ⟨n,ps,i1,i2,i3,i4,_⟩ |⟨n,pv,i1,i2,i3,i4⟩
         ·rcases qgl hq hvs with ⟨n',qs,j1,j2,j3,j4,_⟩ |⟨n',qv,j1,j2,j3,j4⟩
          ·rw [i1] at j1;cases j1
           exact .agg hne i1 i2 j2 (ql4 d h1 i4 j4) (ih _ h2)
          ·rw [i1] at j1;cases j1
         ·rcases qgl hq hvs with ⟨n',qs,j1,j2,j3,j4,_⟩ |⟨n',qv,j1,j2,j3,j4⟩
          ·rw [i1] at j1;cases j1
          ·rw [i1] at j1;cases j1
           exact .one hne i1 i2 j2 (ql4 d h1 i3 j3) (ih _ h2)
        ·cases hb
       ·cases hb
    have hf:=key fs.toList b h
    exact qg9 (fs:=fs.toList) (by simpa using hu) hs hf
  ·cases h
theorem q0v:∀{fs:List Field} {pl:List (Nat×Nat)},z9i P fs=some pl→∀w,(fs.mapM fun f=>do pure (f.offset,←sizeOf f.type):Sem (List (Nat×Nat))).run P w= .ok pl w
 |[],_,h,w=>by cases h;simp
 |f::r,pl,h,w=>by
  simp only [z9i] at h
  split at h
  ·rename_i b n l hi hl
   cases h
   simp only [List.mapM_cons,Sem.run_bind,qde hi w,Result.andThen_ok,Sem.run_pure,q0v hl w]
  ·cases h
theorem bi_of {t:TypeId} {fs:Array Field} {z:List Value} {pl:List (Nat×Nat)} (hu:P.underlying t=some (.struct fs)) (hz:qdg P t=some (.agg (List.toArray z))) (hp:z9i P fs.toList=some pl):BI P t z pl:=by
 refine ⟨hz,fun w=> ?_⟩
 simp only [Sem.run_bind,run_underlying hu w,Result.andThen_ok]
 rw [Array.mapM_eq_mapM_toList]
 simp only [Sem.run_map,q0v hp w]
 rfl
theorem qqy {p p':Nat→Option (Nat×Nat)} (h:∀i x,p i=some x→p' i=some x):∀(l:List (Nat×Value)) (cs r:Array Value),Instr.fill p cs l=some r→Instr.fill p' cs l=some r
 |[],_,_,h'=>h'
 |(i,v)::l,cs,r,h'=>by
  simp only [Instr.fill] at h' ⊢
  cases hp:p i with
  |none=>simp [hp] at h'
  |some x=>
   simp only [hp] at h'
   simp only [h i x hp]
   split at h'
   ·cases h'
   ·rename_i hc;rw [if_neg hc];exact qqy h l _ _ h'
variable {o:Oper} {L:List Blk}
theorem q5h {t el:TypeId} {len m:Nat} {b:Bool} {z:List Value} (hu:P.underlying t=some (.array len el)) (hi:qcq P el=some (b,m)) (hz:qdg P t=some (.agg (List.toArray z))) {parts:Array (Nat×Operand)} {pv:List (Nat×Value)} {cs:List Value} (ho:o.op= .build t parts)
  (hp:parts.toList.map (fun x=>(x.1,ρ x.2))=pv) (hf:qpu ((List.range len).map fun i=>(i * m,m)) z pv=some cs):QV P w0 o ρ L (.agg (List.toArray cs)):=
 q_of fun w _=>by
  simp only [execOp,ho]
  refine qgt ?_
  have hzr:(zeroValue t).run P w= .ok (.agg (List.toArray z)) w:=by
   unfold qdg at hz
   simp only [Option.bind_eq_some_iff] at hz
   obtain ⟨i,h1,h2⟩:=hz
   simp [zeroValue,typeInfo,h1,h2,go_sem]
  have hpv:(parts.map fun (x:Nat×Operand)=>(x.1,ρ x.2)).toList=pv:=by rw [←hp];simp
  have hfe:=qv9 _ _ _ _ hf
  have hfe2:=qqy (p':=fun i=>some (i * m,m)) (fun i x hx=>by
   simp only [List.getElem?_toArray,List.getElem?_map,Option.map_eq_some_iff] at hx
   obtain ⟨j,hj,rfl⟩:=hx
   have:j=i:=by
    rw [List.getElem?_range] at hj
    ·cases hj;rfl
    ·by_cases q:i<len
     ·exact q
     ·rw [List.getElem?_eq_none (by simpa using q)] at hj;cases hj
   subst this;rfl) _ _ _ hfe
  rw [←hpv] at hfe2
  unfold Instr.build
  simp only [Sem.run_bind,hzr,Result.andThen_ok,run_underlying hu w,qde hi w]
  show Sem.run P (match Instr.fill (fun i=>some (i * m,m)) (Value.agg (List.toArray z)).cells (parts.map fun (x:Nat×Operand)=>(x.1,ρ x.2)).toList with |some cells=>pure (Value.agg cells) |_=>stuck "build: a part of the wrong size") w=_
  rw [show Instr.fill (fun i=>some (i * m,m)) (Value.agg (List.toArray z)).cells (parts.map fun (x:Nat×Operand)=>(x.1,ρ x.2)).toList=some (List.toArray cs) from hfe2]
  rfl
theorem qna {t:TypeId} {n:Nat} (hi:qcq P t=some (true,n)) {x:Operand} {g off:Nat} {vs:List Value} (ho:o.op= .load t x) (hx:ρ x= .pointer (some ⟨g,off,none⟩)) (hl:vs.length=n)
  (hc:∀w,Own w0 L w→∀j v,vs[j]? =some v→w.cell? ⟨g,off+j,none⟩=some v):QV P w0 o ρ L (.agg (List.toArray vs)):=
 q_of fun w hw=>by
  simp only [execOp,ho,hx,Instr.loadAt,Instr.sureAddr]
  exact qgt (qeh hi hl (hc w hw))
theorem qng {t:TypeId} {n:Nat} (hi:qcq P t=some (false,n)) {x:Operand} {g off:Nat} {v:Value} (ho:o.op= .load t x) (hx:ρ x= .pointer (some ⟨g,off,none⟩))
  (hc:∀w,Own w0 L w→w.cell? ⟨g,off,none⟩=some v):QV P w0 o ρ L v:=
 q_of fun w hw=>by
  simp only [execOp,ho,hx,Instr.loadAt,Instr.sureAddr]
  exact qgt (qed hi (hc w hw))
theorem qvw {t el len n:Nat} {b:Bool} (ha:P.underlying t=some (.array len el)) (hi:qcq P el=some (b,n)) {x y:Operand} {g off:Nat} {k:IntKind} {i:Int} (ho:o.op= .indexAddr t x y) (hx:ρ x= .pointer (some ⟨g,off,none⟩)) (hy:ρ y= .int k i)
  (hb:0≤i∧i<(len:Int)):QV P w0 o ρ L (.pointer (some ⟨g,off+i.toNat * n,none⟩)):=
 q_of fun w _=>by
  simp only [execOp,ho,hx,hy]
  refine qgt ?_
  simp only [Instr.indexAt,asIntOf,Sem.run_bind,Sem.run_pure,Result.andThen_ok,run_underlying ha w,Instr.sureAddr,hb,and_self,if_true,qde hi w,qds]
theorem qn4 {t:TypeId} (hs:P.underlying t=some .string) {x y:Operand} {s:ByteArray} {k:IntKind} {i:Int} {b:UInt8} (ho:o.op= .index t x y) (hx:ρ x= .string s) (hy:ρ y= .int k i) (h0:0≤i) (hb:s[i.toNat]? =some b):QV P w0 o ρ L (.int .u8 b.toNat):=
 q_of fun w _=>by
  simp only [execOp,ho,hx,hy]
  refine qgt ?_
  simp only [Instr.index,asIntOf,Sem.run_bind,Sem.run_pure,Result.andThen_ok,run_underlying hs w,h0,if_true,hb]
theorem qwy {t el sz:Nat} {bb:Bool} (hs:P.underlying t=some (.slice el)) (hi:qcq P el=some (bb,sz)) {x lo:Operand} {g b n c l:Nat} {k:IntKind} (ho:o.op= .slice t x (some lo) none none) (hx:ρ x= .slice (some ⟨g,b,none⟩) n c) (hl:ρ lo= .int k (Int.ofNat l)) (hle:l≤n):
  QV P w0 o ρ L (.slice (some ⟨g,if c=l then b else b+l * sz,none⟩) (n - l) (c - l)):=
 q_of fun w _=>by
  have h1:(0:Int)≤Int.ofNat l∧Int.ofNat l≤(n:Int):=⟨Int.natCast_nonneg l,by show (l:Int)≤n;omega⟩
  simp only [execOp,ho,hx,hl,Option.map_some,Option.map_none]
  refine qgt ?_
  simp only [Instr.sliceAt,Instr.slice,Sem.run_bind,run_underlying hs w,Result.andThen_ok,Instr.sliceBounds,Instr.sliceBound,asIntOf,Sem.run_pure,h1,and_self,if_true,qde hi w,Option.isSome_none]
  by_cases q:c=l
  ·simp [q]
  ·simp [q,qds]
theorem ye8 {c:Call} {x y:Operand} {k k':IntKind} {a b:Int} (ho:o.op= .call c) (hc:c.callee= .builtin .max) (ha:c.args=#[x,y]) (hx:ρ x= .int k a) (hy:ρ y= .int k' b):QV P w0 o ρ L (.int k (bif decide (b>a) then b else a)):=
 q_of fun w _=>by
  have:(if b>a then b else a)=(bif decide (b>a) then b else a):=by by_cases q:b>a<;>simp [q]
  rw [←this]
  simp [execOp,ho,resolve,hc,ha,hx,hy,Sem.run_bind,invoke,builtin,Builtin.max_,Builtin.max2]
theorem yft {c:Call} {x y:Operand} {k k':IntKind} {a b:Int} (ho:o.op= .call c) (hc:c.callee= .builtin .min) (ha:c.args=#[x,y]) (hx:ρ x= .int k a) (hy:ρ y= .int k' b):QV P w0 o ρ L (.int k (bif decide (b<a) then b else a)):=
 q_of fun w _=>by
  have:(if b<a then b else a)=(bif decide (b<a) then b else a):=by by_cases q:b<a<;>simp [q]
  rw [←this]
  simp [execOp,ho,resolve,hc,ha,hx,hy,Sem.run_bind,invoke,builtin,Builtin.min_,Builtin.min2]
theorem qpr {op:BinOp} {t ty:TypeId} {x y:Operand} {k k':IntKind} {a b:Int} {z:C} (h:zsf op k a k' b=some z) (ho:o.op= .binOp op t x y ty) (hx:ρ x= .int k a) (hy:ρ y= .int k' b):∃u,RelC e σ z u∧QV P w0 o ρ L u:=by
 unfold zsf at h
 split at h
 ·cases hb:decide (b<0) with
  |true=>simp [hb] at h
  |false=>simp only [hb,cond_false,Option.some.injEq] at h;subst h;exact ⟨_,.int,zyg ho hx hy hb⟩
 ·cases hb:decide (b<0) with
  |true=>simp [hb] at h
  |false=>simp only [hb,cond_false,Option.some.injEq] at h;subst h;exact ⟨_,.int,zuc ho hx hy hb⟩
 ·cases hk:decide (k=k') with
  |false=>simp [hk] at h
  |true=>
   have hk:=of_decide_eq_true hk
   subst hk
   simp only [decide_true,cond_true] at h
   split at h
   case h_13=>
    cases hb:(b==0) with
    |true=>simp [hb] at h
    |false=>simp only [hb,cond_false,Option.some.injEq] at h;subst h;exact ⟨_,.int,z16 ho hx hy hb⟩
   case h_14=>
    cases hb:(b==0) with
    |true=>simp [hb] at h
    |false=>simp only [hb,cond_false,Option.some.injEq] at h;subst h;exact ⟨_,.int,zlb ho hx hy hb⟩
   case h_15=>cases h
   all_goals (cases h;first |exact ⟨_,.int,qwa ho hx hy rfl⟩ |exact ⟨_,.bool,qwa ho hx hy rfl⟩)
theorem zef {k:Nat} {x:SE} (h:RelV e σ (.one (.sli k x)) u):∃g b c,σ[k]? =some (g,b,c)∧u=slV (sat (x.lst e).length) g b c:=by cases h with |one h=>cases h with |sli h=>exact ⟨_,_,_,h,rfl⟩
theorem q0j {k sz off:Nat} {i:SE} (h:RelV e σ (.one (.pel k i sz off)) u):∃g b c,σ[k]? =some (g,b,c)∧u= .pointer (some ⟨g,b+((i.val e).toNat * sz+off),none⟩):=by cases h with |one h=>cases h with |pel h=>exact ⟨_,_,_,h,rfl⟩
theorem qon {x:SE} (h:RelV e σ (.one (.sts x)) u):u= .string (qa_ (x.lst e)):=by cases h with |one h=>cases h;rfl
theorem qbu (x:SE):RelC e σ (.opq x) (eS e x):= .opq (zpq e x)
theorem qgu {c:C} {k:IntKind} {x:SE} {u:Value} (h:toI c=some (k,x)) (hr:RelC e σ c u):u= .int k (x.val e)∧x.ty=some (some k):=by
 unfold toI at h
 split at h
 ·rename_i k' n
  cases hb:decide (k'.wrap n=n) with
  |false=>rw [hb,cond_false] at h;cases h
  |true=>
   rw [hb,cond_true] at h;cases h
   cases hr
   simp only [SE.val,SE.ty,of_decide_eq_true hb,and_self]
 ·rename_i y
  split at h
  ·rename_i k' hk;cases h;cases hr;exact ⟨by simp only [eS,hk],hk⟩
  ·cases h
 ·cases h
theorem qos {c:C} {x:SE} {u:Value} (h:toB c=some x) (hr:RelC e σ c u):u= .bool (x.val e !=0)∧x.ty=some none:=by
 unfold toB at h
 split at h
 ·rename_i b;cases h;cases hr
  exact ⟨by cases b<;>simp [SE.val,qa8,b2i,IntKind.wrap_i64],rfl⟩
 ·rename_i y
  split at h
  ·rename_i hk;cases h;cases hr;exact ⟨by simp only [eS,hk],hk⟩
  ·cases h
 ·cases h
theorem q7y (b:Bool):b2i b=0∨b2i b=1:=by cases b<;>simp [b2i]
theorem qk7 {k:Option IntKind} {c:C} {x:SE} {u:Value} (h:toK k c=some x) (hr:RelC e σ c u):u=qf2 k (x.val e)∧inK k (x.val e):=by
 unfold toK at h
 split at h
 ·rename_i k
  split at h
  ·rename_i k' y hy
   cases hk:decide (k=k') with
   |false=>rw [hk,cond_false] at h;cases h
   |true=>
    rw [hk,cond_true] at h;cases h
    have hk:=of_decide_eq_true hk
    subst hk
    obtain ⟨e1,e2⟩:=qgu hy hr
    exact ⟨e1,qbn e e2⟩
  ·cases h
 ·obtain ⟨e1,e2⟩:=qos h hr
  refine ⟨e1,?_⟩
  show x.val e=0∨x.val e=1
  rw [qi1 e2]
  exact q7y _
theorem qhl:∀(l:List SE),(seL l).vals e=l.map (SE.val e)
 |[]=>by simp [seL,SE.vals]
 |x::l=>by simp [seL,SE.vals,qhl l]
theorem qh6:∀{ks:Ks} {cs:List C} {l:List SE} {vs:List Value} {j:Nat} {el:List Int},qko ks cs=some l→RelCs e σ cs vs→(∀i,i<l.length→el.getD (j+i) 0=(l.map (SE.val e)).getD i 0)→vs=qgh ks j el∧l.length=ks.length
 |[],[],l,vs,j,el,h,hr,_=>by cases h;cases hr;exact ⟨rfl,rfl⟩
 |k::ks,c::cs,l,vs,j,el,h,hr,hel=>by
  simp only [qko] at h
  split at h
  ·rename_i x l' hx hl
   cases h
   cases hr with |cons h1 h2=>
   obtain ⟨e1,e2⟩:=qk7 hx h1
   obtain ⟨e3,e4⟩:=qh6 (j:=j+1) (el:=el) hl h2 fun i hi=>by
    have:=hel (i+1) (by simp;omega)
    rw [show j+1+i=j+(i+1) by omega];simpa using this
   have e0:=hel 0 (by simp)
   simp only [Nat.add_zero,List.map_cons,List.getD_cons_zero] at e0
   exact ⟨by rw [qgh,e0,q1d e2,e1,e3],by simp [e4]⟩
  ·cases h
 |[],c::cs,l,vs,_,_,h,hr,_=>by cases h
 |k::ks,[],l,vs,_,_,h,hr,_=>by cases h
theorem qf3 (a9s:SE):(SE.lone a9s).lst e=[a9s.vals e]:=by simp only [SE.lst,SE.val,qan]
theorem qc3 (x y:SE):(SE.lcat x y).lst e=x.lst e++y.lst e:=by simp only [SE.lst,SE.val,qan]
theorem qgf:(SE.lnil).lst e=[]:=by simp only [SE.lst,SE.val,qan]
theorem qgi (x i:SE) (off:Nat) (a9s:SE):(SE.lset x i off a9s).lst e=qkn (x.lst e) (i.val e).toNat off (a9s.vals e):=by simp only [SE.lst,SE.val,qan]
theorem qji (l:List Nat):(SE.lbs l).lst e=l.map fun b=>[Int.ofNat b]:=by simp only [SE.lst,SE.val,qan]
theorem q5q (l:List (List Int)) (i off:Nat) {a b:List Int} (h:a.length=b.length):qkn (qkn l i off a) i off b=qkn l i off b:=by
 unfold qkn
 rw [List.set_set]
 by_cases hi:i<l.length
 ·congr 1
  rw [List.getD_eq_getElem?_getD,List.getElem?_set_self hi,Option.getD_some]
  unfold qb1
  have hl:∀r:List Int,(List.map (fun j=>if off≤j∧j<off+a.length then a.getD (j - off) 0 else r.getD j 0) (List.range (max r.length (off+a.length)))).length=max r.length (off+a.length):=fun r=>by simp
  rw [hl]
  apply List.ext_getElem
  ·simp;omega
  ·intro j h1 h2
   simp only [List.length_map,List.length_range] at h1 h2
   simp only [List.getElem_map,List.getElem_range]
   by_cases q:off≤j∧j<off+b.length
   ·rw [if_pos q,if_pos q]
   ·rw [if_neg q,if_neg q,List.getD_eq_getElem?_getD,List.getElem?_map,List.getElem?_range (by omega)]
    simp only [Option.map_some,Option.getD_some]
    rw [if_neg (by rw [h];exact q)]
 ·rw [List.set_eq_of_length_le (by omega),List.set_eq_of_length_le (by omega)]
theorem q24 (l:List (List Int)) (i off:Nat) (a9s:List Int):(qkn l i off a9s).length=l.length:=by unfold qkn;rw [List.length_set]
theorem qfd:∀(x:SE),(qki x).val e=((sat (x.lst e).length:Nat):Int)∧(qki x).ty=some (some .i64)
 | .lset x i off a9s=>by
  obtain ⟨h1,h2⟩:=qfd x
  simp only [qki]
  rw [qgi,q24];exact ⟨h1,h2⟩
 | .ivar _ _ | .bvar _ | .lit _ _ | .bin _ _ _ _ | .cmp _ _ _ | .and _ _ | .mx _ _ _ | .mn _ _ _ | .conv _ _ | .not _ | .app _ _ _ _ | .nil | .cons _ _ | .len _ | .el _ _ _ _ | .seq _ _ | .lvar _ | .lap _ _ _ | .lnil | .lcat _ _ | .lone _ | .lrep _ _ | .ltk _ _ | .ldr _ _ | .lbs _ | .wd _ _=>by
  simp only [qki]
  exact ⟨qgn _ _,rfl⟩
theorem qpc (x:SE):eS e (qki x)= .int .i64 ((sat (x.lst e).length:Nat):Int):=by
 obtain ⟨h1,h2⟩:=qfd (e:=e) x
 rw [qne h2,h1];rfl
def DOK (c:Cfg) (e:Vl):Prop:=∀x b,c.D x=some b→e.s x= .bool b
theorem qr2 {c:Cfg} (hd:DOK c e) {op:BinOp} {x y:SE} (h:(match c.D (.cmp op x y) with |some b=>b |none=>false)=true):qa8 op (x.val e) (y.val e)=true:=by
 split at h
 ·rename_i b hb
  have:=hd _ _ hb
  rw [h] at this
  have h2:eS e (.cmp op x y)= .bool true:=this
  rw [qf5] at h2
  simpa using h2
 ·cases h
theorem qul {c:Cfg} (hd:DOK c e) {i:SE} (h:geB c i=true):0≤i.val e:=by
 unfold geB at h
 split at h
 ·simp only [SE.val];exact of_decide_eq_true h
 ·have:=qr2 hd h
  have h0:(SE.lit .i64 0).val e=0:=by simp only [SE.val];rfl
  rw [h0] at this
  exact of_decide_eq_true this
theorem qln {c:Cfg} (hd:DOK c e) {i x:SE} (h:inB c i x=true):0≤i.val e∧(i.val e).toNat<sat (x.lst e).length:=by
 simp only [inB,Bool.and_eq_true] at h
 have h1:=qul hd h.1
 have h2:=qr2 hd h.2
 rw [(qfd x).1] at h2
 have h2:i.val e<((sat (x.lst e).length:Nat):Int):=of_decide_eq_true h2
 omega
theorem zpd {D:SE→Option Bool} (hd:∀x b,D x=some b→e.s x= .bool b) {x:SE} {m:Nat} (h:D (.cmp .leq (qki x) (.lit .i64 m))=some true) (hm:m≤1000000):(x.lst e).length≤m:=by
 have:=qr2 (c:={P:=default,X:=fun _ _=>none,H:=fun _ _=>none,G:=fun _ _=>none,D:=D,E:=fun _ _=>[],S:=fun _ _=>[],L:=fun _ _ _ _ _ _ _=>none}) hd (x:=qki x) (y:= .lit .i64 m) (op:= .leq) (by simp only [h])
 rw [(qfd x).1] at this
 have h0:(SE.lit .i64 m).val e=m:=by simp only [SE.val];exact qck (by unfold maxLen;omega)
 rw [h0] at this
 have h2:((sat (x.lst e).length:Nat):Int)≤m:=of_decide_eq_true this
 exact qei (by omega) (by unfold maxLen;omega)
theorem quu {D:SE→Option Bool} (hd:∀x b,D x=some b→e.s x= .bool b) {x:SE} (h:sm6 D x=true):(x.lst e).length≤1000000:=by
 unfold sm6 at h
 split at h
 ·rename_i b hb;subst h;exact zpd hd hb (Nat.le_refl _)
 ·cases h
theorem q46 {D:SE→Option Bool} (hd:∀x b,D x=some b→e.s x= .bool b):∀{x:SE} {n:Nat},zg_ D x=some n→(x.lst e).length≤n:=by
 intro x
 induction x with
 |lcat a b iha ihb=>
  intro n h
  simp only [zg_] at h
  split at h
  ·rename_i nb hb
   split at h
   ·rename_i na ha
    cases h
    rw [qc3,List.length_append]
    exact Nat.add_le_add (iha ha) (ihb hb)
   ·cases h
  ·cases h
 |lnil=>intro n h;rw [qgf];exact Nat.zero_le _
 |lone a=>intro n h;cases h;rw [qf3];simp
 |lbs l=>intro n h;cases h;rw [qji,List.length_map];exact Nat.le_refl _
 |ldr x i ih _=>
  intro n h
  simp only [zg_] at h
  have:(SE.ldr x i).lst e=(x.lst e).drop (i.val e).toNat:=by simp only [SE.lst,SE.val,qan]
  rw [this,List.length_drop]
  exact Nat.le_trans (Nat.sub_le _ _) (ih h)
 |ltk x i ih _=>
  intro n h
  simp only [zg_] at h
  have:(SE.ltk x i).lst e=(x.lst e).take (i.val e).toNat:=by simp only [SE.lst,SE.val,qan]
  rw [this,List.length_take]
  exact Nat.le_trans (Nat.min_le_right _ _) (ih h)
 |_=>
  intro n h
  unfold zg_ at h
  split at h
  ·rename_i hb;cases h;exact zpd hd hb (by decide)
  ·cases h
theorem qn0 {D:SE→Option Bool} (hd:∀x b,D x=some b→e.s x= .bool b):∀{x:SE},smX D x=true→(x.lst e).length≤1000000:=by
 intro x
 induction x with
 |lnil=>intro _;rw [qgf];exact Nat.zero_le _
 |lone a _=>intro _;rw [qf3];simp
 |lbs l=>intro h;simp only [smX] at h;rw [qji,List.length_map];exact Nat.le_of_ble_eq_true h
 |ldr x i ih _=>
  intro h
  simp only [smX] at h
  have:(SE.ldr x i).lst e=(x.lst e).drop (i.val e).toNat:=by simp only [SE.lst,SE.val,qan]
  rw [this,List.length_drop]
  exact Nat.le_trans (Nat.sub_le _ _) (ih h)
 |ltk x i ih _=>
  intro h
  simp only [smX] at h
  have:(SE.ltk x i).lst e=(x.lst e).take (i.val e).toNat:=by simp only [SE.lst,SE.val,qan]
  rw [this,List.length_take]
  exact Nat.le_trans (Nat.min_le_right _ _) (ih h)
 |lcat a b _ _=>
  intro h
  simp only [smX] at h
  split at h
  ·rename_i n hn;exact Nat.le_trans (q46 hd hn) (Nat.le_of_ble_eq_true h)
  ·exact quu hd h
 |_=>
  intro h
  unfold smX at h
  exact quu hd h
theorem qgm {c:Cfg} (hd:DOK c e) {x:SE} (h:smB c x=true):(x.lst e).length≤1000000:=qn0 hd h
theorem qy_ {v:V} {i:SE} {u:Value} (h:toIx v=some i) (hr:RelV e σ v u):∃k,u= .int k (i.val e):=by
 unfold toIx at h
 split at h
 ·split at h
  ·rename_i k x hx;cases h
   obtain ⟨e1,_⟩:=qgu hx (qd0 hr)
   exact ⟨_,e1⟩
  ·cases h
 ·cases h
theorem quq (k:Option IntKind) (x i:SE) (j:Nat):RelC e σ (.opq (.el k x i j)) (qf2 k (wrK k (((x.lst e).getD (i.val e).toNat []).getD j 0))):=by
 have:=qbu (e:=e) (σ:=σ) (.el k x i j)
 have h2:eS e (.el k x i j)=qf2 k (wrK k (((x.lst e).getD (i.val e).toNat []).getD j 0)):=by
  rw [qne (k:=k) rfl];simp only [SE.val,SE.lst]
 rw [h2] at this;exact this
theorem qla:∀(az:SE),(az.vals e).length=zbj az:=by
 intro az
 induction az with
 |cons a az _ ih=>simp only [SE.vals,zbj,List.length_cons,ih]
 |_=>rfl
theorem zaq:∀(az:SE) (n:Nat) {y:SE},z65 az n=some y→(az.vals e).getD n 0=y.val e:=by
 intro az
 induction az with
 |cons a az _ ih=>
  intro n y h
  cases n with
  |zero=>simp only [z65,Option.some.injEq] at h;subst h;simp only [SE.vals,List.getD_cons_zero]
  |succ n=>simp only [z65] at h;simp only [SE.vals,List.getD_cons_succ];exact ih n h
 |_=>intro n y h;cases n<;>cases h
theorem q55 {x:SE} {k:Option IntKind} (h:x.ty=some k):wrK k (x.val e)=x.val e:=by
 cases k with
 |some k=>exact qbn e h
 |none=>rw [qi1 h];cases (x.val e !=0)<;>rfl
theorem qvi (z i:SE) (off:Nat) (az:SE):(zj6 z i off az).lst e=(SE.lset z i off az).lst e:=by
 unfold zj6
 split
 ·rename_i x i' off' bz
  cases hb:(decide (i'=i)&&(Nat.beq off' off&&Nat.beq (zbj bz) (zbj az))) with
  |false=>rw [cond_false]
  |true=>
   rw [cond_true]
   simp only [Bool.and_eq_true] at hb
   have h1:=of_decide_eq_true hb.1
   have h2:=Nat.eq_of_beq_eq_true hb.2.1
   have h3:=Nat.eq_of_beq_eq_true hb.2.2
   subst h1;subst h2
   rw [qgi,qgi,qgi,q5q _ _ _ (by rw [qla,qla,h3])]
 ·rfl
theorem zc4 (k:Option IntKind) (i:SE) (j:Nat):∀(x:SE),(i.val e).toNat<(x.lst e).length→RelC e σ (.opq (elS k i j x)) (qf2 k (wrK k (((x.lst e).getD (i.val e).toNat []).getD j 0))):=by
 intro x
 induction x with
 |lset x i' off az ihx _ _=>
  intro hi
  simp only [elS]
  cases hd:decide (i'=i) with
  |false=>rw [cond_false];exact quq k _ i j
  |true=>
   rw [cond_true]
   have:=of_decide_eq_true hd
   subst this
   have hl:(x.lst e).length=((SE.lset x i' off az).lst e).length:=by rw [qgi];unfold qkn;rw [List.length_set]
   have hg:((SE.lset x i' off az).lst e).getD (i'.val e).toNat []=qb1 ((x.lst e).getD (i'.val e).toNat []) off (az.vals e):=by
    rw [qgi]
    unfold qkn
    rw [List.getD_eq_getElem?_getD,List.getElem?_set_self (by omega)];rfl
   cases hb:(Nat.ble off j&&Nat.blt j (off+zbj az)) with
   |true=>
    rw [cond_true]
    split
    ·rename_i y hy
     cases ht:decide (y.ty=some k) with
     |false=>rw [cond_false];exact quq k _ i' j
     |true=>
      rw [cond_true]
      have ht:=of_decide_eq_true ht
      simp only [Bool.and_eq_true] at hb
      have h1:=Nat.le_of_ble_eq_true hb.1
      have h2:j<off+zbj az:=by simpa [Nat.blt_eq] using hb.2
      rw [hg,qdu,if_pos ⟨h1,by rw [qla];exact h2⟩,zaq az _ hy,q55 ht]
      have:=qbu (e:=e) (σ:=σ) y
      rw [qne ht] at this
      exact this
    ·exact quq k _ i' j
   |false=>
    rw [cond_false,hg,qdu,if_neg (by
     intro q
     rw [qla] at q
     rw [Nat.ble_eq_true_of_le q.1,Bool.true_and] at hb
     have:Nat.blt j (off+zbj az)=true:=by simpa [Nat.blt_eq] using q.2
     rw [this] at hb;cases hb)]
    exact ihx (by omega)
 |_=>intro _;exact quq k _ i j
theorem q56 (x i:SE) (hi:(i.val e).toNat<(x.lst e).length):∀(ks:Ks) (j:Nat),RelCs e σ (elC x i ks j) (qgh ks j ((x.lst e).getD (i.val e).toNat []))
 |[],_=> .nil
 |k::ks,j=> .cons (zc4 k i j x hi) (q56 x i hi ks (j+1))
theorem q67 {t:TypeId} {x i:SE} {ks:Ks} {off:Nat} {y:V} (hi0:(i.val e).toNat<(x.lst e).length) (h:ztb P t x i ks off=some y):
  (∃n us,qcq P t=some (true,n)∧((qgh ks 0 ((x.lst e).getD (i.val e).toNat [])).drop off).take n=us∧us.length=n∧RelV e σ y (.agg (List.toArray us)))∨(∃n v,qcq P t=some (false,n)∧(qgh ks 0 ((x.lst e).getD (i.val e).toNat []))[off]? =some v∧RelV e σ y v):=by
 unfold ztb at h
 split at h
 ·rename_i n hi
  simp only at h
  cases hb:Nat.beq ((ks.drop off).take n).length n with
  |true=>
   rw [hb,cond_true] at h;cases h
   have e1:((qgh ks 0 ((x.lst e).getD (i.val e).toNat [])).drop off).take n=qgh ((ks.drop off).take n) off ((x.lst e).getD (i.val e).toNat []):=by
    rw [qlr,ql3,Nat.zero_add]
   refine .inl ⟨n,_,hi,e1,by rw [qeq];exact Nat.eq_of_beq_eq_true hb,.agg (q56 x i hi0 _ off)⟩
  |false=>rw [hb,cond_false] at h;cases h
 ·rename_i n hi
  split at h
  ·rename_i k hk
   cases h
   refine .inr ⟨n,_,hi,?_,.one (zc4 k i off x hi0)⟩
   rw [q3a,hk,Nat.zero_add];rfl
  ·cases h
 ·cases h
theorem zhw {n g b c:Nat} (h:0<n):slV n g b c= .slice (some ⟨g,b,none⟩) n (c / 2):=by
 unfold slV;rw [if_neg (by omega)]
theorem qva (s:ByteArray):qa_ ((s.data.toList.map UInt8.toNat).map fun b=>[Int.ofNat b])=s:=by
 unfold qa_
 rw [List.map_map,List.map_map]
 have:∀(l:List UInt8),l.map ((fun el=>UInt8.ofNat (IntKind.u8.wrap (List.getD el 0 0)).toNat) ∘ (fun b=>[Int.ofNat b]) ∘ UInt8.toNat)=l:=by
  intro l
  induction l with
  |nil=>rfl
  |cons b l ih=>
   rw [List.map_cons,ih]
   congr 1
   have hb:b.toNat<256:=b.toNat_lt
   show UInt8.ofNat (IntKind.u8.wrap ((b.toNat:Nat):Int)).toNat=b
   rw [IntKind.wrap_u8']
   have:(((b.toNat:Nat):Int) % 256).toNat=b.toNat:=by omega
   rw [this]
   exact UInt8.ofNat_toNat
 refine (congrArg (fun l:List UInt8=>ByteArray.mk l.toArray) (this s.data.toList)).trans ?_
 cases s;simp
theorem qof (l m:List (List Int)):qa_ (l++m)=qa_ l++qa_ m:=by
 unfold qa_
 apply ByteArray.ext
 simp [ByteArray.data_append]
theorem qd7 (l:List (List Int)):(qa_ l).size=l.length:=by
 unfold qa_;simp [ByteArray.size]
theorem q1h {c:C} {x:SE} {u:Value} (h:strT c=some x) (hr:RelC e σ c u):u= .string (qa_ (x.lst e)):=by
 unfold strT at h
 split at h
 ·rename_i s;cases h;cases hr;rw [qji,qva]
 ·cases h;cases hr;rfl
 ·cases h
end
def GOK (c:Cfg) (e:Vl) (σ0:List (Nat×Nat×Nat)):Prop:=∀(σ:List (Nat×Nat×Nat)),Ext σ0 σ→∀(o:Oper) (vs:List V) (us:List Value) (v:V),c.G o vs=some v→RelVs e σ vs us→∃u,RelV e σ v u∧∀(ρ:Operand→Value),o.op.operands.toList.map ρ=us→∀(w0:World) (L:List Blk),QV c.P w0 o ρ L u
section
variable {c:Cfg} {e:Vl} {σ σ0:List (Nat×Nat×Nat)} {w0:World} {ρ':Operand→Option V} {ρ:Operand→Value} {o:Oper}
theorem quw:∀{xs:List V} {vs:List Value} {cs:List C},zks xs=some cs→RelVs e σ xs vs→RelCs e σ cs vs
 |[],_,_,h,.nil=>by cases h;exact .nil
 | .one c::r,_,cs,h,.cons hv t=>by
  simp only [zks] at h
  split at h
  ·rename_i l hl;cases h;exact .cons (qd0 hv) (quw hl t)
  ·cases h
 | .agg _::r,_,cs,h,_=>by cases h
 | .tup _::r,_,cs,h,_=>by cases h
 | .any _::r,_,cs,h,_=>by cases h
theorem qoc (hd:DOK c e) {v:V} {b:Bool} {u:Value} (h:asB c v=some b) (hv:RelV e σ v u):u= .bool b:=by
 unfold asB at h
 split at h
 ·cases h;exact qjp hv
 ·cases qd0 hv;exact hd _ _ h
 ·cases h
theorem ze3 {l:List (List Int)} {i:Nat} (h:i<l.length):∃b,(qa_ l)[i]? =some b∧((b.toNat:Nat):Int)=wrK (some .u8) ((l.getD i []).getD 0 0):=by
 have hd:(qa_ l).data.toList[i]? =some (UInt8.ofNat (IntKind.u8.wrap ((l.getD i []).getD 0 0)).toNat):=by
  show ((l.map fun el=>UInt8.ofNat (IntKind.u8.wrap (el.getD 0 0)).toNat).toArray.toList)[i]? =_
  rw [List.getElem?_map,List.getElem?_eq_getElem h,List.getD_eq_getElem?_getD (l:=l),List.getElem?_eq_getElem h];rfl
 have hs:i<(qa_ l).size:=by rw [qd7];exact h
 refine ⟨UInt8.ofNat (IntKind.u8.wrap ((l.getD i []).getD 0 0)).toNat,?_,?_⟩
 ·have h2:(qa_ l).data[i]? =some (UInt8.ofNat (IntKind.u8.wrap ((l.getD i []).getD 0 0)).toNat):=by simpa using hd
  rw [getElem?_pos (qa_ l) i hs]
  rw [getElem?_pos (qa_ l).data i hs] at h2
  exact h2
 ·show (((UInt8.ofNat (IntKind.u8.wrap ((l.getD i []).getD 0 0)).toNat).toNat:Nat):Int)=IntKind.u8.wrap _
  rw [IntKind.wrap_u8']
  simp only [UInt8.toNat_ofNat']
  omega
theorem zpa (a b:ByteArray):(a.toList==b.toList)=decide (a=b):=by
 by_cases h:a=b
 ·subst h;simp
 ·rw [decide_eq_false h,Bool.eq_false_iff]
  intro q
  have q:=beq_iff_eq.1 q
  rw [ByteArray.toList_eq,ByteArray.toList_eq] at q
  exact h (ByteArray.ext (Array.ext' q))
theorem qn2 {P:Program} {L:List Blk} {t ty:TypeId} (hu:P.underlying t=some .string) {x y:Operand} {a b:ByteArray} (ho:o.op= .binOp .add t x y ty) (hx:ρ x= .string a) (hy:ρ y= .string b) (hl:a.size+b.size≤maxLen):QV P w0 o ρ L (.string (a++b)):=
 q_of fun w _=>by
  refine qfe ho (by rw [hx,hy];rfl) ?_
  rw [hx,hy]
  have hm:¬((a.size+b.size:Nat):Int)>IntKind.i64.max:=by
   have:IntKind.i64.max=9223372036854775807:=rfl
   unfold maxLen at hl
   rw [this];omega
  simp only [binOp,Op.stringOp]
  rw [if_neg hm];rfl
theorem qtc {P:Program} {L:List Blk} {t ty:TypeId} (hu:P.underlying t=some .string) {x y:Operand} {a b:ByteArray} (ho:o.op= .binOp .eql t x y ty) (hx:ρ x= .string a) (hy:ρ y= .string b):QV P w0 o ρ L (.bool (decide (a=b))):=
 q_of fun w _=>by
  refine qfe ho (by rw [hx,hy];rfl) ?_
  rw [hx,hy]
  simp only [binOp,Op.stringOp]
  rw [zpa];rfl
theorem qs8 {P:Program} {L:List Blk} {t ty:TypeId} (hu:P.underlying t=some .string) {x y:Operand} {a b:ByteArray} (ho:o.op= .binOp .neq t x y ty) (hx:ρ x= .string a) (hy:ρ y= .string b):QV P w0 o ρ L (.bool (!decide (a=b))):=
 q_of fun w _=>by
  refine qfe ho (by rw [hx,hy];rfl) ?_
  rw [hx,hy]
  simp only [binOp,Op.stringOp]
  rw [zpa];rfl
theorem zcb (x y:SE):eS e (.seq x y)= .bool (decide (qa_ (x.lst e)=qa_ (y.lst e))):=by
 simp only [eS,SE.ty,SE.val,qas,SE.lst]
 congr
theorem q8z (x y:SE):eS e (.not (.seq x y))= .bool (!decide (qa_ (x.lst e)=qa_ (y.lst e))):=by
 have h:=zcb (e:=e) x y
 unfold eS at h ⊢
 simp only [SE.ty,Value.bool.injEq] at h ⊢
 rw [←h]
 show (b2i (!(_ !=0)) !=0)=_
 rw [qas]
def zdo (el:List Int):UInt8:=UInt8.ofNat (IntKind.u8.wrap (el.getD 0 0)).toNat
theorem zh1 (el:List Int):((zdo el).toNat:Int)=IntKind.u8.wrap (el.getD 0 0):=by
 unfold zdo
 rw [IntKind.wrap_u8']
 have h:(el.getD 0 0 % 256).toNat<256:=by omega
 have:(UInt8.ofNat (el.getD 0 0 % 256).toNat).toNat=(el.getD 0 0 % 256).toNat:=by simp;omega
 rw [this];omega
theorem qvy {l:List (List Int)} {j:Nat} (hj:j<l.length):(qbh [some .u8] l)[j]? =some (.int .u8 ((zdo l[j]).toNat:Int)):=by
 have:=qpt (ks:=[some .u8]) (l:=l) (i:=j) (r:=0) hj (by decide)
 simp only [List.length_singleton,Nat.mul_one,Nat.add_zero] at this
 rw [this,zh1,List.getD_eq_getElem?_getD,List.getElem?_eq_getElem hj]
 rfl
theorem qyy {c:C} {x:SE} {v:Value} (hx:toK (some .u8) c=some x) (hr:RelC e σ c v):[v]=qbh [some .u8] [[x.val e]]:=by
 obtain ⟨e1,e2⟩:=qk7 hx hr
 have:wrK (some .u8) (x.val e)=x.val e:=q1d e2
 simp only [qbh,List.flatMap_cons,List.flatMap_nil,qgh,List.append_nil,List.getD_cons_zero]
 rw [this,e1]
theorem qp6:∀(n:Nat) {cs:List C} {q:SE} {vs:List Value},qqt n cs=some q→RelCs e σ cs vs→vs=qbh [some .u8] (q.lst e)∧(q.lst e).length=n
 |0,[],q,vs,h,_=>by cases h
 |0,_::_,q,vs,h,_=>by cases h
 |1,[],q,vs,h,_=>by cases h
 |n+2,[],q,vs,h,_=>by cases h
 |1,[c],q,vs,h,hr=>by
  simp only [qqt] at h
  split at h
  ·rename_i x hx;cases h
   cases hr with |cons h1 h2=>
   cases h2
   refine ⟨?_,by rw [qf3];rfl⟩
   rw [qf3];simp only [SE.vals];exact qyy hx h1
  ·cases h
 |1,c::c'::cs,q,vs,h,hr=>by
  simp only [qqt] at h
  split at h
  ·rename_i x y hx hy
   cases hy
  ·cases h
 |n+2,c::cs,q,vs,h,hr=>by
  simp only [qqt] at h
  split at h
  ·rename_i x y hx hy;cases h
   cases hr with |cons h1 h2=>
   obtain ⟨r1,r2⟩:=qp6 (n+1) hy h2
   rw [qc3,qf3]
   simp only [SE.vals]
   refine ⟨?_,by rw [List.length_append,r2];simp;omega⟩
   rw [qli,←r1,←qyy hx h1];rfl
  ·cases h
theorem qot {P:Program} (w:World) (src dst e:TypeId) (hs:P.underlying src=some (.slice e)) (he:P.underlying e=some (.int .u8)) (hd:P.underlying dst=some .string):
  (convert src dst (.slice none 0 0)).run P w= .ok (.string (qa_ [])) w:=by
 rw [run_convert_bytes_string w src dst e none 0 0 hs he hd]
 rfl
theorem q4w (hρ:∀x v,ρ' x=some v→RelV e σ v (ρ x)) (hd:DOK c e) {m:List MB} (hm:FS c.P e σ m) {v:V} (h:evQ0 c ρ' m o=some v):
  ∃u,RelV e σ v u∧∀L,(∀w,Own w0 L w→FR c.P e σ m w)→QV c.P w0 o ρ L u:=by
 unfold evQ0 at h
 split at h
 ·rename_i x ho;exact ⟨_,hρ _ _ h,fun L _=>zpu ho⟩
 ·rename_i x ho;exact ⟨_,hρ _ _ h,fun L _=>qyr ho⟩
 ·rename_i x a b ho
  split at h
  ·rename_i xv hx
   split at h
   ·rename_i t ht
    have hx:=qoc hd ht (hρ _ _ hx)
    cases t with
    |true=>exact ⟨_,hρ _ _ h,fun L _=>q3t ho hx rfl rfl⟩
    |false=>exact ⟨_,hρ _ _ h,fun L _=>q3_ ho hx rfl rfl⟩
   ·cases h
  ·cases h
 ·rename_i t x ho
  split at h
  ·rename_i k off hx
   obtain ⟨g,gb,gc,hg,hx⟩:=qks (hρ _ _ hx)
   split at h
   ·rename_i cs T op hl
    obtain ⟨g',gb',gc',vs,a1,a2,_⟩:=hm.n _ _ _ _ hl
    rw [hg] at a1;cases a1
    have rd:∀L,(∀w,Own w0 L w→FR c.P e σ m w)→∀w,Own w0 L w→∀(j:Nat) (v:Value),vs[j]? =some v→w.cell? ⟨g,gb+j,none⟩=some v:=fun L hh w hw j v hj=>by
     obtain ⟨g2,gb2,gc2,vs2,c1,c2,c3,c4,_⟩:=(hh w hw).n _ _ _ _ hl
     rw [hg] at c1;cases c1
     rw [a2.det c2] at hj
     exact c4 j v hj
    rcases qgl h a2 with ⟨n,us,b1,b2,b3,b4,_⟩ |⟨n,u,b1,b2,b3,b4⟩
    ·refine ⟨_,b4,fun L hh=>qna b1 ho hx b3 fun w hw j v hj=> ?_⟩
     rw [Nat.add_assoc];exact rd L hh w hw _ _ (qc2 b2 j v hj)
    ·exact ⟨_,b3,fun L hh=>qng b1 ho hx fun w hw=>rd L hh w hw _ _ b2⟩
   ·cases h
  ·rename_i k ix sz off hx
   obtain ⟨g,gb,gc,hg,hx⟩:=q0j (hρ _ _ hx)
   split at h
   ·rename_i z ks T hl
    cases hb:(Nat.beq ks.length sz&&inB c ix z) with
    |false=>rw [hb,cond_false] at h;cases h
    |true=>
     rw [hb,cond_true] at h
     simp only [Bool.and_eq_true] at hb
     have hsz:=Nat.eq_of_beq_eq_true hb.1
     subst hsz
     obtain ⟨i1,i2⟩:=qln hd hb.2
     have i3:=Nat.lt_of_lt_of_le i2 (qm6 _)
     have rd:∀L,(∀w,Own w0 L w→FR c.P e σ m w)→∀w,Own w0 L w→∀(j:Nat) (v:Value),(qgh ks 0 ((z.lst e).getD (ix.val e).toNat []))[j]? =some v→w.cell? ⟨g,gb+(ix.val e).toNat * ks.length+j,none⟩=some v:=fun L hh w hw j v hj=>by
      obtain ⟨g2,gb2,gc2,c1,c2,c3,c4⟩:=(hh w hw).l _ _ _ _ hl
      rw [hg] at c1;cases c1
      have hjl:j<ks.length:=by have:=(List.getElem?_eq_some_iff.1 hj).1;rwa [qeq] at this
      rw [←qpt i3 hjl] at hj
      have:=(c4 _ v hj).2
      rw [←Nat.add_assoc] at this;exact this
     rcases q67 (e:=e) (σ:=σ) i3 h with ⟨n,us,b1,b2,b3,b4⟩ |⟨n,u,b1,b2,b3⟩
     ·refine ⟨_,b4,fun L hh=>qna b1 ho hx b3 fun w hw j v hj=> ?_⟩
      have:=rd L hh w hw _ _ (qc2 b2 j v hj)
      rw [show gb+((ix.val e).toNat * ks.length+off)+j=gb+(ix.val e).toNat * ks.length+(off+j) by omega]
      exact this
     ·refine ⟨_,b3,fun L hh=>qng b1 ho hx fun w hw=> ?_⟩
      have:=rd L hh w hw _ _ b2
      rw [←Nat.add_assoc]
      exact this
   ·cases h
  ·cases h
 ·rename_i x ho
  split at h
  ·rename_i k off hx
   cases h
   have hv:=hρ _ _ hx
   obtain ⟨g,gb,gc,hg,hx⟩:=qks hv
   rw [hx] at hv
   exact ⟨_,hv,fun L _=>qm0 ho hx⟩
  ·rename_i k ix sz off hx
   cases h
   have hv:=hρ _ _ hx
   obtain ⟨g,gb,gc,hg,hx⟩:=q0j hv
   rw [hx] at hv
   exact ⟨_,hv,fun L _=>qm0 ho hx⟩
  ·cases h
 ·rename_i op t x y ty ho
  split at h
  ·rename_i k a k' b hx hy
   split at h
   ·rename_i z hz
    cases h
    obtain ⟨u,h3,h4⟩:=qpr (e:=e) (σ:=σ) (P:=c.P) (w0:=w0) (L:=[]) hz ho (qdo (hρ _ _ hx)) (qdo (hρ _ _ hy))
    refine ⟨u,.one h3,fun L _=> ?_⟩
    obtain ⟨u',h3',h4'⟩:=qpr (e:=e) (σ:=σ) (P:=c.P) (w0:=w0) (L:=L) hz ho (qdo (hρ _ _ hx)) (qdo (hρ _ _ hy))
    rw [h3.det h3'];exact h4'
   ·cases h
  ·rename_i a b hx hy
   split at h
   ·rename_i hu;cases h;exact ⟨_,.one .bool,fun L _=>zx1 (hi:=hu) ho (qjp (hρ _ _ hx)) (qjp (hρ _ _ hy))⟩
   ·rename_i hu;cases h;exact ⟨_,.one .bool,fun L _=>zr5 (hi:=hu) ho (qjp (hρ _ _ hx)) (qjp (hρ _ _ hy))⟩
   ·cases h
  ·rename_i a b hx hy
   split at h
   ·rename_i yt hyt
    have hxv:=qon (hρ _ _ hx)
    have hyv:=q1h hyt (qd0 (hρ _ _ hy))
    split at h
    ·rename_i hu
     cases hb:(smB c a&&smB c yt) with
     |false=>rw [hb,cond_false] at h;cases h
     |true=>
      rw [hb,cond_true] at h;cases h
      simp only [Bool.and_eq_true] at hb
      have s1:=qgm hd hb.1
      have s2:=qgm hd hb.2
      refine ⟨_,.one .sts,fun L _=> ?_⟩
      rw [qc3,qof]
      exact qn2 hu ho hxv hyv (by rw [qd7,qd7];unfold maxLen;omega)
    ·rename_i hu;cases h
     refine ⟨_,.one (qbu _),fun L _=> ?_⟩
     have e1:=zcb (e:=e) a yt
     show QV c.P w0 o ρ L (eS e (.seq a yt))
     rw [e1];exact qtc hu ho hxv hyv
    ·rename_i hu;cases h
     refine ⟨_,.one (qbu _),fun L _=> ?_⟩
     have e1:=q8z (e:=e) a yt
     show QV c.P w0 o ρ L (eS e (.not (.seq a yt)))
     rw [e1];exact qs8 hu ho hxv hyv
    ·cases h
   ·cases h
  ·rename_i a b hx hy
   have hxv:=qnb (hρ _ _ hx)
   have hyv:=qon (hρ _ _ hy)
   have ha:qa_ ((SE.lbs (a.data.toList.map UInt8.toNat)).lst e)=a:=by rw [qji,qva]
   split at h
   ·rename_i hu
    cases hb:(smB c b&&Nat.ble a.size 1000000) with
    |false=>rw [hb,cond_false] at h;cases h
    |true=>
     rw [hb,cond_true] at h;cases h
     simp only [Bool.and_eq_true] at hb
     have s1:=qgm hd hb.1
     have s2:=Nat.le_of_ble_eq_true hb.2
     refine ⟨_,.one .sts,fun L _=> ?_⟩
     rw [qc3,qof,ha]
     exact qn2 hu ho hxv hyv (by rw [qd7];unfold maxLen;omega)
   ·rename_i hu;cases h
    refine ⟨_,.one (qbu _),fun L _=> ?_⟩
    have e1:=zcb (e:=e) (.lbs (a.data.toList.map UInt8.toNat)) b
    show QV c.P w0 o ρ L (eS e (.seq (.lbs (a.data.toList.map UInt8.toNat)) b))
    rw [e1,ha];exact qtc hu ho hxv hyv
   ·rename_i hu;cases h
    refine ⟨_,.one (qbu _),fun L _=> ?_⟩
    have e1:=q8z (e:=e) (.lbs (a.data.toList.map UInt8.toNat)) b
    show QV c.P w0 o ρ L (eS e (.not (.seq (.lbs (a.data.toList.map UInt8.toNat)) b)))
    rw [e1,ha];exact qs8 hu ho hxv hyv
   ·cases h
  ·rename_i a b hx hy
   have hxv:=qnb (hρ _ _ hx)
   have hyv:=qnb (hρ _ _ hy)
   split at h
   ·rename_i hu
    cases hb:(Nat.ble a.size 1000000&&Nat.ble b.size 1000000) with
    |false=>rw [hb,cond_false] at h;cases h
    |true=>
     rw [hb,cond_true] at h;cases h
     simp only [Bool.and_eq_true] at hb
     have s1:=Nat.le_of_ble_eq_true hb.1
     have s2:=Nat.le_of_ble_eq_true hb.2
     exact ⟨_,.one .str,fun L _=>qn2 hu ho hxv hyv (by unfold maxLen;omega)⟩
   ·rename_i hu;cases h;exact ⟨_,.one .bool,fun L _=>qtc hu ho hxv hyv⟩
   ·rename_i hu;cases h;exact ⟨_,.one .bool,fun L _=>qs8 hu ho hxv hyv⟩
   ·cases h
  ·rename_i xs ys hx hy
   obtain ⟨us,hus,hx'⟩:=qg2 (hρ _ _ hx)
   obtain ⟨vs,hvs,hy'⟩:=qg2 (hρ _ _ hy)
   split at h
   ·cases hg:c.P.eqGuardType c.P.depth t with
    |true=>simp [hg] at h
    |false=>
     simp only [hg,cond_false] at h
     split at h
     ·rename_i b hb;cases h
      exact ⟨_,.one .bool,fun L _=>ztv ho hx' hy' ⟨hg,ql4 _ hb (.agg hus) (.agg hvs)⟩⟩
     ·cases h
   ·cases hg:c.P.eqGuardType c.P.depth t with
    |true=>simp [hg] at h
    |false=>
     simp only [hg,cond_false] at h
     split at h
     ·rename_i b hb;cases h
      exact ⟨_,.one .bool,fun L _=>zq_ ho hx' hy' ⟨hg,ql4 _ hb (.agg hus) (.agg hvs)⟩⟩
     ·cases h
   ·cases h
  ·cases h
 ·rename_i t x ho
  split at h
  ·rename_i b hx;cases h;exact ⟨_,.one .bool,fun L _=>zyx ho (qjp (hρ _ _ hx))⟩
  ·cases h
 ·rename_i t x ho
  split at h
  ·rename_i k a hx;cases h;exact ⟨_,.one .int,fun L _=>ztx ho (qdo (hρ _ _ hx))⟩
  ·cases h
 ·rename_i s d x ho
  split at h
  ·rename_i k a k1 k2 hx hs hd;cases h;exact ⟨_,.one .int,fun L _=>zfe (hs:=hs) (hd:=hd) ho (qdo (hρ _ _ hx))⟩
  ·rename_i k off n cap el hx hs hds
   obtain ⟨g,gb,gc,hg,hx'⟩:=zuu (hρ _ _ hx)
   split at h
   ·rename_i cs T op hel hl
    obtain ⟨g',gb',gc',vs,a1,a2,_⟩:=hm.n _ _ _ _ hl
    rw [hg] at a1;cases a1
    cases hb:Nat.blt 0 n with
    |false=>rw [hb,cond_false] at h;cases h
    |true=>
     rw [hb,cond_true] at h
     split at h
     ·rename_i q hq
      cases h
      obtain ⟨q1,q2⟩:=qp6 n hq ((a2.drop off).take n)
      refine ⟨_,.one .sts,fun L hh=>q_of fun w hw=> ?_⟩
      obtain ⟨g2,gb2,gc2,vs2,c1,c2,c3,c4,_⟩:=(hh w hw).n _ _ _ _ hl
      rw [hg] at c1;cases c1
      have hv:=a2.det c2
      subst hv
      simp only [execOp,ho,hx']
      refine qgt ?_
      have:=run_convert_bytes_back (P:=c.P) w s d el ⟨g,gb+off,none⟩ cap ((q.lst e).map zdo) hs hel hds (fun j hj=>by
       rw [List.length_map] at hj
       have h1:=qvy hj
       rw [←q1] at h1
       rw [qds,Nat.add_assoc]
       rw [List.getElem_map]
       exact c4 (off+j) _ (qc2 rfl j _ h1))
      rw [List.length_map,q2] at this
      exact this
     ·cases h
   ·cases h
  ·rename_i k z el hx hs hds
   split at h
   ·rename_i y T hel hl
    cases hb:(decide (qki y=qki z)&&smB c z) with
    |false=>rw [hb,cond_false] at h;cases h
    |true=>
     rw [hb,cond_true] at h;cases h
     simp only [Bool.and_eq_true] at hb
     have hlen:=of_decide_eq_true hb.1
     have hsm:=qgm hd hb.2
     have hl2:sat (y.lst e).length=sat (z.lst e).length:=by
      have h1:=(qfd (e:=e) y).1
      have h2:=(qfd (e:=e) z).1
      rw [hlen,h2] at h1;omega
     have hl3:(y.lst e).length=(z.lst e).length:=by
      have:(z.lst e).length≤maxLen:=by unfold maxLen;omega
      rw [qcz this] at hl2
      have h3:(y.lst e).length≤1000000:=qei (by omega) (by unfold maxLen;omega)
      rw [qcz (by unfold maxLen;omega)] at hl2;exact hl2
     obtain ⟨g,gb,gc,hg,hx'⟩:=zef (hρ _ _ hx)
     rw [qcz (by unfold maxLen;omega),←hl3] at hx'
     refine ⟨_,.one .sts,fun L hh=>q_of fun w hw=> ?_⟩
     obtain ⟨g2,gb2,gc2,c1,c2,c3,c4⟩:=(hh w hw).l _ _ _ _ hl
     rw [hg] at c1;cases c1
     simp only [execOp,ho,hx']
     refine qgt ?_
     unfold slV
     split
     ·rename_i h0
      have zze:y.lst e=[]:=List.length_eq_zero_iff.1 h0.2
      rw [zze,List.length_nil,h0.1]
      exact qot w s d el hs hel hds
     ·have:=run_convert_bytes_back (P:=c.P) w s d el ⟨g,gb,none⟩ (gc / 2) ((y.lst e).map zdo) hs hel hds (fun j hj=>by
       rw [List.length_map] at hj
       rw [qds,List.getElem_map]
       exact (c4 j _ (qvy hj)).2)
      rw [List.length_map] at this
      exact this
   ·cases h
  ·cases h
 ·rename_i f b ho
  split at h
  ·rename_i vs hvs
   split at h
   ·rename_i cs hcs;cases h
    refine ⟨_,.one (.fn (quw hcs (qle hρ hvs))),fun L _=> ?_⟩
    have:=qqd (P:=c.P) (w0:=w0) (L:=L) (ρ:=ρ) ho
    have e1:Array.map ρ b=List.toArray (List.map ρ b.toList):=by apply Array.ext';simp
    have e0:Array.map ρ (⟨[]⟩:Array Operand)=#[]:=by apply Array.ext';simp
    rw [e1,e0] at this
    exact this
   ·cases h
  ·cases h
 ·rename_i t x i ho
  split at h
  ·rename_i cs off n hx hf
   cases h
   obtain ⟨vs,hvs,hx'⟩:=qg2 (hρ _ _ hx)
   exact ⟨_,.agg ((hvs.drop off).take n),fun L _=>qox (hi:=hf) ho hx' rfl⟩
  ·rename_i cs off n hx hf
   obtain ⟨vs,hvs,hx'⟩:=qg2 (hρ _ _ hx)
   split at h
   ·rename_i z hz;cases h
    obtain ⟨u,h3,h4⟩:=hvs.get hz
    exact ⟨u,.one h4,fun L _=>qo0 (hi:=hf) ho hx' h3⟩
   ·cases h
  ·cases h
 ·rename_i t x i ho
  split at h
  ·rename_i k off fo b n hx hf
   obtain ⟨g,gb,gc,hg,hx'⟩:=qks (hρ _ _ hx)
   cases hn:Nat.beq n 0 with
   |true=>simp only [hn,cond_true] at h;cases h
   |false=>
    simp only [hn,cond_false,Option.some.injEq] at h
    subst h
    exact ⟨_,.one (.ptr hg),fun L _=>by rw [←Nat.add_assoc];exact qk_ (hi:=hf) ho hn hx'⟩
  ·rename_i k ix sz off fo b n hx hf
   obtain ⟨g,gb,gc,hg,hx'⟩:=q0j (hρ _ _ hx)
   cases hn:Nat.beq n 0 with
   |true=>simp only [hn,cond_true] at h;cases h
   |false=>
    simp only [hn,cond_false,Option.some.injEq] at h
    subst h
    exact ⟨_,.one (.pel hg),fun L _=>by rw [←Nat.add_assoc,←Nat.add_assoc,Nat.add_assoc gb];exact qk_ (hi:=hf) ho hn hx'⟩
  ·cases h
 ·rename_i t x y ho
  split at h
  ·rename_i k off len cap ik i el hx hy hs
   obtain ⟨g,gb,gc,hg,hx'⟩:=zuu (hρ _ _ hx)
   split at h
   ·rename_i b n hi
    cases hb:decide (0≤i∧i<(len:Int)) with
    |true=>simp only [hb,cond_true,Option.some.injEq] at h;subst h;exact ⟨_,.one (.ptr hg),fun L _=>by rw [←Nat.add_assoc];exact qi0 (hs:=hs) (hi:=hi) ho hx' (qdo (hρ _ _ hy)) (of_decide_eq_true hb)⟩
    |false=>simp only [hb,cond_false] at h;cases h
   ·cases h
  ·rename_i k len ik i el hx hy hs
   obtain ⟨g,gb,gc,hg,hx'⟩:=zae (hρ _ _ hx)
   split at h
   ·rename_i b n hi
    cases hb:decide (0≤i∧i<(len:Int)) with
    |true=>
     simp only [hb,cond_true,Option.some.injEq] at h;subst h
     refine ⟨_,.one (.ptr hg),fun L _=> ?_⟩
     have:=qi0 (P:=c.P) (w0:=w0) (L:=L) (hs:=hs) (hi:=hi) ho hx' (qdo (hρ _ _ hy)) (of_decide_eq_true hb)
     exact this
    |false=>simp only [hb,cond_false] at h;cases h
   ·cases h
  ·rename_i k off ik i len el hx hy hs
   obtain ⟨g,gb,gc,hg,hx'⟩:=qks (hρ _ _ hx)
   split at h
   ·rename_i b n hi
    cases hb:decide (0≤i∧i<(len:Int)) with
    |true=>simp only [hb,cond_true,Option.some.injEq] at h;subst h;exact ⟨_,.one (.ptr hg),fun L _=>by rw [←Nat.add_assoc];exact qvw hs hi ho hx' (qdo (hρ _ _ hy)) (of_decide_eq_true hb)⟩
    |false=>simp only [hb,cond_false] at h;cases h
   ·cases h
  ·rename_i k z yv el hx hy hs
   obtain ⟨g,gb,gc,hg,hx'⟩:=zef (hρ _ _ hx)
   split at h
   ·rename_i b n ix hi hix
    cases hb:inB c ix z with
    |false=>rw [hb,cond_false] at h;cases h
    |true=>
     rw [hb,cond_true] at h;cases h
     obtain ⟨ik,hyv⟩:=qy_ hix (hρ _ _ hy)
     obtain ⟨i1,i2⟩:=qln hd hb
     rw [zhw (by omega)] at hx'
     exact ⟨_,.one (.pel hg),fun L _=>by rw [Nat.add_zero];exact qi0 (hs:=hs) (hi:=hi) ho hx' hyv ⟨i1,by omega⟩⟩
   ·cases h
  ·cases h
 ·rename_i t x y ho
  split at h
  ·rename_i cs ik i len el hx hy hs
   obtain ⟨vs,hvs,hx'⟩:=qg2 (hρ _ _ hx)
   split at h
   ·rename_i n hi
    cases hb:decide (0≤i∧i<(len:Int)) with
    |true=>
     simp only [hb,cond_true] at h
     split at h
     ·rename_i z hz;cases h
      obtain ⟨u,h3,h4⟩:=hvs.get hz
      exact ⟨u,.one h4,fun L _=>qpi (ha:=hs) (hi:=hi) ho hx' (qdo (hρ _ _ hy)) hb h3⟩
     ·cases h
    |false=>simp only [hb,cond_false] at h;cases h
   ·cases h
  ·rename_i s ik i hx hy hs
   cases hb:decide (0≤i) with
   |true=>
    simp only [hb,cond_true] at h
    split at h
    ·rename_i b hbb;cases h
     exact ⟨_,.one .int,fun L _=>qn4 hs ho (qnb (hρ _ _ hx)) (qdo (hρ _ _ hy)) (of_decide_eq_true hb) hbb⟩
    ·cases h
   |false=>simp only [hb,cond_false] at h;cases h
  ·rename_i z yv hx hy hs
   split at h
   ·rename_i ix hix
    cases hb:inB c ix z with
    |false=>rw [hb,cond_false] at h;cases h
    |true=>
     rw [hb,cond_true] at h;cases h
     obtain ⟨ik,hyv⟩:=qy_ hix (hρ _ _ hy)
     obtain ⟨i1,i2⟩:=qln hd hb
     have i3:=Nat.lt_of_lt_of_le i2 (qm6 _)
     have r:=quq (e:=e) (σ:=σ) (some .u8) z ix 0
     refine ⟨_,.one r,fun L _=> ?_⟩
     obtain ⟨b,hb1,hb2⟩:=ze3 i3
     have:=qn4 (P:=c.P) (w0:=w0) (L:=L) hs ho (qon (hρ _ _ hx)) hyv i1 hb1
     rw [hb2] at this
     exact this
   ·cases h
  ·cases h
 ·rename_i t x lo ho
  split at h
  ·rename_i k n ik l el hx hlo hu
   obtain ⟨g,gb,gc,hg,hx'⟩:=zae (hρ _ _ hx)
   split at h
   ·rename_i bb sz hi
    cases hb:Nat.ble l n with
    |false=>rw [hb,cond_false] at h;cases h
    |true=>
     rw [hb,cond_true] at h;cases h
     exact ⟨_,.one (.slt hg),fun L _=>qwy hu hi ho hx' (qdo (hρ _ _ hlo)) (Nat.le_of_ble_eq_true hb)⟩
   ·cases h
  ·cases h
 ·rename_i x i ho
  split at h
  ·rename_i vs hx
   obtain ⟨us,hus,hx'⟩:=zn6 (hρ _ _ hx)
   obtain ⟨u,h3,h4⟩:=hus.get h
   exact ⟨u,h4,fun L _=>qu1 ho hx' h3⟩
  ·cases h
 ·rename_i t ps ho
  split at h
  ·rename_i fs z hu hz
   split at h
   ·rename_i zc pl l hzc hpl hl
    split at h
    ·rename_i cs hcs;cases h
     obtain ⟨vs,h3,h4⟩:=qpq (qq7 hρ hl) hcs (qlz hzc)
     exact ⟨_,.agg h3,fun L _=>zcs (hi:=bi_of hu (by simpa using hz) hpl) ho rfl h4⟩
    ·cases h
   ·cases h
  ·rename_i len el z hu hz
   split at h
   ·rename_i zc b n l hzc hi hl
    split at h
    ·rename_i cs hcs;cases h
     obtain ⟨vs,h3,h4⟩:=qpq (qq7 hρ hl) hcs (qlz hzc)
     exact ⟨_,.agg h3,fun L _=>q5h hu hi (by simpa using hz) ho rfl h4⟩
    ·cases h
   ·cases h
  ·cases h
 ·rename_i x t ts ho
  split at h
  ·rename_i k off n m el hx hu
   obtain ⟨g,gb,gc,hg,hx'⟩:=zuu (hρ _ _ hx)
   cases h;exact ⟨_,.one .int,fun L _=>qge (hs:=hu) ho rfl rfl rfl hx'⟩
  ·rename_i k n el hx hu
   obtain ⟨g,gb,gc,hg,hx'⟩:=zae (hρ _ _ hx)
   cases h;exact ⟨_,.one .int,fun L _=>qge (hs:=hu) ho rfl rfl rfl hx'⟩
  ·rename_i k l sz n el hx hu
   obtain ⟨g,gb,gc,hg,hx'⟩:=ycn (hρ _ _ hx)
   cases h;exact ⟨_,.one .int,fun L _=>qge (hs:=hu) ho rfl rfl rfl hx'⟩
  ·rename_i el hx hu
   cases h;exact ⟨_,.one .int,fun L _=>qge (hs:=hu) ho rfl rfl rfl (ztg (hρ _ _ hx))⟩
  ·rename_i s hx hu
   cases h;exact ⟨_,.one .int,fun L _=>quf hu ho rfl rfl rfl (qnb (hρ _ _ hx))⟩
  ·rename_i k z el hx hu
   obtain ⟨g,gb,gc,hg,hx'⟩:=zef (hρ _ _ hx)
   cases h
   refine ⟨_,.one (qbu _),fun L _=> ?_⟩
   rw [qpc]
   exact qge (hs:=hu) ho rfl rfl rfl hx'
  ·rename_i z hx hu
   cases hb:smB c z with
   |false=>rw [hb,cond_false] at h;cases h
   |true=>
    rw [hb,cond_true] at h;cases h
    have h1:=qgm hd hb
    refine ⟨_,.one (qbu _),fun L _=> ?_⟩
    rw [qpc,qcz (by unfold maxLen;omega)]
    have:=quf (P:=c.P) (w0:=w0) (L:=L) hu ho rfl rfl rfl (qon (hρ _ _ hx))
    rw [qd7] at this
    exact this
  ·cases h
 ·rename_i x y ts ho
  split at h
  ·rename_i k a k' b hx hy;cases h;exact ⟨_,.one .int,fun L _=>ye8 ho rfl rfl (qdo (hρ _ _ hx)) (qdo (hρ _ _ hy))⟩
  ·cases h
 ·rename_i x y ts ho
  split at h
  ·rename_i k a k' b hx hy;cases h;exact ⟨_,.one .int,fun L _=>yft ho rfl rfl (qdo (hρ _ _ hx)) (qdo (hρ _ _ hy))⟩
  ·cases h
 ·cases h
theorem qt2 (hρ:∀x v,ρ' x=some v→RelV e σ v (ρ x)) (hd:DOK c e) (hg:GOK c e σ0) (hx:Ext σ0 σ) {m:List MB} (hm:FS c.P e σ m) {v:V} (h:evQ c ρ' m o=some v):
  ∃u,RelV e σ v u∧∀L,(∀w,Own w0 L w→FR c.P e σ m w)→QV c.P w0 o ρ L u:=by
 unfold evQ at h
 split at h
 ·rename_i v' hv;cases h;exact q4w hρ hd hm hv
 ·split at h
  ·rename_i vs hvs
   obtain ⟨u,h1,h2⟩:=hg σ hx o vs _ v h (qle hρ hvs)
   exact ⟨u,h1,fun L _=>h2 ρ rfl w0 L⟩
  ·cases h
theorem q0q {n:Nat} {l:List (Nat×Value)} {m:Nat}:∀(ps:List (Nat×Operand)) (i:Nat) {xs:List (Nat×V)} {cs:List C},opsL ρ' ps=some xs→(∀x v,ρ' x=some v→RelV e σ v (evL n l x))→rowC m i xs=some cs→
  ∃vs,RelCs e σ cs vs∧vs.length=ps.length * m∧∀(pre post:List Value),pre.length=i * m→post.length=ps.length * m→Instr.fill (fun j=>some (j * m,m)) (List.toArray (pre++post)) (ps.map fun x=>(x.1,evL n l x.2))=some (List.toArray (pre++vs))
 |[],i,xs,cs,hx,hρ,h=>by
  cases hx;cases h
  refine ⟨[],.nil,by simp,fun pre post h1 h2=> ?_⟩
  have:post=[]:=List.length_eq_zero_iff.1 (by simpa using h2)
  subst this;rfl
 |(j,x)::r,i,xs,cs,hx,hρ,h=>by
  simp only [opsL] at hx
  split at hx
  ·rename_i v xs' hv hxs
   cases hx
   simp only [rowC] at h
   split at h
   ·rename_i us hus
    cases hb:(Nat.beq i j&&Nat.beq us.length m) with
    |false=>simp only [hb,cond_false] at h;cases h
    |true=>
     simp only [hb,cond_true] at h
     simp only [Bool.and_eq_true] at hb
     have hij:=Nat.eq_of_beq_eq_true hb.1
     have hm:=Nat.eq_of_beq_eq_true hb.2
     subst hij
     split at h
     ·rename_i cs' hcs;cases h
      obtain ⟨vs,h1,h2,h3⟩:=q0q r (i+1) hxs hρ hcs
      have hc:=qh2 hus (hρ _ _ hv)
      have hsz:(evL n l x).cells.size=m:=by rw [←hm,←hc.len];simp
      refine ⟨(evL n l x).cells.toList++vs,hc.app h1,by simp [h2,hsz,Nat.add_mul];omega,fun pre post hp hq=> ?_⟩
      simp only [List.length_cons,Nat.add_mul,Nat.one_mul] at hq
      simp only [List.map_cons,Instr.fill]
      rw [if_neg (by simp [hsz];omega)]
      have hs3:=qjn (evL n l x).cells.toList (pre++post).toArray (i * m) (by simp [hsz];omega)
      have hs5:qdy (pre++post) (i * m) (evL n l x).cells.toList=(pre++(evL n l x).cells.toList)++post.drop m:=by
       unfold qdy
       rw [List.take_append_of_le_length (by omega),List.take_of_length_le (by omega),show (evL n l x).cells.toList.length=m from by simp [hsz],List.drop_append,List.drop_eq_nil_of_le (by omega)]
       simp [hp]
      have hs4:(evL n l x).cells.zipIdx.foldl (fun (cs:Array Value) (x:Value×Nat)=>cs.setIfInBounds (i * m+x.2) x.1) (pre++post).toArray=((pre++(evL n l x).cells.toList)++post.drop m).toArray:=by
       rw [←hs5,←hs3,←Array.foldl_toList];simp
      show Instr.fill _ ((evL n l x).cells.zipIdx.foldl (fun (cs:Array Value) (x:Value×Nat)=>cs.setIfInBounds (i * m+x.2) x.1) (pre++post).toArray) _=_
      rw [hs4,h3 (pre++(evL n l x).cells.toList) (post.drop m) (by simp [hp,hsz,Nat.add_mul]) (by simp;omega),List.append_assoc]
     ·cases h
   ·cases h
  ·cases hx
theorem qqf {P:Program} {t:TypeId} {z:Value} (h:qdg P t=some z):∃i,P.info? t=some i∧i.zero=some z:=by
 unfold qdg at h
 simpa [Option.bind_eq_some_iff] using h
theorem qs5 {n:Nat} {l:List (Nat×Value)} (hρ:∀x v,ρ' x=some v→RelV e σ v (evL n l x)) {k:Option Nat} {cs:List C} {t:TypeId} (h:qxq c.P ρ' o=some (k,cs,t)):
  ∃vs,RelCs e σ cs vs∧qfg c.P o (evL n l)=some (k,vs,t):=by
 unfold qxq at h
 split at h
 ·rename_i t' ho
  split at h
  ·rename_i z hz
   split at h
   ·rename_i z' hz'
    split at h
    ·rename_i cs' hcs;cases h
     exact ⟨_,qh2 hcs (zd5 hz'),by
      obtain ⟨i,h1,h2⟩:=qqf hz
      simp [qfg,ho,h1,h2]⟩
    ·cases h
   ·cases h
  ·cases h
 ·rename_i t' x ho
  split at h
  ·rename_i v hv
   split at h
   ·rename_i cs' hcs;cases h
    exact ⟨_,qh2 hcs (hρ _ _ hv),by simp [qfg,ho]⟩
   ·cases h
  ·cases h
 ·rename_i t' len ps ho
  split at h
  ·rename_i el hu
   split at h
   ·rename_i b m z xs hi hz hxs
    cases hb:(Nat.beq ps.toList.length len&&Nat.ble (len * m) 16777216) with
    |false=>simp only [hb,cond_false] at h;cases h
    |true=>
     simp only [hb,cond_true] at h
     simp only [Bool.and_eq_true] at hb
     obtain ⟨hb1,hb2⟩:=hb
     have hb1:=Nat.eq_of_beq_eq_true hb1
     have hb2:=Nat.le_of_ble_eq_true hb2
     split at h
     ·rename_i cs' hcs;cases h
      obtain ⟨vs,h1,h2,h3⟩:=q0q ps.toList 0 hxs hρ hcs
      refine ⟨vs,h1,?_⟩
      obtain ⟨i,hi',hz'⟩:=qqf hz
      have hm:i.size=m:=by
       have:=hi
       unfold qcq at this
       split at this
       ·rename_i d' i' _ hi2
        rw [hi'] at hi2
        simp only [Option.some.injEq,Prod.mk.injEq] at this hi2
        rw [hi2];exact this.2
       ·cases this
      unfold qfg
      simp only [ho,hu,hi',hz',hm]
      rw [if_neg (by omega)]
      have:=h3 [] ((List.range (len * m)).map fun i=>z.cells[i % z.cells.size]!) (by simp) (by simp [hb1])
      simp only [List.nil_append] at this
      have e1:(Array.map (fun i=>z.cells[i % z.cells.size]!) (Array.range (len * m)))=((List.range (len * m)).map fun i=>z.cells[i % z.cells.size]!).toArray:=by
       apply Array.ext';simp
      have e2:(Array.map (fun (x:Nat×Operand)=>(x.1,evL n l x.2)) ps).toList=ps.toList.map fun x=>(x.1,evL n l x.2):=by simp
      show (Instr.fill (fun j=>some (j * m,m)) (Array.map (fun i=>z.cells[i % z.cells.size]!) (Array.range (len * m))) (Array.map (fun (x:Nat×Operand)=>(x.1,evL n l x.2)) ps).toList).map _=_
      rw [e1,e2,this]
      simp
     ·cases h
   ·cases h
  ·cases h
 ·cases h
end
end Go.Proofs.YtilkebpcjklmfaaGreat.Own
