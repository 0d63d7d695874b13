/- An engine for walks, the fourth part: stores, numbers, results. An engine for walks, the fifth part: steps whose outcome is written out. An engine for walks, the sixth part: slices, loops round by round, what was there ahead of the call. The check of an order, quick for the kernel: the text's order serves every order. -/
import Derived.Test.YtilkebpcjklmfaaGreatEng3
set_option linter.unusedVariables false
set_option linter.unusedSimpArgs false
namespace Go.Proofs.YtilkebpcjklmfaaGreat.Own
open Go Go.RowKit
set_option maxRecDepth 100000
set_option maxHeartbeats 40000000
section
variable {P:Program} {w0:World} {o:Oper} {ρ:Operand→Value} {L:List Blk}
def oneC:Value→Bool | .agg _ | .tuple _=>false |_=>true
theorem qrb {w:World} {a:Addr} {v:Value} {u:Value} (hv:oneC v=true) (hc:w.cell? a=some u) (hf:w.frozen? a=false):(store a v).run P w= .ok () (w.setCell a v):=by
 cases v<;>simp [oneC] at hv<;>simp [store,Sem.run,hc,hf]
theorem qsy {w:World} {g off:Nat} {cs:List Value} {T:TypeId} (hg:w.heap[g]? =some (.cells cs.toArray T (0,0))) (v:Value):(w.setCell ⟨g,off,none⟩ v).heap[g]? =some (.cells (cs.set off v).toArray T (0,0)):=by
 simp [World.setCell,Array.getElem?_modify,hg]
theorem qsv {w:World} {g off k:Nat} (v:Value) (hk:k≠g):(w.setCell ⟨g,off,none⟩ v).heap[k]? =w.heap[k]? :=Below.heap_setCell w ⟨g,off,none⟩ v k hk
theorem qo5 (cs:List Value) (off:Nat) (v:Value) (vs:List Value) (h:off+(v::vs).length≤cs.length):qdy cs off (v::vs)=qdy (cs.set off v) (off+1) vs:=by
 simp only [List.length_cons] at h
 unfold qdy
 apply List.ext_getElem?
 intro i
 simp only [List.length_cons,List.getElem?_append,List.length_take,List.getElem?_take,List.getElem?_drop,List.getElem?_set,List.getElem?_cons,List.length_set]
 rw [show min off cs.length=off from by omega,show min (off+1) cs.length=off+1 from by omega]
 by_cases h1:i<off
 ·simp [h1,show i<off+1 from by omega,show ¬off=i from by omega]
 ·by_cases h2:i=off
  ·subst h2;simp;omega
  ·simp only [h1,if_false,show ¬i<off+1 from by omega,show ¬i - off=0 from by omega,show i - off - 1=i - (off+1) from by omega]
   by_cases h3:i - (off+1)<vs.length
   ·simp [h3,show i - off<vs.length+1 from by omega]
   ·simp only [h3,if_false,show ¬i - off<vs.length+1 from by omega,show off+(vs.length+1)+(i - off - (vs.length+1))=i from by omega,show off+1+vs.length+(i - (off+1) - vs.length)=i from by omega,show ¬off=i from by omega]
theorem qkp:∀(vs:List Value) (i:Nat) (w:World) (g off:Nat) (cs:List Value) (T:TypeId),vs.all oneC=true→off+i+vs.length≤cs.length→w.heap[g]? =some (.cells cs.toArray T (0,0))→
  ∃w',(storeCells ⟨g,off,none⟩ vs i).run P w= .ok () w'∧w'.heap[g]? =some (.cells (qdy cs (off+i) vs).toArray T (0,0))∧(∀k,k≠g→w'.heap[k]? =w.heap[k]?)∧w'.heap.size=w.heap.size∧w'.os=w.os∧w'.tape=w.tape∧w'.output=w.output
 |[],i,w,g,off,cs,T,_,_,hg=>⟨w,rfl,by simpa [qdy] using hg,fun _ _=>rfl,rfl,rfl,rfl,rfl⟩
 |v::vs,i,w,g,off,cs,T,ha,hl,hg=>by
  simp only [List.all_cons,Bool.and_eq_true] at ha
  simp only [List.length_cons] at hl
  have hc:w.cell? ⟨g,off+i,none⟩=some (cs[off+i]'(by omega)):=by simp [World.cell?,hg,show off+i<cs.length from by omega]
  have hf:w.frozen? ⟨g,off+i,none⟩=false:=by simp [World.frozen?,hg]
  obtain ⟨w',h1,h2,h3,h4,h5,h6,h7⟩:=qkp vs (i+1) (w.setCell ⟨g,off+i,none⟩ v) g off (cs.set (off+i) v) T ha.2 (by simp;omega) (qsy hg v)
  refine ⟨w',?_,?_,fun k hk=> ?_,?_,h5,h6,h7⟩
  ·simp only [storeCells,Sem.run_bind,qds]
   rw [qrb ha.1 hc hf,Result.andThen_ok]
   exact h1
  ·rw [qo5 cs (off+i) v vs (by simp only [List.length_cons];omega)];exact h2
  ·rw [h3 k hk,qsv v hk]
  ·rw [h4];simp [World.setCell]
theorem qxo {t:TypeId} {n:Nat} {b:Bool} {hi:qcq P t=some (b,n)} {x y:Operand} {g off:Nat} {cs vs cs':List Value} {T:TypeId} {L':List Blk} (ho:o.op= .store t x y) (hx:ρ x= .pointer (some ⟨g,off,none⟩))
  (hv:(ρ y).cells.toList=vs) (hs:SetB L g cs T cs' L') (hn:Nat.beq vs.length n=true) (ha:vs.all oneC=true) (hl:Nat.ble (off+vs.length) cs.length=true) (hc:qdy cs off vs=cs'):EV1 P w0 o ρ L undef L':=
 fun w hw=>by
  have hn:=Nat.eq_of_beq_eq_true hn
  obtain ⟨w',h1,h2,h3,h4,h5,h6,h7⟩:=qkp (P:=P) vs 0 w g off cs T ha (by simpa using Nat.le_of_ble_eq_true hl) (hw.block hs.has)
  have hrun:(execOp ρ o).run P w= .ok .skip w':=by
   simp only [execOp,ho,hx,Instr.storeAt,Instr.sureAddr,storeVar]
   have hsz:(ρ y).cells.size=n:=by rw [←hn,←hv];simp
   simp [Sem.run_bind,qde hi w,hsz,hv,h1]
  rw [hrun]
  simp only [Nat.add_zero,hc] at h2
  exact ⟨L',⟨rfl,rfl⟩,hw.set hs h2 h3 h4 h5 h6 h7⟩
def qbx (op:BinOp) (k:IntKind) (a b:Int):Option Value:=
 match op with
 | .add=>some (.int k (k.wrap (a+b)))
 | .sub=>some (.int k (k.wrap (a - b)))
 | .mul=>some (.int k (k.wrap (a * b)))
 | .and=>some (.int k (bits .and k a b))
 | .or=>some (.int k (bits .or k a b))
 | .xor=>some (.int k (bits .xor k a b))
 | .eql=>some (.bool (a==b))
 | .neq=>some (.bool (a !=b))
 | .lss=>some (.bool (decide (a<b)))
 | .leq=>some (.bool (decide (a≤b)))
 | .gtr=>some (.bool (decide (a>b)))
 | .geq=>some (.bool (decide (a≥b)))
 |_=>none
theorem qfe {op:BinOp} {t ty:TypeId} {x y:Operand} {v:Value} {w:World} (ho:o.op= .binOp op t x y ty) (hg:(eqGuard op t x y (ρ x) (ρ y)).run P w= .ok () w) (h:(binOp op t (ρ x) (ρ y)).run P w= .ok v w):
  (execOp ρ o).run P w= .ok (.value v) w:=by
 simp only [execOp,ho]
 refine qgt ?_
 simp only [Sem.run_bind,hg,Result.andThen_ok,h]
theorem qj7 {op:BinOp} {t:TypeId} {x y:Operand} {k k':IntKind} {a b:Int} {w:World}:(eqGuard op t x y (.int k a) (.int k' b)).run P w= .ok () w:=by cases op<;>rfl
theorem qwa {op:BinOp} {t ty:TypeId} {x y:Operand} {k:IntKind} {a b:Int} {v:Value} (ho:o.op= .binOp op t x y ty) (hx:ρ x= .int k a) (hy:ρ y= .int k b) (h:qbx op k a b=some v):QV P w0 o ρ L v:=
 q_of fun w _=>by
  refine qfe ho (by rw [hx,hy];exact qj7) ?_
  rw [hx,hy]
  cases op<;>simp only [qbx,Option.some.injEq,reduceCtorEq] at h<;>subst h<;>simp [binOp,Op.intArith,Op.intCmp,Op.intBits,bits,go_sem]
theorem z16 {t ty:TypeId} {x y:Operand} {k:IntKind} {a b:Int} (ho:o.op= .binOp .quo t x y ty) (hx:ρ x= .int k a) (hy:ρ y= .int k b) (hb:(b==0)=false):QV P w0 o ρ L (.int k (k.wrap (a.tdiv b))):=
 q_of fun w _=>by
  refine qfe ho (by rw [hx,hy];exact qj7) ?_
  rw [hx,hy]
  have:b≠0:=by simpa using hb
  simp [binOp,Op.intDiv,this,go_sem]
theorem zlb {t ty:TypeId} {x y:Operand} {k:IntKind} {a b:Int} (ho:o.op= .binOp .rem t x y ty) (hx:ρ x= .int k a) (hy:ρ y= .int k b) (hb:(b==0)=false):QV P w0 o ρ L (.int k (a.tmod b)):=
 q_of fun w _=>by
  refine qfe ho (by rw [hx,hy];exact qj7) ?_
  rw [hx,hy]
  have:b≠0:=by simpa using hb
  simp [binOp,Op.intDiv,this,go_sem]
theorem zyg {t ty:TypeId} {x y:Operand} {k k':IntKind} {a b:Int} (ho:o.op= .binOp .shl t x y ty) (hx:ρ x= .int k a) (hy:ρ y= .int k' b) (hb:decide (b<0)=false):QV P w0 o ρ L (.int k (k.wrap (a * 2 ^ (min b.toNat k.bits)))):=
 q_of fun w _=>by
  refine qfe ho (by rw [hx,hy];exact qj7) ?_
  rw [hx,hy]
  have:¬b<0:=of_decide_eq_false hb
  simp [binOp,Op.shift,this,go_sem]
theorem zuc {t ty:TypeId} {x y:Operand} {k k':IntKind} {a b:Int} (ho:o.op= .binOp .shr t x y ty) (hx:ρ x= .int k a) (hy:ρ y= .int k' b) (hb:decide (b<0)=false):QV P w0 o ρ L (.int k (a.fdiv (2 ^ (min b.toNat k.bits)))):=
 q_of fun w _=>by
  refine qfe ho (by rw [hx,hy];exact qj7) ?_
  rw [hx,hy]
  have:¬b<0:=of_decide_eq_false hb
  simp [binOp,Op.shift,this,go_sem]
theorem qo7 {t:TypeId} (h:P.underlying t=some .bool) (a b:Bool) (w:World):(Op.equal t (.bool a) (.bool b)).run P w= .ok (a==b) w:=by
 have key:∀d,(Op.equalIn (d+1) t (.bool a) (.bool b)).run P w= .ok (a==b) w:=fun d=>by simp [Op.equalIn,Sem.run_bind,run_underlying h w]
 exact key 9999
theorem zx1 {t ty:TypeId} {hi:P.underlying t=some .bool} {x y:Operand} {a b:Bool} (ho:o.op= .binOp .eql t x y ty) (hx:ρ x= .bool a) (hy:ρ y= .bool b):QV P w0 o ρ L (.bool (a==b)):=
 q_of fun w _=>by
  refine qfe ho (by rw [hx,hy];rfl) ?_
  rw [hx,hy]
  simp only [binOp,Sem.run_bind,qo7 hi,Result.andThen_ok];rfl
theorem zr5 {t ty:TypeId} {hi:P.underlying t=some .bool} {x y:Operand} {a b:Bool} (ho:o.op= .binOp .neq t x y ty) (hx:ρ x= .bool a) (hy:ρ y= .bool b):QV P w0 o ρ L (.bool (!(a==b))):=
 q_of fun w _=>by
  refine qfe ho (by rw [hx,hy];rfl) ?_
  rw [hx,hy]
  simp only [binOp,Sem.run_bind,qo7 hi,Result.andThen_ok];rfl
theorem zyx {t:TypeId} {x:Operand} {b:Bool} (ho:o.op= .unOp .not t x) (hx:ρ x= .bool b):QV P w0 o ρ L (.bool (!b)):=
 q_of fun w _=>by simp only [execOp,ho,hx];rfl
theorem ztx {t:TypeId} {x:Operand} {k:IntKind} {a:Int} (ho:o.op= .unOp .neg t x) (hx:ρ x= .int k a):QV P w0 o ρ L (.int k (k.wrap (0 - a))):=
 q_of fun w _=>by simp only [execOp,ho,hx];rfl
theorem zfe {s d:TypeId} {k k':IntKind} {hs:P.underlying s=some (.int k')} {hd:P.underlying d=some (.int k)} {x:Operand} {k2:IntKind} {a:Int} (ho:o.op= .convert s d x) (hx:ρ x= .int k2 a):QV P w0 o ρ L (.int k (k.wrap a)):=
 q_of fun w _=>by
  simp only [execOp,ho,hx]
  refine qgt ?_
  simp [convert,Sem.run_bind,run_underlying hs w,run_underlying hd w,Conv.intToInt]
def EqR (P:Program) (d:Nat) (t:TypeId) (u v:Value) (b:Bool):Prop:=∀w,(Op.equalIn d t u v).run P w= .ok b w
theorem qtv {t:TypeId} {k:IntKind} {hi:P.underlying t=some (.int k)} {d:Nat} {a b:Int}:EqR P (d+1) t (.int k a) (.int k b) (a==b):=fun w=>by
 simp [Op.equalIn,Sem.run_bind,run_underlying hi w]
theorem zx0 {t:TypeId} {hi:P.underlying t=some .bool} {d:Nat} {a b:Bool}:EqR P (d+1) t (.bool a) (.bool b) (a==b):=fun w=>by
 simp [Op.equalIn,Sem.run_bind,run_underlying hi w]
inductive FEq (P:Program) (d:Nat) (xs ys:List Value):List Field→Bool→Prop where
 |nil:FEq P d xs ys [] true
 |agg {f fs u v b b' m} (hn:f.name≠ "_") (hi:qcq P f.type=some (true,m)) (hx:(xs.drop f.offset).take m=u) (hy:(ys.drop f.offset).take m=v) (he:EqR P d f.type (.agg u.toArray) (.agg v.toArray) b) (t:FEq P d xs ys fs b'):FEq P d xs ys (f::fs) (b&&b')
 |one {f fs u v b b' m} (hn:f.name≠ "_") (hi:qcq P f.type=some (false,m)) (hx:xs[f.offset]? =some u) (hy:ys[f.offset]? =some v) (he:EqR P d f.type u v b) (t:FEq P d xs ys fs b'):FEq P d xs ys (f::fs) (b&&b')
theorem FEq.run {d:Nat} {xs ys:List Value} {fs:List Field} {b:Bool} (h:FEq P d xs ys fs b) (w:World):
  (forIn fs ((none,()):Option Bool×Unit) fun f _=>if f.name≠ "_" then do
       let u ←part f.type xs.toArray f.offset
       let v ←part f.type ys.toArray f.offset
       let e ←Op.equalIn d f.type u v
       if (!e)=true then pure (ForInStep.done (some false,())) else pure (ForInStep.yield (none,()))
      else pure (ForInStep.yield (none,())):Sem (Option Bool×Unit)).run P w= .ok (if b then (none,()) else (some false,())) w:=by
 induction h with
 |nil=>simp
 | @agg f fs u v b b' m hn hi hx hy he t ih=>
  rw [List.forIn_cons]
  simp only [hn,ne_eq,not_false_eq_true,if_true,Sem.run_bind,qjl hi hx,qjl hi hy,Result.andThen_ok,he w]
  cases b
  ·simp
  ·simp only [Bool.not_true,Bool.false_eq_true,if_false,Sem.run_pure,Result.andThen_ok,Bool.true_and];exact ih
 | @one f fs u v b b' m hn hi hx hy he t ih=>
  rw [List.forIn_cons]
  simp only [hn,ne_eq,not_false_eq_true,if_true,Sem.run_bind,qhk hi hx,qhk hi hy,Result.andThen_ok,he w]
  cases b
  ·simp
  ·simp only [Bool.not_true,Bool.false_eq_true,if_false,Sem.run_pure,Result.andThen_ok,Bool.true_and];exact ih
theorem qg9 {t:TypeId} {fs:List Field} (hu:P.underlying t=some (.struct fs.toArray)) (hst:P.stoodInHeld t=false) {d:Nat} {xs ys:List Value} {b:Bool} (h:FEq P d xs ys fs b):EqR P (d+1) t (.agg xs.toArray) (.agg ys.toArray) b:=fun w=>by
 have hp:(program).run P w= .ok P w:=rfl
 rw [Op.equalIn]
 simp only [Sem.run_bind,run_underlying hu w,Result.andThen_ok,hp,hst,Bool.false_eq_true,if_false,List.forIn_toArray]
 rw [h.run w]
 cases b<;>simp
def EqOK (P:Program) (t:TypeId) (xs ys:List Value) (b:Bool):Prop:=P.eqGuardType P.depth t=false∧EqR P 10000 t (.agg xs.toArray) (.agg ys.toArray) b
theorem zb_ {op:BinOp} {t:TypeId} {x y:Operand} {xs ys:List Value} {b:Bool} (hop:op= .eql∨op= .neq) (h:EqOK P t xs ys b) (w:World):(eqGuard op t x y (.agg xs.toArray) (.agg ys.toArray)).run P w= .ok () w∧(Op.equal t (.agg xs.toArray) (.agg ys.toArray)).run P w= .ok b w:=by
 refine ⟨?_,h.2 w⟩
 have hp:(program).run P w= .ok P w:=rfl
 rcases hop with rfl |rfl<;>simp [eqGuard,Sem.run_bind,hp,h.1]
theorem ztv {t ty:TypeId} {x y:Operand} {xs ys:List Value} {b:Bool} (ho:o.op= .binOp .eql t x y ty) (hx:ρ x= .agg xs.toArray) (hy:ρ y= .agg ys.toArray) (h:EqOK P t xs ys b):QV P w0 o ρ L (.bool b):=
 q_of fun w _=>by
  obtain ⟨h1,h2⟩:=zb_ (x:=x) (y:=y) (.inl rfl) h w
  refine qfe ho (by rw [hx,hy];exact h1) ?_
  rw [hx,hy]
  simp only [binOp,Sem.run_bind,h2,Result.andThen_ok];rfl
theorem zq_ {t ty:TypeId} {x y:Operand} {xs ys:List Value} {b:Bool} (ho:o.op= .binOp .neq t x y ty) (hx:ρ x= .agg xs.toArray) (hy:ρ y= .agg ys.toArray) (h:EqOK P t xs ys b):QV P w0 o ρ L (.bool (!b)):=
 q_of fun w _=>by
  obtain ⟨h1,h2⟩:=zb_ (x:=x) (y:=y) (.inr rfl) h w
  refine qfe ho (by rw [hx,hy];exact h1) ?_
  rw [hx,hy]
  simp only [binOp,Sem.run_bind,h2,Result.andThen_ok];rfl
theorem qpi {t e n len:Nat} {ha:P.underlying t=some (.array len e)} {hi:qcq P e=some (false,n)} {x y:Operand} {cs:List Value} {k:IntKind} {i:Int} {v:Value} (ho:o.op= .index t x y) (hx:ρ x= .agg cs.toArray) (hy:ρ y= .int k i)
  (hb:decide (0≤i∧i<(len:Int))=true) (hv:cs[i.toNat * n]? =some v):QV P w0 o ρ L v:=
 q_of fun w _=>by
  have hb:=of_decide_eq_true hb
  simp only [execOp,ho,hx,hy]
  refine qgt ?_
  simp only [Instr.index,asIntOf,Sem.run_bind,Sem.run_pure,Result.andThen_ok,run_underlying ha w,hb,and_self,if_true,qde hi w]
  exact qhk hi hv w
theorem qi0 {t e n:Nat} {b:Bool} {hs:P.underlying t=some (.slice e)} {hi:qcq P e=some (b,n)} {x y:Operand} {g off len cap:Nat} {k:IntKind} {i:Int} (ho:o.op= .indexAddr t x y) (hx:ρ x= .slice (some ⟨g,off,none⟩) len cap) (hy:ρ y= .int k i)
  (hb:0≤i∧i<(len:Int)):QV P w0 o ρ L (.pointer (some ⟨g,off+i.toNat * n,none⟩)):=
 q_of fun w _=>by
  simp only [execOp,ho,hx,hy]
  refine qgt ?_
  simp only [Instr.indexAt,asIntOf,Sem.run_bind,Sem.run_pure,Result.andThen_ok,run_underlying hs w,hb,and_self,if_true,qde hi w,qds]
theorem qge {t e:Nat} {hs:P.underlying t=some (.slice e)} {c:Call} {x:Operand} {a:Option Addr} {len cap:Nat} (ho:o.op= .call c) (hc:c.callee= .builtin .len) (ht:c.argTypes[0]? =some t) (ha:c.args=#[x]) (hx:ρ x= .slice a len cap):QV P w0 o ρ L (.int .i64 (len:Int)):=
 q_of fun w _=>by
  have h:(Builtin.len_ c.argTypes o.type #[.slice a len cap]).run P w= .ok (.int .i64 (len:Int)) w:=by simp [Builtin.len_,ht,Sem.run_bind,run_underlying hs w,goInt]
  simp [execOp,ho,resolve,hc,ha,hx,Sem.run_bind,invoke,builtin,h]
theorem quf {t:Nat} {c:Call} {x:Operand} {s:ByteArray} (hs:P.underlying t=some .string) (ho:o.op= .call c) (hc:c.callee= .builtin .len) (ht:c.argTypes[0]? =some t) (ha:c.args=#[x]) (hx:ρ x= .string s):QV P w0 o ρ L (.int .i64 (s.size:Int)):=
 q_of fun w _=>by
  have h:(Builtin.len_ c.argTypes o.type #[.string s]).run P w= .ok (.int .i64 (s.size:Int)) w:=by simp [Builtin.len_,ht,Sem.run_bind,run_underlying hs w,goInt]
  simp [execOp,ho,resolve,hc,ha,hx,Sem.run_bind,invoke,builtin,h]
def RV (P:Program) (w0:World) (n:Nat) (l:List (Nat×Value)) (L:List Blk) (r:ResultVar) (v:Value):Prop:=
 match r with
 | .tmp t=>evL n l (.tmp t)=v
 | .cell a t=>∀w,Own w0 L w→∃ad,evL n l (.tmp a)= .pointer (some ad)∧(loadVar t ad).run P w= .ok v w
variable {n:Nat} {l:List (Nat×Value)}
theorem yf5 {t:Tmp} {v:Value} (h:evL n l (.tmp t)=v):RV P w0 n l L (.tmp t) v:=h
theorem z5y {a:Tmp} {t:TypeId} {m:Nat} {hi:qcq P t=some (true,m)} {g off:Nat} {cs vs:List Value} {T:TypeId} (hx:evL n l (.tmp a)= .pointer (some ⟨g,off,none⟩)) (hm:HasB L g cs T) (hv:(cs.drop off).take m=vs) (hl:vs.length=m):RV P w0 n l L (.cell a t) (.agg vs.toArray):=
 fun w hw=>⟨_,hx,qeh hi hl fun j v hj=>by rw [HasB.cell hw hm];exact qc2 hv j v hj⟩
def resF (tmps:Array Value):ResultVar→Sem Value
 | .tmp t=>pure (tmps.getD t undef)
 | .cell a t=>do loadVar t (←asAddr (tmps.getD a undef))
theorem qh1 {r:ResultVar} {v:Value} (h:RV P w0 n l L r v) {w:World} (hw:Own w0 L w):(resF (frm n l).tmps r).run P w= .ok v w:=by
 have e:∀t,(frm n l).tmps.getD t undef=evL n l (.tmp t):=fun t=>by rw [←qgg];rfl
 cases r with
 |tmp t=>have h:evL n l (.tmp t)=v:=h;simp only [resF,e,h];rfl
 |cell a t=>
  obtain ⟨ad,h1,h2⟩:=h w hw
  simp only [resF,e,h1,asAddr,Sem.run_bind,Sem.run_pure,Result.andThen_ok,h2]
theorem qer (fn:Func) (tmps:Array Value):results fn tmps=(do let vs ←fn.results.mapM (resF tmps);pure (if h:vs.size=1 then vs[0] else .tuple vs)):=by
 unfold results
 congr 1
end
def qvr:List (Nat×Value)→Nat→Option Value
 |[],_=>none
 |(d,v)::l,t=>bif Nat.beq d t then some v else qvr l t
def evO (n:Nat) (l:List (Nat×Value)):Operand→Option Value
 | .tmp t=>bif Nat.blt t n then qvr l t else none
 | .const v=>some v
 | .global g=>some (.pointer (some ⟨g,0,none⟩))
 | .func f=>some (.func (.func f) #[] #[])
theorem qrh:∀(l:List (Nat×Value)) (t:Nat) (v:Value),qvr l t=some v→look l t=v
 |[],_,_,h=>by cases h
 |(d,u)::l,t,v,h=>by
  simp only [qvr] at h
  simp only [look]
  cases e:Nat.beq d t with
  |true=>simp only [e,cond_true,Option.some.injEq] at h ⊢;exact h
  |false=>simp only [e,cond_false] at h ⊢;exact qrh l t v h
theorem qaz {n:Nat} {l:List (Nat×Value)} {x:Operand} {v:Value} (h:evO n l x=some v):evL n l x=v:=by
 cases x with
 |tmp t=>
  simp only [evO] at h
  simp only [evL]
  cases e:Nat.blt t n with
  |true=>simp only [e,cond_true] at h ⊢;exact qrh l t v h
  |false=>simp only [e,cond_false] at h;cases h
 |const v=>simpa [evO,evL] using h
 |global g=>simpa [evO,evL] using h
 |func f=>simpa [evO,evL] using h
theorem zo_ {ops:List Oper} {n:Nat} {l:List (Nat×Value)} {o:Oper} {j d:Nat} {want:Bool} (hg:o.guard=some (j,want)) (hd:(ops[j]?).bind (·.dst)=some d) (he:evO n l (.tmp d)=some (.tuple #[])):qca ops n l o=false:=by
 simp [qca,hg,hd,qaz he]
inductive Sub:List Value→Nat→Nat→List Value→Prop where
 |done {cs}:Sub cs 0 0 []
 |take {c cs n vs} (h:Sub cs 0 n vs):Sub (c::cs) 0 (n+1) (c::vs)
 |skip {c cs off n vs} (h:Sub cs off n vs):Sub (c::cs) (off+1) n vs
theorem Sub.eq {cs:List Value} {off n:Nat} {vs:List Value} (h:Sub cs off n vs):(cs.drop off).take n=vs∧vs.length=n:=by
 induction h with
 |done=>simp
 |take _ ih=>simp at ih ⊢;exact ih
 |skip _ ih=>simpa using ih
inductive Get:List Value→Nat→Value→Prop where
 |here {c cs}:Get (c::cs) 0 c
 |next {c cs i v} (h:Get cs i v):Get (c::cs) (i+1) v
theorem Get.eq {cs:List Value} {i:Nat} {v:Value} (h:Get cs i v):cs[i]? =some v:=by
 induction h with
 |here=>rfl
 |next _ ih=>simpa using ih
inductive Spl:List Value→Nat→List Value→List Value→Prop where
 |done {cs}:Spl cs 0 [] cs
 |put {c cs v vs cs'} (h:Spl cs 0 vs cs'):Spl (c::cs) 0 (v::vs) (v::cs')
 |skip {c cs off vs cs'} (h:Spl cs off vs cs'):Spl (c::cs) (off+1) vs (c::cs')
theorem Spl.eq {cs:List Value} {off:Nat} {vs cs':List Value} (h:Spl cs off vs cs'):qdy cs off vs=cs'∧off+vs.length≤cs.length:=by
 induction h with
 |done=>simp [qdy]
 | @put c cs v vs cs' _ ih=>
  obtain ⟨h1,h2⟩:=ih
  refine ⟨?_,by simp at h2 ⊢;omega⟩
  rw [qo5 _ _ _ _ (by simp at h2 ⊢;omega),←h1]
  simp [qdy]
  rw [Nat.add_comm 1 vs.length];simp
 | @skip c cs off vs cs' _ ih=>
  obtain ⟨h1,h2⟩:=ih
  refine ⟨?_,by simp;omega⟩
  rw [←h1]
  simp only [qdy,List.take_succ_cons,List.cons_append]
  rw [show off+1+vs.length=(off+vs.length)+1 from by omega,List.drop_succ_cons]
inductive CellsR:Value→List Value→Prop where
 |agg {vs}:CellsR (.agg (List.toArray vs)) vs
 |one {v} (h:oneC v=true):CellsR v [v]
theorem CellsR.eq {v:Value} {vs:List Value} (h:CellsR v vs):v.cells.toList=vs:=by
 cases h with
 |agg=>rfl
 |one h=>cases v<;>simp [oneC] at h<;>rfl
inductive ArgsR (n:Nat) (l:List (Nat×Value)):List Operand→List Value→Prop where
 |nil:ArgsR n l [] []
 |cons {x xs v vs} (h:evO n l x=some v) (t:ArgsR n l xs vs):ArgsR n l (x::xs) (v::vs)
theorem ArgsR.eq {n:Nat} {l:List (Nat×Value)} {xs:List Operand} {vs:List Value} (h:ArgsR n l xs vs):xs.toArray.map (evL n l)=vs.toArray:=by
 induction h with
 |nil=>simp
 |cons h _ ih=>simp [qaz h] at ih ⊢;exact ih
inductive FillR (n:Nat) (l:List (Nat×Value)) (pl:List (Nat×Nat)):List Value→List (Nat×Operand)→List Value→Prop where
 |nil {cs}:FillR n l pl cs [] cs
 |cons {cs i x r v vs cs1 cs' off m} (h:evO n l x=some v) (hp:pl[i]? =some (off,m)) (hc:CellsR v vs) (hs:Spl cs off vs cs1) (hm:Nat.beq vs.length m=true) (t:FillR n l pl cs1 r cs'):FillR n l pl cs ((i,x)::r) cs'
theorem FillR.eq {n:Nat} {l:List (Nat×Value)} {pl:List (Nat×Nat)} {cs:List Value} {ps:List (Nat×Operand)} {cs':List Value} (h:FillR n l pl cs ps cs'):qpu pl cs (ps.map fun x=>(x.1,evL n l x.2))=some cs':=by
 induction h with
 |nil=>rfl
 | @cons cs i x r v vs cs1 cs' off m h hp hc hs hm t ih=>
  obtain ⟨h1,h2⟩:=hs.eq
  have hm:=Nat.eq_of_beq_eq_true hm
  have hsz:v.cells.size=vs.length:=by rw [←hc.eq];simp
  simp only [List.map_cons,qpu,hp,qaz h]
  have:(Nat.beq v.cells.size m&&Nat.ble (off+v.cells.size) cs.length)=true:=by
   rw [hsz,hm];simp [Nat.ble_eq];omega
  rw [this,cond_true,hc.eq,h1]
  exact ih
inductive BaseOK:Kind→List Blk→List Blk→Nat→List Value→TypeId→Prop where
 |no {k:Kind} {L0 L:List Blk} {g:Nat} {cs:List Value} {T:TypeId} (h:(match k with | .quiet | .eff=>true |_=>false)=true):BaseOK k L0 L g cs T
 |yes {L0 L:List Blk} {g:Nat} {cs:List Value} {T:TypeId} (h:HasB L0 g cs T) (hi:∀b∈L0,b∈L):BaseOK .base L0 L g cs T
inductive Incl:List Blk→List Blk→Prop where
 |refl (A:List Blk):Incl A A
 |cons {A M:List Blk} {b:Blk} (h:Incl A M):Incl A (b::M)
inductive SubL:List Blk→List Blk→Prop where
 |nil {A:List Blk}:SubL [] A
 |cons {A B:List Blk} {g:Nat} {cs:List Value} {t:TypeId} (h:HasB A g cs t) (r:SubL B A):SubL ((g,cs,t)::B) A
theorem SubL.sub {A B:List Blk} (h:SubL B A):∀b∈B,b∈A:=by
 induction h with
 |nil=>intro b hb;cases hb
 |cons h _ ih=>
  intro b hb
  rcases List.mem_cons.1 hb with rfl |hb
  ·exact h.mem
  ·exact ih b hb
theorem BaseOK.yesS {L0 L:List Blk} {g:Nat} {cs:List Value} {T:TypeId} (h:HasB L0 g cs T) (hi:SubL L0 L):BaseOK .base L0 L g cs T:= .yes h hi.sub
theorem st_no {k:Kind} {A B:List Blk} (h:(match k with | .eff0=>false |_=>true)=true):k= .eff0→∀b∈A,b∈B:=fun e=>by subst e;cases h
theorem zqf {k:Kind} {A B:List Blk} (h:∀b∈A,b∈B):k= .eff0→∀b∈A,b∈B:=fun _=>h
section
variable {P:Program} {w0:World} {L0:List Blk} {ops rest:List Oper} {q:Bool} {E:List (Nat×Kind)} {K:Act→List Blk→Prop} {n:Nat} {l:List (Nat×Value)} {L:List Blk} {o:Oper} {d:Nat}
theorem qa9 (h:o.guard=none):qca ops n l o=true:=by simp [qca,h]
def Kind.okP:Kind→Bool | .pure | .quiet | .eff=>true |_=>false
theorem qfu {v:Value} (hw:qca ops n l o=true) (hd:o.dst=some d) (hk:Kind.okP (kf q E o)=true) (hv:∀L,QV P w0 o (evL n l) L v) (h:lexO P w0 L0 ops q E K rest (frm n ((d,v)::l)) L):lexO P w0 L0 ops q E K (o::rest) (frm n l) L:=by
 refine qt0 hw ?_ ?_ (hv L) (by rw [hd];exact h)
 ·revert hk;cases kf q E o<;>simp [Kind.okP,Kind.val]
 ·intro _
  revert hk
  cases kf q E o<;>intro hk<;>simp [Kind.okP] at hk
  ·exact hv
  ·exact hv L
  ·exact hv L
theorem HasB.of_mem {L:List Blk} {g:Nat} {cs:List Value} {t:TypeId} (h:(g,cs,t)∈L):HasB L g cs t:=by
 induction L with
 |nil=>cases h
 |cons b L ih=>
  rcases List.mem_cons.1 h with rfl |h
  ·exact .here
  ·exact .next (ih h)
theorem Incl.sub {L M:List Blk} (h:Incl L M):∀b∈L,b∈M:=by
 induction h with
 |refl=>exact fun b hb=>hb
 |cons _ ih=>exact fun b hb=> .tail _ (ih b hb)
theorem BaseOK.yesI {L0 L:List Blk} {g:Nat} {cs:List Value} {T:TypeId} (h:HasB L0 g cs T) (hi:Incl L0 L):BaseOK .base L0 L g cs T:= .yes h hi.sub
theorem zq4 {v:Value} {g:Nat} {cs:List Value} {T:TypeId} (hw:qca ops n l o=true) (hd:o.dst=some d) (hm:HasB L g cs T) (hb:BaseOK (kf q E o) L0 L g cs T) (hv:∀M,HasB M g cs T→QV P w0 o (evL n l) M v)
  (h:lexO P w0 L0 ops q E K rest (frm n ((d,v)::l)) L):lexO P w0 L0 ops q E K (o::rest) (frm n l) L:=by
 refine qt0 hw ?_ ?_ (hv L hm) (by rw [hd];exact h)
 ·revert hb
  generalize kf q E o=k
  intro hb
  cases hb with
  |no h=>revert h;cases k<;>simp [Kind.val]
  |yes _ _=>exact .inl rfl
 ·intro hval
  revert hb hval
  generalize kf q E o=k
  intro hb hval
  cases hb with
  |no h=>
   cases k<;>simp at h
   ·exact hv L hm
   ·exact hv L hm
  |yes h0 hi=>exact ⟨hi,fun M hM=>hv M (HasB.of_mem (hM _ h0.mem))⟩
theorem qda (hw:qca ops n l o=false:=by first |exact zp9 (by eq_refl) (by eq_refl) (by eq_refl) (by with_reducible assumption) |exact zov (by eq_refl) (by eq_refl) (by eq_refl) (by with_reducible assumption) |exact zo_ (by eq_refl) (by eq_refl) (by eq_refl) |fail) (hd:o.dst=some d:=by eq_refl) (h:lexO P w0 L0 ops q E K rest (frm n ((d,undef)::l)) L):lexO P w0 L0 ops q E K (o::rest) (frm n l) L:=zav hw (by rw [hd];exact h)
theorem qc7 (hw:qca ops n l o=true:=by first |exact qa9 (by eq_refl) |exact qcr (by eq_refl) (by eq_refl) (by eq_refl) (by with_reducible assumption) |exact qcw (by eq_refl) (by eq_refl) (by eq_refl) (by with_reducible assumption) |fail) (hd:o.dst=some d:=by eq_refl) {x:Operand} {v:Value} (hk:Kind.okP (kf q E o)=true:=by eq_refl) (ho:o.op= .move x:=by eq_refl) (hx:evO n l x=some v:=by eq_refl) (h:lexO P w0 L0 ops q E K rest (frm n ((d,v)::l)) L):lexO P w0 L0 ops q E K (o::rest) (frm n l) L:=
 qfu hw hd hk (fun L=>by have:=zpu (P:=P) (w0:=w0) (L:=L) (ρ:=evL n l) ho;rwa [qaz hx] at this) h
theorem qbm (hw:qca ops n l o=true:=by first |exact qa9 (by eq_refl) |exact qcr (by eq_refl) (by eq_refl) (by eq_refl) (by with_reducible assumption) |exact qcw (by eq_refl) (by eq_refl) (by eq_refl) (by with_reducible assumption) |fail) (hd:o.dst=some d:=by eq_refl) {x:Operand} {v:Value} (hk:Kind.okP (kf q E o)=true:=by eq_refl) (ho:o.op= .assign x:=by eq_refl) (hx:evO n l x=some v:=by eq_refl) (h:lexO P w0 L0 ops q E K rest (frm n ((d,v)::l)) L):lexO P w0 L0 ops q E K (o::rest) (frm n l) L:=
 qfu hw hd hk (fun L=>by have:=qyr (P:=P) (w0:=w0) (L:=L) (ρ:=evL n l) ho;rwa [qaz hx] at this) h
theorem qa4 (hw:qca ops n l o=true:=by first |exact qa9 (by eq_refl) |exact qcr (by eq_refl) (by eq_refl) (by eq_refl) (by with_reducible assumption) |exact qcw (by eq_refl) (by eq_refl) (by eq_refl) (by with_reducible assumption) |fail) (hd:o.dst=some d:=by eq_refl) {t:TypeId} {m:Nat} {x:Operand} {g off:Nat} {cs vs:List Value} {T:TypeId} (ho:o.op= .load t x:=by eq_refl) (hi:qcq P t=some (true,m):=by exact ti (by eq_refl)) (hx:evO n l x=some (.pointer (some ⟨g,off,none⟩)):=by eq_refl) (hm:HasB L g cs T:=by (repeat (first |apply HasB.here |apply HasB.next));first |done |fail) (hb:BaseOK (kf q E o) L0 L g cs T:=by first |exact BaseOK.no (by eq_refl) |exact BaseOK.yesI (by (repeat (first |apply HasB.here |apply HasB.next));first |done |fail) (by (repeat (first |apply Incl.refl |apply Incl.cons));first |done |fail) |exact BaseOK.yesS (by (repeat (first |apply HasB.here |apply HasB.next));first |done |fail) (by (repeat (first |apply SubL.nil |apply SubL.cons (by (repeat (first |apply HasB.here |apply HasB.next));first |done |fail)));first |done |fail) |fail) (hv:Sub cs off m vs:=by (repeat (first |apply Sub.done |apply Sub.take |apply Sub.skip));first |done |fail)
  (h:lexO P w0 L0 ops q E K rest (frm n ((d,.agg (List.toArray vs))::l)) L):lexO P w0 L0 ops q E K (o::rest) (frm n l) L:=
 zq4 hw hd hm hb (fun M hM=>q4p (hi:=hi) ho (qaz hx) hM hv.eq.1 hv.eq.2) h
theorem qa6 (hw:qca ops n l o=true:=by first |exact qa9 (by eq_refl) |exact qcr (by eq_refl) (by eq_refl) (by eq_refl) (by with_reducible assumption) |exact qcw (by eq_refl) (by eq_refl) (by eq_refl) (by with_reducible assumption) |fail) (hd:o.dst=some d:=by eq_refl) {t:TypeId} {m:Nat} {x:Operand} {g off:Nat} {cs:List Value} {v:Value} {T:TypeId} (ho:o.op= .load t x:=by eq_refl) (hi:qcq P t=some (false,m):=by exact ti (by eq_refl)) (hx:evO n l x=some (.pointer (some ⟨g,off,none⟩)):=by eq_refl) (hm:HasB L g cs T:=by (repeat (first |apply HasB.here |apply HasB.next));first |done |fail) (hb:BaseOK (kf q E o) L0 L g cs T:=by first |exact BaseOK.no (by eq_refl) |exact BaseOK.yesI (by (repeat (first |apply HasB.here |apply HasB.next));first |done |fail) (by (repeat (first |apply Incl.refl |apply Incl.cons));first |done |fail) |exact BaseOK.yesS (by (repeat (first |apply HasB.here |apply HasB.next));first |done |fail) (by (repeat (first |apply SubL.nil |apply SubL.cons (by (repeat (first |apply HasB.here |apply HasB.next));first |done |fail)));first |done |fail) |fail) (hv:Get cs off v:=by (repeat (first |apply Get.here |apply Get.next));first |done |fail)
  (h:lexO P w0 L0 ops q E K rest (frm n ((d,v)::l)) L):lexO P w0 L0 ops q E K (o::rest) (frm n l) L:=
 zq4 hw hd hm hb (fun M hM=>q47 (hi:=hi) ho (qaz hx) hM hv.eq) h
theorem qaw (hw:qca ops n l o=true:=by first |exact qa9 (by eq_refl) |exact qcr (by eq_refl) (by eq_refl) (by eq_refl) (by with_reducible assumption) |exact qcw (by eq_refl) (by eq_refl) (by eq_refl) (by with_reducible assumption) |fail) (hd:o.dst=some d:=by eq_refl) {t i off m:Nat} {x:Operand} {cs vs:List Value} (hk:Kind.okP (kf q E o)=true:=by eq_refl) (ho:o.op= .field t x i:=by eq_refl) (hi:qno P t i=some (off,true,m):=by exact fi (by eq_refl)) (hx:evO n l x=some (.agg (List.toArray cs)):=by eq_refl) (hv:Sub cs off m vs:=by (repeat (first |apply Sub.done |apply Sub.take |apply Sub.skip));first |done |fail)
  (h:lexO P w0 L0 ops q E K rest (frm n ((d,.agg (List.toArray vs))::l)) L):lexO P w0 L0 ops q E K (o::rest) (frm n l) L:=
 qfu hw hd hk (fun L=>qox (hi:=hi) ho (qaz hx) hv.eq.1) h
theorem qax (hw:qca ops n l o=true:=by first |exact qa9 (by eq_refl) |exact qcr (by eq_refl) (by eq_refl) (by eq_refl) (by with_reducible assumption) |exact qcw (by eq_refl) (by eq_refl) (by eq_refl) (by with_reducible assumption) |fail) (hd:o.dst=some d:=by eq_refl) {t i off m:Nat} {b:Bool} {x:Operand} {g k k':Nat} (hk:Kind.okP (kf q E o)=true:=by eq_refl) (ho:o.op= .fieldAddr t x i:=by eq_refl) (hi:qno P t i=some (off,b,m):=by exact fi (by eq_refl)) (hn:Nat.beq m 0=false:=by eq_refl) (hx:evO n l x=some (.pointer (some ⟨g,k,none⟩)):=by eq_refl) (hkk:k+off=k':=by first |exact Nat.zero_add _ |exact Nat.add_zero _ |eq_refl |fail)
  (h:lexO P w0 L0 ops q E K rest (frm n ((d,.pointer (some ⟨g,k',none⟩))::l)) L):lexO P w0 L0 ops q E K (o::rest) (frm n l) L:=
 qfu hw hd hk (fun L=>qk_ (hi:=hi) ho hn (qaz hx)) (by subst hkk;exact h)
theorem qbb (hw:qca ops n l o=true:=by first |exact qa9 (by eq_refl) |exact qcr (by eq_refl) (by eq_refl) (by eq_refl) (by with_reducible assumption) |exact qcw (by eq_refl) (by eq_refl) (by eq_refl) (by with_reducible assumption) |fail) (hd:o.dst=some d:=by eq_refl) {x:Operand} {vs:List Value} {v:Value} {i:Nat} (hk:Kind.okP (kf q E o)=true:=by eq_refl) (ho:o.op= .extract x i:=by eq_refl) (hx:evO n l x=some (.tuple (List.toArray vs)):=by eq_refl) (hv:Get vs i v:=by (repeat (first |apply Get.here |apply Get.next));first |done |fail) (h:lexO P w0 L0 ops q E K rest (frm n ((d,v)::l)) L):lexO P w0 L0 ops q E K (o::rest) (frm n l) L:=
 qfu hw hd hk (fun L=>qu1 ho (qaz hx) hv.eq) h
theorem qbo (hw:qca ops n l o=true:=by first |exact qa9 (by eq_refl) |exact qcr (by eq_refl) (by eq_refl) (by eq_refl) (by with_reducible assumption) |exact qcw (by eq_refl) (by eq_refl) (by eq_refl) (by with_reducible assumption) |fail) (hd:o.dst=some d:=by eq_refl) {c x y:Operand} {b:Bool} {v:Value} (hk:Kind.okP (kf q E o)=true:=by eq_refl) (ho:o.op= .pick c x y:=by eq_refl) (hc:evO n l c=some (.bool b):=by eq_refl) (hb:b=true:=by first |with_reducible assumption |with_reducible eq_refl |fail) (hx:evO n l x=some v:=by eq_refl) (h:lexO P w0 L0 ops q E K rest (frm n ((d,v)::l)) L):lexO P w0 L0 ops q E K (o::rest) (frm n l) L:=
 qfu hw hd hk (fun L=>q3t ho (qaz hc) hb (qaz hx)) h
theorem qbp (hw:qca ops n l o=true:=by first |exact qa9 (by eq_refl) |exact qcr (by eq_refl) (by eq_refl) (by eq_refl) (by with_reducible assumption) |exact qcw (by eq_refl) (by eq_refl) (by eq_refl) (by with_reducible assumption) |fail) (hd:o.dst=some d:=by eq_refl) {c x y:Operand} {b:Bool} {v:Value} (hk:Kind.okP (kf q E o)=true:=by eq_refl) (ho:o.op= .pick c x y:=by eq_refl) (hc:evO n l c=some (.bool b):=by eq_refl) (hb:b=false:=by first |with_reducible assumption |with_reducible eq_refl |fail) (hy:evO n l y=some v:=by eq_refl) (h:lexO P w0 L0 ops q E K rest (frm n ((d,v)::l)) L):lexO P w0 L0 ops q E K (o::rest) (frm n l) L:=
 qfu hw hd hk (fun L=>q3_ ho (qaz hc) hb (qaz hy)) h
theorem qb7 (hw:qca ops n l o=true:=by first |exact qa9 (by eq_refl) |exact qcr (by eq_refl) (by eq_refl) (by eq_refl) (by with_reducible assumption) |exact qcw (by eq_refl) (by eq_refl) (by eq_refl) (by with_reducible assumption) |fail) (hd:o.dst=some d:=by eq_refl) {t:TypeId} {z:List Value} {pl:List (Nat×Nat)} {parts:List (Nat×Operand)} {cs:List Value} (hk:Kind.okP (kf q E o)=true:=by eq_refl) (ho:o.op= .build t (List.toArray parts):=by eq_refl) (hi:BI P t z pl:=by exact biOf (by eq_refl)) (hf:FillR n l pl z parts cs:=by (repeat (first |apply FillR.nil |apply FillR.cons (by eq_refl) (by eq_refl) (by first |apply CellsR.agg |exact CellsR.one (by eq_refl) |fail) (by (repeat (first |apply Spl.done |apply Spl.put |apply Spl.skip));first |done |fail) (by eq_refl)));first |done |fail)
  (h:lexO P w0 L0 ops q E K rest (frm n ((d,.agg (List.toArray cs))::l)) L):lexO P w0 L0 ops q E K (o::rest) (frm n l) L:=
 qfu hw hd hk (fun L=>zcs (hi:=hi) ho rfl (by simpa using hf.eq)) h
theorem qes (hw:qca ops n l o=true:=by first |exact qa9 (by eq_refl) |exact qcr (by eq_refl) (by eq_refl) (by eq_refl) (by with_reducible assumption) |exact qcw (by eq_refl) (by eq_refl) (by eq_refl) (by with_reducible assumption) |fail) (hd:o.dst=some d:=by eq_refl) {op:BinOp} {t ty:TypeId} {x y:Operand} {k:IntKind} {a b:Int} {v:Value} (hk:Kind.okP (kf q E o)=true:=by eq_refl) (ho:o.op= .binOp op t x y ty:=by eq_refl) (hx:evO n l x=some (.int k a):=by eq_refl) (hy:evO n l y=some (.int k b):=by eq_refl) (hv:qbx op k a b=some v:=by first |with_reducible assumption |eq_refl)
  (h:lexO P w0 L0 ops q E K rest (frm n ((d,v)::l)) L):lexO P w0 L0 ops q E K (o::rest) (frm n l) L:=
 qfu hw hd hk (fun L=>qwa ho (qaz hx) (qaz hy) hv) h
theorem qe1 (hw:qca ops n l o=true:=by first |exact qa9 (by eq_refl) |exact qcr (by eq_refl) (by eq_refl) (by eq_refl) (by with_reducible assumption) |exact qcw (by eq_refl) (by eq_refl) (by eq_refl) (by with_reducible assumption) |fail) (hd:o.dst=some d:=by eq_refl) {t ty:TypeId} {x y:Operand} {k:IntKind} {a b:Int} (hk:Kind.okP (kf q E o)=true:=by eq_refl) (ho:o.op= .binOp .quo t x y ty:=by eq_refl) (hx:evO n l x=some (.int k a):=by eq_refl) (hy:evO n l y=some (.int k b):=by eq_refl) (hb:(b==0)=false:=by first |with_reducible assumption |eq_refl) {r:Int} (hc:k.wrap (a.tdiv b)=r:=by first |with_reducible assumption |eq_refl)
  (h:lexO P w0 L0 ops q E K rest (frm n ((d,.int k r)::l)) L):lexO P w0 L0 ops q E K (o::rest) (frm n l) L:=
 qfu hw hd hk (fun L=>z16 ho (qaz hx) (qaz hy) hb) (by rw [hc];exact h)
theorem qe3 (hw:qca ops n l o=true:=by first |exact qa9 (by eq_refl) |exact qcr (by eq_refl) (by eq_refl) (by eq_refl) (by with_reducible assumption) |exact qcw (by eq_refl) (by eq_refl) (by eq_refl) (by with_reducible assumption) |fail) (hd:o.dst=some d:=by eq_refl) {t ty:TypeId} {x y:Operand} {k:IntKind} {a b:Int} (hk:Kind.okP (kf q E o)=true:=by eq_refl) (ho:o.op= .binOp .rem t x y ty:=by eq_refl) (hx:evO n l x=some (.int k a):=by eq_refl) (hy:evO n l y=some (.int k b):=by eq_refl) (hb:(b==0)=false:=by first |with_reducible assumption |eq_refl) {r:Int} (hc:a.tmod b=r:=by first |with_reducible assumption |eq_refl)
  (h:lexO P w0 L0 ops q E K rest (frm n ((d,.int k r)::l)) L):lexO P w0 L0 ops q E K (o::rest) (frm n l) L:=
 qfu hw hd hk (fun L=>zlb ho (qaz hx) (qaz hy) hb) (by rw [hc];exact h)
theorem qeu (hw:qca ops n l o=true:=by first |exact qa9 (by eq_refl) |exact qcr (by eq_refl) (by eq_refl) (by eq_refl) (by with_reducible assumption) |exact qcw (by eq_refl) (by eq_refl) (by eq_refl) (by with_reducible assumption) |fail) (hd:o.dst=some d:=by eq_refl) {t ty:TypeId} {x y:Operand} {k k':IntKind} {a b:Int} (hk:Kind.okP (kf q E o)=true:=by eq_refl) (ho:o.op= .binOp .shl t x y ty:=by eq_refl) (hx:evO n l x=some (.int k a):=by eq_refl) (hy:evO n l y=some (.int k' b):=by eq_refl) (hb:decide (b<0)=false:=by first |with_reducible assumption |eq_refl) {r:Int} (hc:k.wrap (a * 2 ^ (min b.toNat k.bits))=r:=by first |with_reducible assumption |eq_refl)
  (h:lexO P w0 L0 ops q E K rest (frm n ((d,.int k r)::l)) L):lexO P w0 L0 ops q E K (o::rest) (frm n l) L:=
 qfu hw hd hk (fun L=>zyg ho (qaz hx) (qaz hy) hb) (by rw [hc];exact h)
theorem qep (hw:qca ops n l o=true:=by first |exact qa9 (by eq_refl) |exact qcr (by eq_refl) (by eq_refl) (by eq_refl) (by with_reducible assumption) |exact qcw (by eq_refl) (by eq_refl) (by eq_refl) (by with_reducible assumption) |fail) (hd:o.dst=some d:=by eq_refl) {t ty:TypeId} {x y:Operand} {k k':IntKind} {a b:Int} (hk:Kind.okP (kf q E o)=true:=by eq_refl) (ho:o.op= .binOp .shr t x y ty:=by eq_refl) (hx:evO n l x=some (.int k a):=by eq_refl) (hy:evO n l y=some (.int k' b):=by eq_refl) (hb:decide (b<0)=false:=by first |with_reducible assumption |eq_refl) {r:Int} (hc:a.fdiv (2 ^ (min b.toNat k.bits))=r:=by first |with_reducible assumption |eq_refl)
  (h:lexO P w0 L0 ops q E K rest (frm n ((d,.int k r)::l)) L):lexO P w0 L0 ops q E K (o::rest) (frm n l) L:=
 qfu hw hd hk (fun L=>zuc ho (qaz hx) (qaz hy) hb) (by rw [hc];exact h)
theorem qe6 (hw:qca ops n l o=true:=by first |exact qa9 (by eq_refl) |exact qcr (by eq_refl) (by eq_refl) (by eq_refl) (by with_reducible assumption) |exact qcw (by eq_refl) (by eq_refl) (by eq_refl) (by with_reducible assumption) |fail) (hd:o.dst=some d:=by eq_refl) {t ty:TypeId} {x y:Operand} {a b:Bool} (hk:Kind.okP (kf q E o)=true:=by eq_refl) (ho:o.op= .binOp .eql t x y ty:=by eq_refl) (hi:P.underlying t=some .bool:=by first |exact btA0 |fail) (hx:evO n l x=some (.bool a):=by eq_refl) (hy:evO n l y=some (.bool b):=by eq_refl)
  (h:lexO P w0 L0 ops q E K rest (frm n ((d,.bool (a==b))::l)) L):lexO P w0 L0 ops q E K (o::rest) (frm n l) L:=
 qfu hw hd hk (fun L=>zx1 (hi:=hi) ho (qaz hx) (qaz hy)) h
theorem qex (hw:qca ops n l o=true:=by first |exact qa9 (by eq_refl) |exact qcr (by eq_refl) (by eq_refl) (by eq_refl) (by with_reducible assumption) |exact qcw (by eq_refl) (by eq_refl) (by eq_refl) (by with_reducible assumption) |fail) (hd:o.dst=some d:=by eq_refl) {t ty:TypeId} {x y:Operand} {a b:Bool} (hk:Kind.okP (kf q E o)=true:=by eq_refl) (ho:o.op= .binOp .neq t x y ty:=by eq_refl) (hi:P.underlying t=some .bool:=by first |exact btA0 |fail) (hx:evO n l x=some (.bool a):=by eq_refl) (hy:evO n l y=some (.bool b):=by eq_refl)
  (h:lexO P w0 L0 ops q E K rest (frm n ((d,.bool (!(a==b)))::l)) L):lexO P w0 L0 ops q E K (o::rest) (frm n l) L:=
 qfu hw hd hk (fun L=>zr5 (hi:=hi) ho (qaz hx) (qaz hy)) h
theorem qew (hw:qca ops n l o=true:=by first |exact qa9 (by eq_refl) |exact qcr (by eq_refl) (by eq_refl) (by eq_refl) (by with_reducible assumption) |exact qcw (by eq_refl) (by eq_refl) (by eq_refl) (by with_reducible assumption) |fail) (hd:o.dst=some d:=by eq_refl) {t ty:TypeId} {x y:Operand} {xs ys:List Value} {b:Bool} (hk:Kind.okP (kf q E o)=true:=by eq_refl) (ho:o.op= .binOp .eql t x y ty:=by eq_refl) (hx:evO n l x=some (.agg (List.toArray xs)):=by eq_refl) (hy:evO n l y=some (.agg (List.toArray ys)):=by eq_refl) (hb:EqOK P t xs ys b:=by first |exact eqA0 |exact eqA8 |fail)
  (h:lexO P w0 L0 ops q E K rest (frm n ((d,.bool b)::l)) L):lexO P w0 L0 ops q E K (o::rest) (frm n l) L:=
 qfu hw hd hk (fun L=>ztv ho (qaz hx) (qaz hy) hb) h
theorem qet (hw:qca ops n l o=true:=by first |exact qa9 (by eq_refl) |exact qcr (by eq_refl) (by eq_refl) (by eq_refl) (by with_reducible assumption) |exact qcw (by eq_refl) (by eq_refl) (by eq_refl) (by with_reducible assumption) |fail) (hd:o.dst=some d:=by eq_refl) {t ty:TypeId} {x y:Operand} {xs ys:List Value} {b:Bool} (hk:Kind.okP (kf q E o)=true:=by eq_refl) (ho:o.op= .binOp .neq t x y ty:=by eq_refl) (hx:evO n l x=some (.agg (List.toArray xs)):=by eq_refl) (hy:evO n l y=some (.agg (List.toArray ys)):=by eq_refl) (hb:EqOK P t xs ys b:=by first |exact eqA0 |exact eqA8 |fail)
  (h:lexO P w0 L0 ops q E K rest (frm n ((d,.bool (!b))::l)) L):lexO P w0 L0 ops q E K (o::rest) (frm n l) L:=
 qfu hw hd hk (fun L=>zq_ ho (qaz hx) (qaz hy) hb) h
theorem qe5 (hw:qca ops n l o=true:=by first |exact qa9 (by eq_refl) |exact qcr (by eq_refl) (by eq_refl) (by eq_refl) (by with_reducible assumption) |exact qcw (by eq_refl) (by eq_refl) (by eq_refl) (by with_reducible assumption) |fail) (hd:o.dst=some d:=by eq_refl) {t:TypeId} {x:Operand} {b:Bool} (hk:Kind.okP (kf q E o)=true:=by eq_refl) (ho:o.op= .unOp .not t x:=by eq_refl) (hx:evO n l x=some (.bool b):=by eq_refl) (h:lexO P w0 L0 ops q E K rest (frm n ((d,.bool (!b))::l)) L):lexO P w0 L0 ops q E K (o::rest) (frm n l) L:=
 qfu hw hd hk (fun L=>zyx ho (qaz hx)) h
theorem qc9 (hw:qca ops n l o=true:=by first |exact qa9 (by eq_refl) |exact qcr (by eq_refl) (by eq_refl) (by eq_refl) (by with_reducible assumption) |exact qcw (by eq_refl) (by eq_refl) (by eq_refl) (by with_reducible assumption) |fail) (hd:o.dst=some d:=by eq_refl) {s e:TypeId} {k k':IntKind} {x:Operand} {k2:IntKind} {a:Int} (hk:Kind.okP (kf q E o)=true:=by eq_refl) (ho:o.op= .convert s e x:=by eq_refl) (hs:P.underlying s=some (.int k'):=by exact ii (by eq_refl)) (hd':P.underlying e=some (.int k):=by exact ii (by eq_refl)) (hx:evO n l x=some (.int k2 a):=by eq_refl) (h:lexO P w0 L0 ops q E K rest (frm n ((d,.int k (k.wrap a))::l)) L):lexO P w0 L0 ops q E K (o::rest) (frm n l) L:=
 qfu hw hd hk (fun L=>zfe (hs:=hs) (hd:=hd') ho (qaz hx)) h
theorem qwp (hw:qca ops n l o=true:=by first |exact qa9 (by eq_refl) |exact qcr (by eq_refl) (by eq_refl) (by eq_refl) (by with_reducible assumption) |exact qcw (by eq_refl) (by eq_refl) (by eq_refl) (by with_reducible assumption) |fail) (hd:o.dst=some d:=by eq_refl) {t e m:Nat} {b:Bool} {x y:Operand} {g off len cap:Nat} {k:IntKind} {i:Int} (hk:Kind.okP (kf q E o)=true:=by eq_refl) (ho:o.op= .indexAddr t x y:=by eq_refl) (hs:P.underlying t=some (.slice e):=by exact si (by eq_refl)) (hi:qcq P e=some (b,m):=by exact ti (by eq_refl)) (hx:evO n l x=some (.slice (some ⟨g,off,none⟩) len cap):=by eq_refl) (hy:evO n l y=some (.int k i):=by eq_refl)
  (hb:0≤i∧i<(len:Int):=by first |with_reducible assumption |decide |omega) (h:lexO P w0 L0 ops q E K rest (frm n ((d,.pointer (some ⟨g,off+i.toNat * m,none⟩))::l)) L):lexO P w0 L0 ops q E K (o::rest) (frm n l) L:=
 qfu hw hd hk (fun L=>qi0 (hs:=hs) (hi:=hi) ho (qaz hx) (qaz hy) hb) h
theorem qau (hw:qca ops n l o=true:=by first |exact qa9 (by eq_refl) |exact qcr (by eq_refl) (by eq_refl) (by eq_refl) (by with_reducible assumption) |exact qcw (by eq_refl) (by eq_refl) (by eq_refl) (by with_reducible assumption) |fail) (hd:o.dst=some d:=by eq_refl) {t e:Nat} {c:Call} {x:Operand} {a:Option Addr} {len cap:Nat} (hk:Kind.okP (kf q E o)=true:=by eq_refl) (ho:o.op= .call c:=by eq_refl) (hc:c.callee= .builtin .len:=by eq_refl) (ht:c.argTypes[0]? =some t:=by eq_refl) (hs:P.underlying t=some (.slice e):=by exact si (by eq_refl)) (ha:c.args=#[x]:=by eq_refl) (hx:evO n l x=some (.slice a len cap):=by eq_refl)
  (h:lexO P w0 L0 ops q E K rest (frm n ((d,.int .i64 (len:Int))::l)) L):lexO P w0 L0 ops q E K (o::rest) (frm n l) L:=
 qfu hw hd hk (fun L=>qge (hs:=hs) ho hc ht ha (qaz hx)) h
theorem qa0 (hw:qca ops n l o=true:=by first |exact qa9 (by eq_refl) |exact qcr (by eq_refl) (by eq_refl) (by eq_refl) (by with_reducible assumption) |exact qcw (by eq_refl) (by eq_refl) (by eq_refl) (by with_reducible assumption) |fail) (hd:o.dst=some d:=by eq_refl) {c:Call} {f:FuncId} {v:Value} {xs:List Operand} {vs:List Value} (hk:Kind.okP (kf q E o)=true:=by eq_refl) (ho:o.op= .call c:=by eq_refl) (hc:c.callee= .value (.func f):=by eq_refl) (hf:isFn P f=true:=by exact fn (by eq_refl)) (ha:c.args=List.toArray xs:=by eq_refl) (hr:ArgsR n l xs vs:=by (repeat (first |apply ArgsR.nil |apply ArgsR.cons (by eq_refl)));first |done |fail) (hp:Pure P f (List.toArray vs) v)
  (h:lexO P w0 L0 ops q E K rest (frm n ((d,v)::l)) L):lexO P w0 L0 ops q E K (o::rest) (frm n l) L:=
 qfu hw hd hk (fun L=>z7q (hf:=hf) ho hc rfl (by rw [ha];exact hr.eq) hp) h
theorem z0v (hw:qca ops n l o=true:=by first |exact qa9 (by eq_refl) |exact qcr (by eq_refl) (by eq_refl) (by eq_refl) (by with_reducible assumption) |exact qcw (by eq_refl) (by eq_refl) (by eq_refl) (by with_reducible assumption) |fail) (hd:o.dst=some d:=by eq_refl) {c:Call} {f:FuncId} {v:Value} {xs:List Operand} {vs:List Value} (hk:kf q E o= .quiet∨kf q E o= .eff:=by first |exact Or.inl (by eq_refl) |exact Or.inr (by eq_refl) |fail) (ho:o.op= .call c:=by eq_refl) (hc:c.callee= .value (.func f):=by eq_refl) (hf:isFn P f=true:=by exact fn (by eq_refl)) (ha:c.args=List.toArray xs:=by eq_refl) (hr:ArgsR n l xs vs:=by (repeat (first |apply ArgsR.nil |apply ArgsR.cons (by eq_refl)));first |done |fail)
  (hp:∀w,Own w0 L w→Calls P f (List.toArray vs) w fun e w'=>e= .returned v∧Below w.heap.size w w')
  (h:lexO P w0 L0 ops q E K rest (frm n ((d,v)::l)) L):lexO P w0 L0 ops q E K (o::rest) (frm n l) L:=
 have hq:QV P w0 o (evL n l) L v:=z2s (hf:=hf) ho hc rfl (by rw [ha];exact hr.eq) hp
 qt0 hw (by rcases hk with hk |hk<;>rw [hk]<;>simp [Kind.val]) (fun _=>by rcases hk with hk |hk<;>rw [hk]<;>exact hq) hq (by rw [hd];exact h)
theorem qey (hw:qca ops n l o=true:=by first |exact qa9 (by eq_refl) |exact qcr (by eq_refl) (by eq_refl) (by eq_refl) (by with_reducible assumption) |exact qcw (by eq_refl) (by eq_refl) (by eq_refl) (by with_reducible assumption) |fail) (hd:o.dst=some d:=by eq_refl) {t:TypeId} {x:Operand} {v:Value} {cs:List Value} (ho:o.op= .box t x:=by eq_refl) (hx:evO n l x=some v:=by eq_refl) (hc:CellsR v cs:=by first |apply CellsR.agg |exact CellsR.one (by eq_refl) |fail)
  (h:∀g,lexO P w0 L0 ops q E K rest (frm n ((d,.pointer (some ⟨g,0,none⟩))::l)) ((g,cs,t)::L)):lexO P w0 L0 ops q E K (o::rest) (frm n l) L:=
 qtb (k:=none) (cs:=cs) (t:=t) hw (by simp [kf,ho]) (by simp only [qfg,ho,qaz hx,hc.eq]) fun g=>by rw [hd];exact h g
theorem qb8 (hw:qca ops n l o=true:=by first |exact qa9 (by eq_refl) |exact qcr (by eq_refl) (by eq_refl) (by eq_refl) (by with_reducible assumption) |exact qcw (by eq_refl) (by eq_refl) (by eq_refl) (by with_reducible assumption) |fail) (hd:o.dst=some d:=by eq_refl) {t:TypeId} {z:Value} {cs:List Value} (ho:o.op= .alloc t:=by eq_refl) (hz:qdg P t=some z:=by exact ziOf (by eq_refl)) (hc:CellsR z cs:=by first |apply CellsR.agg |exact CellsR.one (by eq_refl) |fail)
  (h:∀g,lexO P w0 L0 ops q E K rest (frm n ((d,.pointer (some ⟨g,0,none⟩))::l)) ((g,cs,t)::L)):lexO P w0 L0 ops q E K (o::rest) (frm n l) L:=
 qtb (k:=none) (cs:=cs) (t:=t) hw (by simp [kf,ho]) (by have:=hz;unfold qdg at this;simp only [qfg,ho,this,Option.map_some,hc.eq]) fun g=>by rw [hd];exact h g
theorem qb9 (hw:qca ops n l o=true:=by first |exact qa9 (by eq_refl) |exact qcr (by eq_refl) (by eq_refl) (by eq_refl) (by with_reducible assumption) |exact qcw (by eq_refl) (by eq_refl) (by eq_refl) (by with_reducible assumption) |fail) {t:TypeId} {m:Nat} {b:Bool} {x y:Operand} {g off:Nat} {v:Value} {cs vs cs':List Value} {T:TypeId} {L':List Blk} (hd:o.dst=none:=by eq_refl) (hk:kf q E o= .eff∨kf q E o= .eff0:=by first |exact Or.inl (by eq_refl) |exact Or.inr (by eq_refl) |fail) (ho:o.op= .store t x y:=by eq_refl) (hi:qcq P t=some (b,m):=by exact ti (by eq_refl)) (hx:evO n l x=some (.pointer (some ⟨g,off,none⟩)):=by eq_refl)
  (hy:evO n l y=some v:=by eq_refl) (hv:CellsR v vs:=by first |apply CellsR.agg |exact CellsR.one (by eq_refl) |fail) (hm:HasB L g cs T:=by (repeat (first |apply HasB.here |apply HasB.next));first |done |fail) (hc:Spl cs off vs cs':=by (repeat (first |apply Spl.done |apply Spl.put |apply Spl.skip));first |done |fail) (hs:SetB L g cs T cs' L':=by (repeat (first |apply SetB.here |apply SetB.next));first |done |fail) (hn:Nat.beq vs.length m=true:=by eq_refl) (ha:vs.all oneC=true:=by eq_refl) (h0:kf q E o= .eff0→∀b∈L0,b∈L':=by first |exact st_no (by eq_refl) |exact zqf (Incl.sub (by (repeat (first |apply Incl.refl |apply Incl.cons));first |done |fail)) |exact zqf (SubL.sub (by (repeat (first |apply SubL.nil |apply SubL.cons (by (repeat (first |apply HasB.here |apply HasB.next));first |done |fail)));first |done |fail)) |fail)
  (h:lexO P w0 L0 ops q E K rest (frm n l) L'):lexO P w0 L0 ops q E K (o::rest) (frm n l) L:=
 z99 (v:=undef) hw hk h0 (qxo (hi:=hi) ho (qaz hx) (by rw [qaz hy];exact hv.eq) hs hn ha (by rw [Nat.ble_eq];exact hc.eq.2) hc.eq.1) (by rw [hd];exact h)
end
section
variable {P:Program} {w0:World} {n:Nat} {l:List (Nat×Value)} {L:List Blk} {Q:Exit→Act→World→Prop} {x y:Code}
theorem qc_ {c:Operand} {e:Bool} (hc:evO n l c=some (.bool e):=by eq_refl) (he:e=true:=by first |with_reducible assumption |with_reducible eq_refl |fail) (h:J P w0 x Q (frm n l) L):J P w0 (.cond c x y) Q (frm n l) L:=zpk (by rw [qaz hc,he]) h
theorem qb_ {c:Operand} {e:Bool} (hc:evO n l c=some (.bool e):=by eq_refl) (he:e=false:=by first |with_reducible assumption |with_reducible eq_refl |fail) (h:J P w0 y Q (frm n l) L):J P w0 (.cond c x y) Q (frm n l) L:=zc0 (by rw [qaz hc,he]) h
theorem qb5 {c:Operand} {e:Bool} (hc:evO n l c=some (.bool e):=by eq_refl) (ht:e=true→J P w0 x Q (frm n l) L) (hf:e=false→J P w0 y Q (frm n l) L):J P w0 (.cond c x y) Q (frm n l) L:=z0o (qaz hc) ht hf
theorem qfj {t:Tmp} {v:Value} (h:evO n l (.tmp t)=some v:=by eq_refl):RV P w0 n l L (.tmp t) v:=qaz h
theorem qfp {a:Tmp} {t:TypeId} {m:Nat} (hi:qcq P t=some (true,m):=by exact ti (by eq_refl)) {g off:Nat} {cs vs:List Value} {T:TypeId} (hx:evO n l (.tmp a)=some (.pointer (some ⟨g,off,none⟩)):=by eq_refl) (hm:HasB L g cs T:=by (repeat (first |apply HasB.here |apply HasB.next));first |done |fail) (hv:Sub cs off m vs:=by (repeat (first |apply Sub.done |apply Sub.take |apply Sub.skip));first |done |fail):RV P w0 n l L (.cell a t) (.agg (List.toArray vs)):=z5y (hi:=hi) (qaz hx) hm hv.eq.1 hv.eq.2
theorem zvi {f:FuncId} {fn:Func} {c:Code} {args:List Value} {v:Value} {m:Nat} (hf:P.funcs[f]? =some fn) (hb:fn.body=some c) (hn:fn.ntmps=m) (hl:Nat.ble args.length m=true) (h0:initL args=l)
  (h:∀w0,J P w0 c (bodyPost P fn (fun e w'=>e= .returned v∧Below w0.heap.size w0 w')) (frm m l) []):Pure P f (List.toArray args) v:=by
 subst h0;exact z4p hf hb hn hl h
end
inductive RowR (n:Nat) (l:List (Nat×Value)) (m:Nat):Nat→List (Nat×Operand)→List Value→Prop where
 |nil {i}:RowR n l m i [] []
 |cons {i x r v vs cs} (h:evO n l x=some v) (hc:CellsR v vs) (hm:Nat.beq vs.length m=true) (t:RowR n l m (i+1) r cs):RowR n l m i ((i,x)::r) (vs++cs)
theorem RowR.len {n:Nat} {l:List (Nat×Value)} {m i:Nat} {ps:List (Nat×Operand)} {cs:List Value} (h:RowR n l m i ps cs):cs.length=ps.length * m:=by
 induction h with
 |nil=>simp
 | @cons i x r v vs cs h hc hm t ih=>
  have hm:=Nat.eq_of_beq_eq_true hm
  simp only [List.length_append,List.length_cons,ih,hm,Nat.add_mul,Nat.one_mul];omega
theorem RowR.fill {n:Nat} {l:List (Nat×Value)} {m i:Nat} {ps:List (Nat×Operand)} {cs:List Value} (h:RowR n l m i ps cs):∀(pre post:List Value),pre.length=i * m→post.length=ps.length * m→
  Instr.fill (fun j=>some (j * m,m)) (pre++post).toArray (ps.map fun x=>(x.1,evL n l x.2))=some (pre++cs).toArray:=by
 induction h with
 |nil=>intro pre post h1 h2;have:post=[]:=List.length_eq_zero_iff.1 (by simpa using h2);subst this;rfl
 | @cons i x r v vs cs h hc hm t ih=>
  intro pre post h1 h2
  have hm:=Nat.eq_of_beq_eq_true hm
  have hce:=hc.eq
  have hsz:v.cells.size=m:=by rw [←hm,←hce];simp
  simp only [List.length_cons,Nat.add_mul,Nat.one_mul] at h2
  simp only [List.map_cons,Instr.fill,qaz h]
  rw [if_neg (by simp [hsz];omega)]
  have h3:=qjn v.cells.toList (pre++post).toArray (i * m) (by simp [hsz];omega)
  have h4:v.cells.zipIdx.foldl (fun (cs:Array Value) (x:Value×Nat)=>cs.setIfInBounds (i * m+x.2) x.1) (pre++post).toArray=((pre++vs)++post.drop m).toArray:=by
   have h5:qdy (pre++post) (i * m) vs=(pre++vs)++post.drop m:=by
    unfold qdy
    rw [List.take_append_of_le_length (by omega),List.take_of_length_le (by omega),hm,List.drop_append,List.drop_eq_nil_of_le (by omega)]
    simp [h1]
   rw [hce] at h3
   rw [←h5]
   rw [←hce] at h3 ⊢
   rw [←h3,←Array.foldl_toList];simp
  show Instr.fill _ (v.cells.zipIdx.foldl (fun (cs:Array Value) (x:Value×Nat)=>cs.setIfInBounds (i * m+x.2) x.1) (pre++post).toArray) _=_
  rw [h4,ih (pre++vs) (post.drop m) (by simp [h1,hm,Nat.add_mul]) (by simp;omega),List.append_assoc]
structure EZ (P:Program) (e:TypeId):Prop where
 pf:∃i z,P.info? e=some i∧i.zero=some z
theorem ez_of {P:Program} {e:TypeId} {z:Value} (h:qdg P e=some z):EZ P e:=by
 unfold qdg at h
 simp only [Option.bind_eq_some_iff] at h
 obtain ⟨i,h1,h2⟩:=h
 exact ⟨i,z,h1,h2⟩
section
variable {P:Program} {w0:World} {L0:List Blk} {ops rest:List Oper} {q:Bool} {E:List (Nat×Kind)} {K:Act→List Blk→Prop} {n:Nat} {l:List (Nat×Value)} {L:List Blk} {o:Oper} {d:Nat}
theorem qsc {t e:TypeId} {len m:Nat} {b:Bool} (hs:P.underlying t=some (.slice e)) (hi:qcq P e=some (b,m)) (hz:EZ P e) {ps:List (Nat×Operand)} {cs:List Value} (ho:o.op= .buildSlice t len (List.toArray ps)) (hr:RowR n l m 0 ps cs) (hl:ps.length=len)
  (h1:Nat.ble (len * m) 16777216=true) (h2:Nat.beq (len * m) 0=false):qfg P o (evL n l)=some (some len,cs,e):=by
 obtain ⟨i,z,hi',hz'⟩:=hz.pf
 have hm:i.size=m:=by
  have:=hi
  unfold qcq at this
  split at this
  ·rename_i d' i' _ hi2
   rw [hi'] at hi2
   simp only [Option.some.injEq,Prod.mk.injEq] at this hi2
   rw [hi2];exact this.2
  ·cases this
 have h1:=Nat.le_of_ble_eq_true h1
 have h2:len * m≠0:=fun e=>by rw [e] at h2;simp at h2
 unfold qfg
 simp only [ho,hs,hi',hz',hm]
 rw [if_neg (by omega)]
 have:=hr.fill [] ((List.range (len * m)).map fun i=>z.cells[i % z.cells.size]!) (by simp) (by simp [hl])
 simp only [List.nil_append] at this
 have e1:(Array.map (fun i=>z.cells[i % z.cells.size]!) (Array.range (len * m)))=((List.range (len * m)).map fun i=>z.cells[i % z.cells.size]!).toArray:=by
  apply Array.ext';simp
 have e2:(Array.map (fun (x:Nat×Operand)=>(x.1,evL n l x.2)) (List.toArray ps)).toList=ps.map fun x=>(x.1,evL n l x.2):=by simp
 show (Instr.fill (fun j=>some (j * m,m)) (Array.map (fun i=>z.cells[i % z.cells.size]!) (Array.range (len * m))) (Array.map (fun (x:Nat×Operand)=>(x.1,evL n l x.2)) (List.toArray ps)).toList).map _=_
 rw [e1,e2,this]
 simp
theorem qal {t e:TypeId} {len m:Nat} {b:Bool} {ps:List (Nat×Operand)} {cs:List Value} (hw:qca ops n l o=true:=by first |exact qa9 (by eq_refl) |exact qcr (by eq_refl) (by eq_refl) (by eq_refl) (by with_reducible assumption) |exact qcw (by eq_refl) (by eq_refl) (by eq_refl) (by with_reducible assumption) |fail) (hd:o.dst=some d:=by eq_refl) (ho:o.op= .buildSlice t len (List.toArray ps):=by eq_refl) (hs:P.underlying t=some (.slice e):=by exact si (by eq_refl)) (hi:qcq P e=some (b,m):=by exact ti (by eq_refl)) (hz:EZ P e:=by exact ez_of (ziOf (by eq_refl))) (hr:RowR n l m 0 ps cs:=by (repeat (first |apply RowR.nil |apply RowR.cons (by eq_refl) (by first |apply CellsR.agg |exact CellsR.one (by eq_refl) |fail) (by eq_refl)));first |done |fail) (hl:ps.length=len:=by eq_refl)
  (h1:Nat.ble (len * m) 16777216=true:=by eq_refl) (h2:Nat.beq (len * m) 0=false:=by eq_refl)
  (h:∀g,lexO P w0 L0 ops q E K rest (frm n ((d,.slice (some ⟨g,0,none⟩) len len)::l)) ((g,cs,e)::L)):lexO P w0 L0 ops q E K (o::rest) (frm n l) L:=
 qtb (k:=some len) (cs:=cs) (t:=e) hw (by simp [kf,ho]) (qsc (hs:=hs) (hi:=hi) (hz:=hz) ho hr hl h1 h2) fun g=>by rw [hd];exact h g
theorem qah {t e len m:Nat} {b:Bool} {x y:Operand} {g off j:Nat} {k:IntKind} {i:Int} (hw:qca ops n l o=true:=by first |exact qa9 (by eq_refl) |exact qcr (by eq_refl) (by eq_refl) (by eq_refl) (by with_reducible assumption) |exact qcw (by eq_refl) (by eq_refl) (by eq_refl) (by with_reducible assumption) |fail) (hd:o.dst=some d:=by eq_refl) (hk:Kind.okP (kf q E o)=true:=by eq_refl) (ho:o.op= .indexAddr t x y:=by eq_refl) (ha:P.underlying t=some (.array len e):=by exact ai (by eq_refl)) (hi:qcq P e=some (b,m):=by exact ti (by eq_refl)) (hx:evO n l x=some (.pointer (some ⟨g,off,none⟩)):=by eq_refl) (hy:evO n l y=some (.int k i):=by eq_refl)
  (hb:0≤i∧i<(len:Int):=by first |with_reducible assumption |decide |omega) (hj:off+i.toNat * m=j:=by first |(simp;rfl) |rfl) (h:lexO P w0 L0 ops q E K rest (frm n ((d,.pointer (some ⟨g,j,none⟩))::l)) L):lexO P w0 L0 ops q E K (o::rest) (frm n l) L:=
 qfu hw hd hk (fun L=>q_of fun w _=>by
  simp only [execOp,ho,qaz hx,qaz hy]
  refine qgt ?_
  have ht:((if len≤1 then true else false)&&true)=true∨True:= .inr trivial
  simp only [Instr.indexAt,asIntOf,Sem.run_bind,Sem.run_pure,Result.andThen_ok,run_underlying ha w,Instr.sureAddr,hb,and_self,if_true,qde hi w,qds,hj]) h
def q0_ (w0:World) (g off:Nat) (cs:List Value):Prop:=g<w0.heap.size∧∀j v,cs[j]? =some v→w0.cell? ⟨g,off+j,none⟩=some v
def Kind.okO:Kind→Bool | .pure | .quiet | .eff | .base=>true |_=>false
theorem yav {v:Value} (hw:qca ops n l o=true) (hd:o.dst=some d) (hk:Kind.okO (kf q E o)=true) (hi:Incl L0 L) (hv:∀L,QV P w0 o (evL n l) L v) (h:lexO P w0 L0 ops q E K rest (frm n ((d,v)::l)) L):lexO P w0 L0 ops q E K (o::rest) (frm n l) L:=by
 refine qt0 hw ?_ ?_ (hv L) (by rw [hd];exact h)
 ·revert hk;cases kf q E o<;>simp [Kind.okO,Kind.val]
 ·intro _
  revert hk
  cases kf q E o<;>intro hk<;>simp [Kind.okO] at hk
  ·exact hv
  ·exact ⟨hi.sub,fun M _=>hv M⟩
  ·exact hv L
  ·exact hv L
theorem qu0 {v:Value} (hw:qca ops n l o=true) (hd:o.dst=some d) (hk:kf q E o= .eff) (hv:QV P w0 o (evL n l) L v) (h:lexO P w0 L0 ops q E K rest (frm n ((d,v)::l)) L):lexO P w0 L0 ops q E K (o::rest) (frm n l) L:=
 qt0 hw (.inr hk) (fun hval=>by rw [hk] at hval;cases hval) hv (by rw [hd];exact h)
theorem qwu {t:TypeId} {m:Nat} {x:Operand} {g off i:Nat} {cs:List Value} {v:Value} (hw:qca ops n l o=true:=by first |exact qa9 (by eq_refl) |exact qcr (by eq_refl) (by eq_refl) (by eq_refl) (by with_reducible assumption) |exact qcw (by eq_refl) (by eq_refl) (by eq_refl) (by with_reducible assumption) |fail) (hd:o.dst=some d:=by eq_refl) (ho:o.op= .load t x:=by eq_refl) (hi:qcq P t=some (false,m):=by exact ti (by eq_refl)) (hx:evO n l x=some (.pointer (some ⟨g,i,none⟩)):=by eq_refl) (hr:q0_ w0 g off cs)
  (ho2:off≤i) (hv:cs[i - off]? =some v) (hk:Kind.okO (kf q E o)=true:=by eq_refl) (hin:kf q E o= .eff∨Incl L0 L)
  (h:lexO P w0 L0 ops q E K rest (frm n ((d,v)::l)) L):lexO P w0 L0 ops q E K (o::rest) (frm n l) L:=by
 have hv':∀L,QV P w0 o (evL n l) L v:=fun L=>qww (hi:=hi) ho (qaz hx) hr.1 (by
  have:=hr.2 _ _ hv
  rwa [show off+(i - off)=i from by omega] at this)
 rcases hin with he |hin
 ·exact qu0 hw hd he (hv' L) h
 ·exact yav hw hd hk hin hv' h
end
section
variable {P:Program} {w0:World} {L:List Blk} {Q:Exit→Act→World→Prop} {a:Act} {c:Code}
def LW (P:Program) (c:Code) (Q:Exit→Act→World→Prop) (a:Act) (w:World):Prop:=
 ∀(b:Frame) (k:List Item) (cs:List Frame),∃e a' w',Q e a' w'∧Arrives P (lone (b.at a (.code c:: .inLoop c::k)) cs w) b k cs e a' w'
structure H (P:Program) (w0:World) (c:Code) (Q:Exit→Act→World→Prop) (a:Act) (L:List Blk):Prop where
 out:∀w,Own w0 L w→LW P c Q a w
theorem zgt (h:H P w0 c Q a L):J P w0 (.loop c) Q a L:=⟨fun w hw b k cs=>by
 obtain ⟨e,a',w',hq,harr⟩:=h.out w hw b k cs
 exact ⟨e,a',w',hq,.of_steps (.one step_loop) harr⟩⟩
theorem ze8 (h:J P w0 c (Exit.then (LW P c Q) Q) a L):H P w0 c Q a L:=⟨fun w hw b k cs=>by
 obtain ⟨e,a₁,w₁,hq,harr⟩:=h.out w hw b (.inLoop c::k) cs
 cases e with
 |normal=>
  obtain ⟨e₂,a₂,w₂,hq₂,harr₂⟩:=hq b k cs
  exact ⟨e₂,a₂,w₂,hq₂,.of_steps (Steps.trans harr (.one step_inLoop)) harr₂⟩
 |exit id=>exact ⟨_,a₁,w₁,hq,.pass (x:= .inLoop c) rfl (fun _ _=> .inl (by simp)) harr⟩
 |goto l=>exact ⟨_,a₁,w₁,hq,.pass (x:= .inLoop c) rfl (fun _ _=> .inl (by simp)) harr⟩
 |ret=>exact ⟨_,a₁,w₁,hq,.pass (x:= .inLoop c) rfl (fun _ _=> .inl (by simp)) harr⟩
 |panic ch=>exact ⟨_,a₁,w₁,hq,.pass (x:= .inLoop c) rfl (fun _ _=> .inl (by simp)) harr⟩
 |outgrown=>exact ⟨_,a₁,w₁,hq,.pass (x:= .inLoop c) rfl (fun _ _=> .inl (by simp)) harr⟩⟩
theorem zoe (h:H P w0 c Q a L):X w0 (Exit.then (LW P c Q) Q) .normal a L:=⟨fun w hw=>h.out w hw⟩
end
section
variable {P:Program} {w0:World} {L:List Blk} {Q:Exit→Act→World→Prop} {c:Code} {n:Nat} {l:List (Nat×Value)}
theorem qwq {d:Nat} {v:Value} (h:qvr l d=some v):frm n ((d,v)::l)=frm n l:=by
 have:look l d=v:=qrh l d v h
 simp only [frm,Act.mk.injEq,and_true]
 congr 1
 funext i
 simp only [look]
 cases e:Nat.beq d i with
 |true=>rw [←Nat.eq_of_beq_eq_true e,this];rfl
 |false=>rfl
theorem qxh (d:Nat) {v:Value} (h:qvr l d=some v) (hh:J P w0 c Q (frm n ((d,v)::l)) L):J P w0 c Q (frm n l) L:=by rw [←qwq h];exact hh
theorem qch {e:Exit} (d:Nat) {v:Value} (h:qvr l d=some v) (hh:X w0 Q e (frm n ((d,v)::l)) L):X w0 Q e (frm n l) L:=by rw [←qwq h];exact hh
variable {a:Act}
theorem Own.mono {w:World} {M:List Blk} (h:Own w0 M w) (hs:L.Sublist M):Own w0 L w:=
 ⟨h.below,fun b hb=>h.base b (hs.subset hb),fun b hb=>h.held b (hs.subset hb),h.apart.sublist hs⟩
theorem q5a {l:List (Nat×Value)} (I:Nat→List (Nat×Value)→List Blk→Prop) (m0:Nat) (h0:I m0 l L)
  (step:∀m l L,I m l L→(∀m' l' L',m'<m→I m' l' L'→H P w0 c Q (frm n l') L')→J P w0 c (Exit.then (LW P c Q) Q) (frm n l) L):J P w0 (.loop c) Q (frm n l) L:=by
 refine zgt ?_
 have key:∀m l L,I m l L→H P w0 c Q (frm n l) L:=by
  intro m
  induction m using Nat.strongRecOn with
  |_ m ih=>exact fun l L hI=>ze8 (step m l L hI fun m' l' L' hlt hI'=>ih m' hlt l' L' hI')
 exact key m0 l L h0
theorem yeg {M:List Blk} (hs:L.Sublist M) (h:H P w0 c Q a L):H P w0 c Q a M:=⟨fun w hw=>h.out w (hw.mono hs)⟩
end
section
variable {P:Program} {w0:World} {L:List Blk} {Q:Exit→Act→World→Prop} {a:Act} {x y c:Code} {n:Nat} {l:List (Nat×Value)}
theorem qb4 (h:∀N:Act→World→Prop,(∀a L,J P w0 y Q a L→X w0 (Exit.then N Q) .normal a L)→J P w0 x (Exit.then N Q) a L):J P w0 (.seq x y) Q a L:=yb8 (h (y.wp P Q) fun _ _ hj=>zp_ hj)
theorem qdd {N:Act→World→Prop} (hN:∀a L,J P w0 y Q a L→X w0 (Exit.then N Q) .normal a L) (h:J P w0 y Q a L):X w0 (Exit.then N Q) .normal a L:=hN a L h
theorem qlb {e:Exit} {b:Blk} (h:X w0 Q e a L):X w0 Q e a (b::L):=⟨fun w hw=>h.out w hw.tail⟩
theorem x_sub {e:Exit} {M:List Blk} (hs:L.Sublist M) (h:X w0 Q e a L):X w0 Q e a M:=⟨fun w hw=>h.out w (hw.mono hs)⟩
theorem zls (I:Nat→List (Nat×Value)→List Blk→Prop) (m0:Nat) (h0:I m0 l L)
  (step:∀m l L N,I m l L→(∀m' l' L',m'<m→I m' l' L'→X w0 (Exit.then N Q) .normal (frm n l') L')→J P w0 c (Exit.then N Q) (frm n l) L):J P w0 (.loop c) Q (frm n l) L:=
 q5a I m0 h0 fun m l L hI ih=>step m l L (LW P c Q) hI fun m' l' L' hlt hI'=>zoe (ih m' l' L' hlt hI')
theorem qlw (h:∀N,(∀a L,H P w0 c Q a L→X w0 (Exit.then N Q) .normal a L)→J P w0 c (Exit.then N Q) a L):H P w0 c Q a L:=ze8 (h (LW P c Q) fun _ _ hh=>zoe hh)
theorem z0x {N:Act→World→Prop} (hN:∀a L,H P w0 c Q a L→X w0 (Exit.then N Q) .normal a L) (h:H P w0 c Q a L):X w0 (Exit.then N Q) .normal a L:=hN a L h
def RetV (P:Program) (w0:World) (fn:Func) (n:Nat) (l:List (Nat×Value)) (L:List Blk) (v:Value):Prop:=∀w,Own w0 L w→(results fn (frm n l).tmps).run P w= .ok v w
theorem ret1 {fn:Func} {r:ResultVar} {v u:Value} (hr:fn.results=#[r]) (h:RV P w0 n l L r v) (he:v=u):RetV P w0 fn n l L u:=fun w hw=>by
 subst he;rw [qer,hr];simp [List.mapM_cons,Sem.run_bind,qh1 h hw]
theorem ret2 {fn:Func} {r s:ResultVar} {v v' u:Value} (hr:fn.results=#[r,s]) (h:RV P w0 n l L r v) (h2:RV P w0 n l L s v') (he:Value.tuple #[v,v']=u):RetV P w0 fn n l L u:=fun w hw=>by
 subst he;rw [qer,hr];simp [List.mapM_cons,Sem.run_bind,qh1 h hw,qh1 h2 hw]
theorem ret3 {fn:Func} {r s q:ResultVar} {v v' v'' u:Value} (hr:fn.results=#[r,s,q]) (h:RV P w0 n l L r v) (h2:RV P w0 n l L s v') (h3:RV P w0 n l L q v'') (he:Value.tuple #[v,v',v'']=u):RetV P w0 fn n l L u:=fun w hw=>by
 subst he;rw [qer,hr];simp [List.mapM_cons,Sem.run_bind,qh1 h hw,qh1 h2 hw,qh1 h3 hw]
theorem qel {f:FuncId} {fn:Func} {c:Code} {args:List Value} {v:Value} {m:Nat} (hf:P.funcs[f]? =some fn) (hb:fn.body=some c) (hn:fn.ntmps=m) (hl:Nat.ble args.length m=true) (h0:initL args=l)
  (h:∀w0 Q,(∀l L,RetV P w0 fn m l L v→X w0 Q .ret (frm m l) L)→J P w0 c Q (frm m l) []):Pure P f (List.toArray args) v:=
 zvi hf hb hn hl h0 fun w0=>h w0 _ fun l L hr=>⟨fun w hw=>⟨rfl,v,hr w hw,rfl,hw.below⟩⟩
theorem zz7 {f:FuncId} {fn:Func} {c:Code} {args:List Value} {v:Value} {m:Nat} {w:World} (hf:P.funcs[f]? =some fn) (hb:fn.body=some c) (hn:fn.ntmps=m) (hl:Nat.ble args.length m=true) (h0:initL args=l)
  (h:∀Q,(∀l L,RetV P w fn m l L v→X w Q .ret (frm m l) L)→J P w c Q (frm m l) []):Calls P f (List.toArray args) w fun e w'=>e= .returned v∧Below w.heap.size w w':=by
 subst h0
 exact zg0 hf hb hn hl (h _ fun l L hr=>⟨fun w' hw=>⟨rfl,v,hr w' hw,rfl,hw.below⟩⟩)
end
def dps (o:Oper):List Nat:=o.after.toList.filterMap fun e=>bif Region.binds .any e then some e.on else none
def q8b (i:Nat):List Oper→Bool
 |[]=>true
 |o::r=>(dps o).any (fun e=>Nat.ble i e)&&q8b i r
def blT (i:Nat):Nat→List Oper→List Nat→List Nat
 |_,[],bl=>bl
 |s,o::r,bl=>blT i (s+1) r (bif (dps o).any (fun e=>e==i||bl.contains e) then s::bl else bl)
def zmk (ops:Array Oper) (κ:Oper→Kind) (i:Nat) (oi:Oper) (k:Kind) (bl:List Nat):Nat→List Oper→Bool
 |_,[]=>true
 |s,o::r=>(bif bl.contains s then (dps o).any (fun e=>e==i||bl.contains e) else (oi.apart ops o&&k.lets (κ o)))&&zmk ops κ i oi k bl (s+1) r
def effK:Kind→Bool | .eff=>true | .eff0=>true |_=>false
def z28 (ops:Array Oper) (κ:Oper→Kind) (i:Nat) (o:Oper) (r:List Oper):Bool:=
 (dps o).all (fun e=>decide (e<i))&&(q8b i r||(!(effK (κ o))&&zmk ops κ i o (κ o) (blT i (i+1) r []) (i+1) r))
def q0b (ops:Array Oper) (κ:Oper→Kind):Nat→List Oper→Bool
 |_,[]=>true
 |i,o::r=>z28 ops κ i o r&&q0b ops κ (i+1) r
theorem dps_mem {o:Oper} {e:Nat}:e∈dps o↔∃ed∈o.after,Region.binds .any ed=true∧ed.on=e:=by
 unfold dps
 rw [List.mem_filterMap]
 constructor
 ·rintro ⟨ed,h1,h2⟩
  cases hb:Region.binds .any ed with
  |true=>rw [hb,cond_true] at h2;cases h2;exact ⟨ed,by simpa using h1,hb,rfl⟩
  |false=>rw [hb,cond_false] at h2;cases h2
 ·rintro ⟨ed,h1,h2,rfl⟩
  exact ⟨ed,by simpa using h1,by rw [h2];rfl⟩
theorem zgn {o:Oper} {p:Nat→Bool}:(dps o).any p=o.after.any (fun e=>Region.binds .any e&&p e.on):=by
 rw [Bool.eq_iff_iff,List.any_eq_true,Array.any_eq_true']
 constructor
 ·rintro ⟨e,h1,h2⟩
  obtain ⟨ed,h3,h4,rfl⟩:=dps_mem.1 h1
  exact ⟨ed,h3,by rw [h4,h2];rfl⟩
 ·rintro ⟨ed,h1,h2⟩
  rw [Bool.and_eq_true] at h2
  exact ⟨ed.on,dps_mem.2 ⟨ed,h1,h2.1,rfl⟩,h2.2⟩
theorem zbl {o:Oper} {p:Nat→Bool}:(dps o).all p=o.after.all (fun e=> !Region.binds .any e||p e.on):=by
 rw [Bool.eq_iff_iff,List.all_eq_true,Array.all_eq_true']
 constructor
 ·intro h ed h1
  cases hb:Region.binds .any ed with
  |true=>rw [h _ (dps_mem.2 ⟨ed,h1,hb,rfl⟩)];rfl
  |false=>rfl
 ·intro h e he
  obtain ⟨ed,h3,h4,rfl⟩:=dps_mem.1 he
  have:=h ed h3
  rw [h4] at this
  simpa using this
def Upto (n i:Nat) (listed:Array Bool):Prop:=∀j,listed[j]? =if j<n then some (decide (j<i)) else none
theorem Upto.getD {n i j:Nat} {listed:Array Bool} (h:Upto n i listed) (d:Bool) (hj:j<n):listed.getD j d=decide (j<i):=by
 rw [Array.getD_eq_getD_getElem?,h j,if_pos hj];rfl
theorem Upto.out {n i j:Nat} {listed:Array Bool} (h:Upto n i listed) (d:Bool) (hj:¬j<n):listed.getD j d=d:=by
 rw [Array.getD_eq_getD_getElem?,h j,if_neg hj];rfl
theorem Upto.step {n i:Nat} {listed:Array Bool} (h:Upto n i listed) (hi:i<n):Upto n (i+1) (listed.setIfInBounds i true):=fun j=>by
 rw [Array.getElem?_setIfInBounds]
 by_cases hj:i=j
 ·subst hj
  have hs:i<listed.size:=by
   have:=h i;rw [if_pos hi] at this
   exact (Array.getElem?_eq_some_iff.1 this).1
  rw [if_pos rfl,if_pos hs,if_pos hi,decide_eq_true (by omega)]
 ·rw [if_neg hj,h j]
  by_cases hn:j<n
  ·rw [if_pos hn,if_pos hn];congr 1;apply decide_eq_decide.2;omega
  ·rw [if_neg hn,if_neg hn]
theorem zex (n:Nat):Upto n 0 (Array.replicate n false):=fun j=>by
 rw [Array.getElem?_replicate]
 by_cases hn:j<n
 ·rw [if_pos hn,if_pos hn,decide_eq_false (by omega)]
 ·rw [if_neg hn,if_neg hn]
def From (ops:Array Oper) (s:Nat) (l:List Oper):Prop:=∀t,ops[s+t]? =l[t]?
theorem From.tail {ops:Array Oper} {s:Nat} {o:Oper} {l:List Oper} (h:From ops s (o::l)):From ops (s+1) l:=fun t=>by
 have:=h (t+1);rw [show s+(t+1)=s+1+t by omega] at this;rw [this];rfl
theorem From.head {ops:Array Oper} {s:Nat} {o:Oper} {l:List Oper} (h:From ops s (o::l)):ops[s]? =some o:=by have:=h 0;simpa using this
theorem From.size {ops:Array Oper}:∀{l:List Oper} {s:Nat},From ops s l→s≤ops.size→ops.size=s+l.length
 |[],s,h,hs=>by
  have:=h 0
  simp only [Nat.add_zero,List.getElem?_nil] at this
  have:=Array.getElem?_eq_none_iff.1 this
  simp;omega
 |o::l,s,h,hs=>by
  have h1:=(Array.getElem?_eq_some_iff.1 h.head).1
  have:=h.tail.size (by omega)
  simp only [List.length_cons];omega
def okJ (ops:Array Oper) (listed:Array Bool) (i:Nat):Bool:= !listed.getD i true&&((ops[i]?).map (·.after.all fun e=> !Region.binds .any e||listed.getD e.on false)).getD false
theorem ready_mem {ops:Array Oper} {listed:Array Bool} {j:Nat}:j∈Region.ready .any ops listed↔j<ops.size∧okJ ops listed j=true:=by
 unfold Region.ready okJ
 rw [List.mem_filter,List.mem_range]
theorem q5w {p:Nat→Bool} {n i:Nat} (hi:i<n) (h1:p i=true) (h2:∀j,j<n→j≠i→p j=false):(List.range n).filter p=[i]:=by
 have hsplit:List.range n=List.range i++(i::List.range' (i+1) (n - i - 1)):=by
  have e1:List.range n=List.range' 0 (i+((n - i - 1)+1)):=by rw [List.range_eq_range'];congr 1;omega
  rw [e1,←List.range'_append_1,List.range'_succ,List.range_eq_range']
  simp
 rw [hsplit,List.filter_append,List.filter_cons,h1,if_pos rfl]
 have e1:(List.range i).filter p=[]:=by
  rw [List.filter_eq_nil_iff];intro a ha;rw [List.mem_range] at ha;rw [h2 a (by omega) (by omega)];simp
 have e2:(List.range' (i+1) (n - i - 1)).filter p=[]:=by
  rw [List.filter_eq_nil_iff];intro a ha;rw [List.mem_range'_1] at ha;rw [h2 a (by omega) (by omega)];simp
 rw [e1,e2];rfl
theorem qqo {i:Nat} {ops:Array Oper}:∀{l:List Oper} {s:Nat},From ops s l→q8b i l=true→∀j oj,s≤j→ops[j]? =some oj→(dps oj).any (fun e=>Nat.ble i e)=true
 |[],s,hf,_,j,oj,hs,hj=>by
  have:=hf (j - s);rw [show s+(j - s)=j by omega,hj] at this;cases this
 |o::r,s,hf,h,j,oj,hs,hj=>by
  simp only [q8b,Bool.and_eq_true] at h
  by_cases e:j=s
  ·subst e;rw [hf.head] at hj;cases hj;exact h.1
  ·exact qqo hf.tail h.2 j oj (by omega) hj
theorem zbd {i:Nat}:∀{l:List Oper} {s:Nat} {bl:List Nat} {x:Nat},x∈blT i s l bl→x∈bl∨(s≤x∧x<s+l.length)
 |[],s,bl,x,h=> .inl h
 |o::r,s,bl,x,h=>by
  simp only [blT] at h
  rcases zbd h with h1 |⟨h1,h2⟩
  ·cases hc:(dps o).any (fun e=>e==i||bl.contains e) with
   |true=>
    rw [hc,cond_true] at h1
    rcases List.mem_cons.1 h1 with rfl |h1
    ·exact .inr ⟨Nat.le_refl _,by simp⟩
    ·exact .inl h1
   |false=>rw [hc,cond_false] at h1;exact .inl h1
  ·exact .inr ⟨by omega,by simp only [List.length_cons];omega⟩
def blF (ops:Array Oper) (i:Nat) (bl:List Nat) (j:Nat):List Nat:=match ops[j]? with
 |some oj=>if oj.after.any (fun e=>Region.binds .any e&&(e.on==i||bl.contains e.on)) then j::bl else bl
 |none=>bl
theorem zwp {ops:Array Oper} {i:Nat}:qsk ops i=(List.range ops.size).foldl (blF ops i) []:=rfl
theorem q0a {ops:Array Oper} {i j:Nat} {bl:List Nat} {o:Oper} (h:ops[j]? =some o):blF ops i bl j=bif (dps o).any (fun e=>e==i||bl.contains e) then j::bl else bl:=by
 unfold blF
 rw [h,zgn]
 simp only
 cases (o.after.any (fun e=>Region.binds .any e&&(e.on==i||bl.contains e.on)))<;>rfl
theorem qzi {i:Nat} {ops:Array Oper}:∀{l:List Oper} {s:Nat} {bl:List Nat},From ops s l→(List.range' s l.length).foldl (blF ops i) bl=blT i s l bl
 |[],s,bl,_=>rfl
 |o::r,s,bl,hf=>by
  rw [List.length_cons,List.range'_succ,List.foldl_cons,q0a hf.head,qzi hf.tail]
  rfl
theorem qp_ {ops:Array Oper} {κ:Oper→Kind} {i:Nat} {oi:Oper} {k:Kind} {bl:List Nat}:∀{l:List Oper} {s:Nat},From ops s l→zmk ops κ i oi k bl s l=true→∀j oj,s≤j→ops[j]? =some oj→
  (bif bl.contains j then (dps oj).any (fun e=>e==i||bl.contains e) else (oi.apart ops oj&&k.lets (κ oj)))=true
 |[],s,hf,_,j,oj,hs,hj=>by
  have:=hf (j - s);rw [show s+(j - s)=j by omega,hj] at this;cases this
 |o::r,s,hf,h,j,oj,hs,hj=>by
  simp only [zmk,Bool.and_eq_true] at h
  by_cases e:j=s
  ·subst e;rw [hf.head] at hj;cases hj;exact h.1
  ·exact qp_ hf.tail h.2 j oj (by omega) hj
def q41 (ops:Array Oper) (i:Nat):Prop:=∀j oj,j<i→ops[j]? =some oj→(dps oj).all (fun e=>decide (e<j))=true
theorem q33 {ops:Array Oper} {i:Nat}:∀m,m≤i+1→q41 ops m→
  (List.range m).foldl (blF ops i) []=[]
 |0,_,_=>rfl
 |m+1,hm,h=>by
  rw [List.range_succ,List.foldl_append,q33 m (by omega) (fun j oj hj=>h j oj (by omega))]
  simp only [List.foldl_cons,List.foldl_nil]
  cases ho:ops[m]? with
  |none=>unfold blF;rw [ho]
  |some oj=>
   have h1:=h m oj (by omega) ho
   rw [q0a ho]
   have h2:(dps oj).any (fun e=>e==i||([]:List Nat).contains e)=false:=by
    rw [List.any_eq_false];intro e he
    rw [List.all_eq_true] at h1
    have:e<m:=of_decide_eq_true (h1 e he)
    simp;omega
   rw [h2];rfl
theorem zm2 {ops:Array Oper} {i:Nat} {r:List Oper} (hr:From ops (i+1) r) (hi:i<ops.size) (he:q41 ops (i+1)):qsk ops i=blT i (i+1) r []:=by
 have hsz:=hr.size (by omega)
 have hsplit:List.range ops.size=List.range (i+1)++List.range' (i+1) r.length:=by
  rw [List.range_eq_range',List.range_eq_range',←(by rw [hsz]:List.range' 0 (i+1+r.length)=List.range' 0 ops.size),←List.range'_append_1]
  simp
 rw [zwp,hsplit,List.foldl_append,q33 (i+1) (Nat.le_refl _) he,qzi hr]
theorem q5o {ops:Array Oper} {κ:Oper→Kind} {κ':Nat→Kind} {i:Nat} {o:Oper} {r:List Oper} {listed:Array Bool} (hκ:∀j oj,ops[j]? =some oj→κ' j=κ oj) (hu:Upto ops.size i listed) (hf:From ops i (o::r)) (he:q41 ops i)
  (h:z28 ops κ i o r=true):zf8 ops κ' listed i=true∧q41 ops (i+1):=by
 simp only [z28,Bool.and_eq_true,Bool.or_eq_true] at h
 obtain ⟨hd,hc⟩:=h
 have ho:=hf.head
 have hi:i<ops.size:=(Array.getElem?_eq_some_iff.1 ho).1
 have he':q41 ops (i+1):=fun j oj hj hoj=>by
  by_cases e:j=i
  ·subst e;rw [ho] at hoj;cases hoj;exact hd
  ·exact he j oj (by omega) hoj
 refine ⟨?_,he'⟩
 have lt:∀e,e∈dps o→e<i:=fun e hm=>of_decide_eq_true ((List.all_eq_true.1 hd) e hm)
 have oki:okJ ops listed i=true:=by
  unfold okJ
  rw [hu.getD true hi,ho]
  simp only [Option.map_some,Option.getD_some]
  rw [←zbl (o:=o) (p:=fun e=>listed.getD e false)]
  simp only [decide_eq_false (show ¬i<i by omega),Bool.not_false,Bool.true_and,List.all_eq_true]
  intro e hm
  rw [hu.getD false (by have:=lt e hm;omega),decide_eq_true (lt e hm)]
 have hki:κ' i=κ o:=hκ i o ho
 have one:q8b i r=true→Region.ready .any ops listed=[i]:=fun hT=>by
  refine q5w (p:=okJ ops listed) hi oki fun j hj hne=> ?_
  unfold okJ
  rw [hu.getD true hj]
  by_cases hji:j<i
  ·rw [decide_eq_true hji];rfl
  ·rw [decide_eq_false hji]
   obtain ⟨oj,hoj⟩:∃oj,ops[j]? =some oj:=⟨ops[j],by simp [hj]⟩
   rw [hoj]
   simp only [Option.map_some,Option.getD_some,Bool.not_false,Bool.true_and]
   rw [←zbl (o:=oj) (p:=fun e=>listed.getD e false)]
   have h1:=qqo hf.tail hT j oj (by omega) hoj
   rw [List.any_eq_true] at h1
   obtain ⟨e,he1,he2⟩:=h1
   rw [List.all_eq_false]
   refine ⟨e,he1,?_⟩
   have:=Nat.le_of_ble_eq_true he2
   by_cases hen:e<ops.size
   ·rw [hu.getD false hen,decide_eq_false (by omega)];simp
   ·rw [hu.out false hen];simp
 rcases hc with hT |hT
 ·have hr:=one hT
  unfold zf8
  rw [hr]
  cases κ' i<;>simp
 ·obtain ⟨hk,hrest⟩:=hT
  have hkk:effK (κ' i)=false:=by rw [hki];simpa using hk
  have hcon:(Region.ready .any ops listed).contains i=true:=by
   rw [List.contains_iff_mem];exact ready_mem.2 ⟨hi,oki⟩
  have hfree:q5i ops listed i (fun j=>(κ' i).lets (κ' j))=true:=by
   unfold q5i
   rw [ho]
   simp only [Bool.and_eq_true]
   rw [zm2 hf.tail hi he']
   have spec:=qp_ hf.tail hrest
   constructor
   ·rw [List.all_eq_true]
    intro j hj
    have hb:(blT i (i+1) r []).contains j=true:=List.contains_iff_mem.2 hj
    rcases zbd hj with hx |⟨h1,h2⟩
    ·cases hx
    have hsz:=hf.tail.size (by omega)
    have hjn:j<ops.size:=by omega
    obtain ⟨oj,hoj⟩:∃oj,ops[j]? =some oj:=⟨ops[j],by simp [hjn]⟩
    have h3:=spec j oj h1 hoj
    rw [hb,cond_true,zgn] at h3
    rw [hu.getD false hjn,decide_eq_false (by omega),hoj]
    simpa using h3
   ·rw [List.all_eq_true]
    intro j hj
    rw [List.mem_range] at hj
    by_cases e1:j=i
    ·subst e1;simp
    by_cases e2:j<i
    ·rw [hu.getD true hj,decide_eq_true e2];simp
    obtain ⟨oj,hoj⟩:∃oj,ops[j]? =some oj:=⟨ops[j],by simp [hj]⟩
    have h3:=spec j oj (by omega) hoj
    cases hb:(blT i (i+1) r []).contains j with
    |true=>simp
    |false=>
     rw [hb,cond_false] at h3
     rw [hoj]
     simp only [hκ j oj hoj,hki,h3,Bool.or_true]
  unfold zf8
  cases hkv:κ' i<;>rw [hkv] at hkk hfree<;>first |(cases hkk;done) |(simp only [hcon,hfree];simp)
theorem qo9 {ops:Array Oper} {κ:Oper→Kind} {κ':Nat→Kind} (hκ:∀j oj,ops[j]? =some oj→κ' j=κ oj):∀(l:List Oper) (i:Nat) (listed:Array Bool),Upto ops.size i listed→From ops i l→i≤ops.size→q41 ops i→q0b ops κ i l=true→
  qi3 ops κ' (List.range' i l.length) listed=true
 |[],i,listed,hu,hf,hi,he,_=>by
  have hsz:=hf.size hi
  simp only [List.length_nil,List.range'_zero,qi3]
  rw [List.isEmpty_iff,List.eq_nil_iff_forall_not_mem]
  intro j hj
  obtain ⟨h1,h2⟩:=ready_mem.1 hj
  unfold okJ at h2
  rw [hu.getD true h1,decide_eq_true (by simp at hsz;omega)] at h2
  cases h2
 |o::r,i,listed,hu,hf,hi,he,h=>by
  simp only [q0b,Bool.and_eq_true] at h
  have ho:i<ops.size:=(Array.getElem?_eq_some_iff.1 hf.head).1
  obtain ⟨h1,h2⟩:=q5o hκ hu hf he h.1
  rw [List.length_cons,List.range'_succ]
  simp only [qi3,h1,Bool.true_and]
  exact qo9 hκ r (i+1) _ (hu.step ho) hf.tail ho h2 h.2
def q15 (ops:List Oper) (E:List (Nat×Kind)):Bool:=Region.noSelect ops.toArray&&q0b ops.toArray (kf true E) 0 ops
theorem qx1 {ops:List Oper} {E:List (Nat×Kind)} (h:q15 ops E=true):(Region.noSelect ops.toArray&&qi3 ops.toArray (fun i=>kf true E (ops.toArray.getD i default)) (List.range ops.length) (Array.replicate ops.length false))=true:=by
 simp only [q15,Bool.and_eq_true] at h ⊢
 refine ⟨h.1,?_⟩
 rw [List.range_eq_range']
 refine qo9 (κ:=kf true E) (fun j oj hj=> ?_) ops 0 _ (by simpa using zex ops.length) (fun t=>by simp) (Nat.zero_le _) (fun j oj hj=>by omega) h.2
 rw [Array.getD_eq_getD_getElem?,hj];rfl
end Go.Proofs.YtilkebpcjklmfaaGreat.Own
