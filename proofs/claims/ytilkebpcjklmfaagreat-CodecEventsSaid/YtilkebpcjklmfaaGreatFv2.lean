/- A walk by reckoning: terms, and what they are worth; lists are told by whole numbers. A walk by reckoning: calls at closed values, done by a function that the kernel runs. The definitions. A walk by reckoning: what its cells, frames and memory stand for. -/
import Derived.Test.YtilkebpcjklmfaaGreatEv0
import Derived.Laws.Bits64
import Derived.Laws.BitsAllLaws
import Derived.Maps.AppendAt
import Derived.Laws.MakeOwn
set_option linter.unusedVariables false
set_option linter.unusedSimpArgs false
namespace Go.Proofs.YtilkebpcjklmfaaGreat.Own
open Go Go.RowKit
set_option maxRecDepth 100000
set_option maxHeartbeats 40000000
def pr (a b:Nat):Nat:=2 ^ a * (2 * b+1)
theorem zqy (a b:Nat):0<pr a b:=Nat.mul_pos (Nat.pow_pos (by decide)) (by omega)
theorem zqe:∀{a c b d:Nat},pr a b=pr c d→a=c∧b=d
 |0,0,b,d,h=>by simp only [pr,Nat.pow_zero,Nat.one_mul] at h;exact ⟨rfl,by omega⟩
 |0,c+1,b,d,h=>by
  simp only [pr,Nat.pow_zero,Nat.one_mul,Nat.pow_succ] at h
  have:2 ^ c * 2 * (2 * d+1)=2 * (2 ^ c * (2 * d+1)):=by rw [Nat.mul_comm (2 ^ c) 2,Nat.mul_assoc]
  omega
 |a+1,0,b,d,h=>by
  simp only [pr,Nat.pow_zero,Nat.one_mul,Nat.pow_succ] at h
  have:2 ^ a * 2 * (2 * b+1)=2 * (2 ^ a * (2 * b+1)):=by rw [Nat.mul_comm (2 ^ a) 2,Nat.mul_assoc]
  omega
 |a+1,c+1,b,d,h=>by
  have e:∀x y:Nat,pr (x+1) y=2 * pr x y:=fun x y=>by simp only [pr,Nat.pow_succ];rw [Nat.mul_comm (2 ^ x) 2,Nat.mul_assoc]
  rw [e,e] at h
  obtain ⟨h1,h2⟩:=zqe (Nat.eq_of_mul_eq_mul_left (by decide) h)
  exact ⟨by rw [h1],h2⟩
def zcc:List Nat→Nat
 |[]=>0
 |a::l=>pr a (zcc l)
theorem qq5:∀{x y:List Nat},zcc x=zcc y→x=y
 |[],[],_=>rfl
 |[],a::l,h=>by have:=zqy a (zcc l);simp only [zcc] at h;omega
 |a::l,[],h=>by have:=zqy a (zcc l);simp only [zcc] at h;omega
 |a::l,b::m,h=>by
  obtain ⟨h1,h2⟩:=zqe h
  rw [h1,qq5 h2]
def zig:Int→Nat
 | .ofNat n=>2 * n
 | .negSucc n=>2 * n+1
theorem z3s:∀{x y:Int},zig x=zig y→x=y
 | .ofNat a,.ofNat b,h=>by simp only [zig] at h;congr 1;omega
 | .negSucc a,.negSucc b,h=>by simp only [zig] at h;congr 1;omega
 | .ofNat a,.negSucc b,h=>by simp only [zig] at h;omega
 | .negSucc a,.ofNat b,h=>by simp only [zig] at h;omega
theorem qyg {α β:Type} {f:α→β} (hf:∀{x y},f x=f y→x=y):∀{l m:List α},l.map f=m.map f→l=m
 |[],[],_=>rfl
 |[],_::_,h=>by cases h
 |_::_,[],h=>by cases h
 |a::l,b::m,h=>by
  simp only [List.map_cons,List.cons.injEq] at h
  rw [hf h.1,qyg hf h.2]
def encR (l:List Int):Nat:=zcc (l.map zig)
def enc (l:List (List Int)):Int:=(zcc (l.map encR):Int)
theorem zxd {l m:List (List Int)} (h:enc l=enc m):l=m:=by
 have h1:zcc (l.map encR)=zcc (m.map encR):=by unfold enc at h;omega
 exact qyg (fun {x y} hxy=>qyg z3s (qq5 hxy)) (qq5 h1)
open Classical in
noncomputable def dec (n:Int):List (List Int):=if h:∃l,enc l=n then Classical.choose h else []
theorem qan (l:List (List Int)):dec (enc l)=l:=by
 have h:∃m,enc m=enc l:=⟨l,rfl⟩
 unfold dec
 rw [dif_pos h]
 exact zxd (Classical.choose_spec h)
abbrev Ks:=List (Option IntKind)
inductive SE where
 |ivar (k:IntKind) (i:Nat)
 |bvar (i:Nat)
 |lit (k:IntKind) (n:Int)
 |bin (op:BinOp) (k:IntKind) (a b:SE)
 |cmp (op:BinOp) (a b:SE)
 |and (a b:SE)
 |mx (k:IntKind) (a b:SE)
 |mn (k:IntKind) (a b:SE)
 |conv (k:IntKind) (a:SE)
 |not (a:SE)
 |app (f i:Nat) (k:Option IntKind) (a9s:SE)
 |nil
 |cons (a a9s:SE)
 |len (x:SE)
 |el (k:Option IntKind) (x i:SE) (j:Nat)
 |seq (x y:SE)
 |lvar (i:Nat)
 |lap (f i:Nat) (a9s:SE)
 |lnil
 |lcat (x y:SE)
 |lone (a9s:SE)
 |lset (x i:SE) (off:Nat) (a9s:SE)
 |lrep (n a9s:SE)
 |ltk (x n:SE)
 |ldr (x n:SE)
 |lbs (l:List Nat)
 |wd (x:SE) (i:Nat)
 deriving DecidableEq
def b2i (b:Bool):Int:=bif b then 1 else 0
theorem qas (b:Bool):(b2i b !=0)=b:=by cases b<;>rfl
def qbg (op:BinOp) (k:IntKind) (x y:Int):Int:=
 match op with
 | .add=>k.wrap (x+y)
 | .sub=>k.wrap (x - y)
 | .mul=>k.wrap (x * y)
 | .and=>k.wrap (bits .and k x y)
 | .or=>k.wrap (bits .or k x y)
 | .xor=>k.wrap (bits .xor k x y)
 | .shl=>k.wrap (x * 2 ^ (min y.toNat k.bits))
 | .shr=>k.wrap (x.fdiv (2 ^ (min y.toNat k.bits)))
 | .quo=>k.wrap (x.tdiv y)
 | .rem=>k.wrap (x.tmod y)
 |_=>0
def qa8 (op:BinOp) (x y:Int):Bool:=
 match op with
 | .eql=>x==y
 | .neq=>x !=y
 | .lss=>decide (x<y)
 | .leq=>decide (x≤y)
 | .gtr=>decide (x>y)
 | .geq=>decide (x≥y)
 |_=>false
def wrK (k:Option IntKind) (x:Int):Int:=match k with
 |some k=>k.wrap x
 |none=>b2i (x !=0)
def qf2 (k:Option IntKind) (x:Int):Value:=match k with
 |some k=> .int k x
 |none=> .bool (x !=0)
def inK:Option IntKind→Int→Prop
 |some k,x=>k.wrap x=x
 |none,x=>x=0∨x=1
def InC:Ks→List Int→Prop
 |[],[]=>True
 |k::ks,x::xs=>inK k x∧InC ks xs
 |_,_=>False
def qgh:Ks→Nat→List Int→List Value
 |[],_,_=>[]
 |k::ks,j,el=>qf2 k (wrK k (el.getD j 0))::qgh ks (j+1) el
def qbh (ks:Ks) (l:List (List Int)):List Value:=l.flatMap (qgh ks 0)
def sat (n:Nat):Nat:=bif Nat.ble n maxLen then n else maxLen
def qb1 (el:List Int) (off:Nat) (a9s:List Int):List Int:=(List.range (max el.length (off+a9s.length))).map fun j=>if off≤j∧j<off+a9s.length then a9s.getD (j - off) 0 else el.getD j 0
def qkn (l:List (List Int)) (i off:Nat) (a9s:List Int):List (List Int):=l.set i (qb1 (l.getD i []) off a9s)
def qa_ (l:List (List Int)):ByteArray:=⟨(l.map fun el=>UInt8.ofNat (IntKind.u8.wrap (el.getD 0 0)).toNat).toArray⟩
def rdN (l:List (List Int)):Nat→Int
 |0=>0
 |i+1=>qbg .or .u64 (qbg .shl .u64 (rdN l i) 8) (IntKind.u64.wrap (IntKind.u8.wrap ((l.getD i []).getD 0 0)))
structure Env where
 iv:Nat→Int
 bv:Nat→Bool
 F:Nat→Nat→List Int→Int
 pv:Nat→Value
 pv1:∀i,oneC (pv i)=true
 av:Nat→Value:=fun _=> .bool false
 fr:List Blk:=[]
def SE.ty:SE→Option (Option IntKind)
 | .ivar k _ | .lit k _ | .bin _ k _ _ | .conv k _ | .mx k _ _ | .mn k _ _=>some (some k)
 | .app _ _ k _ | .el k _ _ _=>some k
 | .len _=>some (some .i64)
 | .wd _ _=>some (some .u64)
 | .bvar _ | .cmp _ _ _ | .and _ _ | .not _ | .seq _ _=>some none
 |_=>none
mutual
noncomputable def SE.val (E:Env):SE→Int
 | .ivar k i=>k.wrap (E.iv i)
 | .bvar i=>b2i (E.bv i)
 | .lit k n=>k.wrap n
 | .bin op k a b=>qbg op k (a.val E) (b.val E)
 | .cmp op a b=>b2i (qa8 op (a.val E) (b.val E))
 | .and a b=>b2i (a.val E !=0&&b.val E !=0)
 | .mx k a b=>k.wrap (bif decide (b.val E>a.val E) then b.val E else a.val E)
 | .mn k a b=>k.wrap (bif decide (b.val E<a.val E) then b.val E else a.val E)
 | .conv k a=>k.wrap (a.val E)
 | .not a=>b2i (!(a.val E !=0))
 | .app f i k a9s=>wrK k (E.F f i (a9s.vals E))
 | .nil=>0
 | .cons _ _=>0
 | .len x=>((sat (dec (x.val E)).length:Nat):Int)
 | .el k x i j=>wrK k (((dec (x.val E)).getD (i.val E).toNat []).getD j 0)
 | .seq x y=>b2i (decide (qa_ (dec (x.val E))=qa_ (dec (y.val E))))
 | .lvar i=>E.iv i
 | .lap f i a9s=>E.F f i (a9s.vals E)
 | .lnil=>enc []
 | .lcat x y=>enc (dec (x.val E)++dec (y.val E))
 | .lone a9s=>enc [a9s.vals E]
 | .lset x i off a9s=>enc (qkn (dec (x.val E)) (i.val E).toNat off (a9s.vals E))
 | .lrep n a9s=>enc (List.replicate (n.val E).toNat (a9s.vals E))
 | .ltk x n=>enc ((dec (x.val E)).take (n.val E).toNat)
 | .ldr x n=>enc ((dec (x.val E)).drop (n.val E).toNat)
 | .lbs l=>enc (l.map fun b=>[Int.ofNat b])
 | .wd x i=>IntKind.u64.wrap (rdN (dec (x.val E)) i)
noncomputable def SE.vals (E:Env):SE→List Int
 | .cons a a9s=>a.val E::a9s.vals E
 |_=>[]
end
noncomputable def SE.lst (E:Env) (x:SE):List (List Int):=dec (x.val E)
noncomputable def eS (E:Env) (x:SE):Value:=match x.ty with
 |some (some k)=> .int k (x.val E)
 |some none=> .bool (x.val E !=0)
 |none=> .bool false
abbrev Vl:=Env
noncomputable abbrev Env.s (E:Env) (x:SE):Value:=eS E x
abbrev Env.v (E:Env) (i:Nat):Value:=E.pv i
abbrev eV (E:Env):Vl:=E
theorem zpq (E:Env) (x:SE):oneC (eS E x)=true:=by unfold eS;split<;>rfl
theorem qaq (k:IntKind) (n:Int):k.wrap (k.wrap n)=k.wrap n:=by
 cases k<;>simp only [IntKind.wrap,IntKind.bits,IntKind.signed]<;>simp<;>split<;>omega
theorem z6l (n:Nat):sat n≤maxLen:=by
 unfold sat
 cases h:Nat.ble n maxLen with
 |true=>exact Nat.le_of_ble_eq_true h
 |false=>exact Nat.le_refl _
theorem qcz {n:Nat} (h:n≤maxLen):sat n=n:=by unfold sat;rw [Nat.ble_eq_true_of_le h];rfl
theorem qm6 (n:Nat):sat n≤n:=by
 unfold sat
 cases h:Nat.ble n maxLen with
 |true=>exact Nat.le_refl _
 |false=>
  have:¬n≤maxLen:=fun q=>by rw [Nat.ble_eq_true_of_le q] at h;cases h
  show maxLen≤n
  omega
theorem qei {n m:Nat} (h:sat n≤m) (hm:m<maxLen):n≤m:=by
 unfold sat at h
 cases hb:Nat.ble n maxLen with
 |true=>rw [hb] at h;exact h
 |false=>rw [hb] at h;simp only [cond_false] at h;omega
theorem qck {n:Nat} (h:n≤maxLen):IntKind.i64.wrap (n:Int)=(n:Int):=by
 unfold maxLen at h
 rw [IntKind.wrap_i64];omega
theorem qgn (E:Env) (x:SE):(SE.len x).val E=((sat (x.lst E).length:Nat):Int):=by simp only [SE.val,SE.lst]
theorem qbn (E:Env) {x:SE} {k:IntKind} (h:x.ty=some (some k)):k.wrap (x.val E)=x.val E:=by
 cases x<;>simp only [SE.ty,Option.some.injEq,reduceCtorEq] at h
 case ivar=>subst h;simp only [SE.val];exact qaq _ _
 case lit=>subst h;simp only [SE.val];exact qaq _ _
 case bin op k' a b=>subst h;simp only [SE.val];unfold qbg;split<;>first |exact qaq _ _ |(cases k'<;>rfl)
 case conv=>subst h;simp only [SE.val];exact qaq _ _
 case mx=>subst h;simp only [SE.val];exact qaq _ _
 case mn=>subst h;simp only [SE.val];exact qaq _ _
 case app f i k' a9s=>subst h;simp only [SE.val];exact qaq _ _
 case el=>subst h;simp only [SE.val];exact qaq _ _
 case len x=>subst h;rw [qgn];exact qck (z6l _)
 case wd x i=>subst h;simp only [SE.val];exact qaq _ _
theorem z5b (x:Int):wrK none x=b2i (wrK none x !=0):=by simp only [wrK,qas]
theorem qi1 {E:Env} {x:SE} (h:x.ty=some none):x.val E=b2i (x.val E !=0):=by
 cases x<;>simp only [SE.ty,reduceCtorEq,Option.some.injEq] at h
 case bvar=>simp only [SE.val,qas]
 case cmp=>simp only [SE.val,qas]
 case and=>simp only [SE.val,qas]
 case not=>simp only [SE.val,qas]
 case seq=>simp only [SE.val,qas]
 case app f i k a9s=>subst h;simp only [SE.val];exact z5b _
 case el=>subst h;simp only [SE.val];exact z5b _
theorem q1d {k:Option IntKind} {x:Int} (h:inK k x):wrK k x=x:=by
 cases k with
 |some k=>exact h
 |none=>rcases h with rfl |rfl<;>rfl
theorem qne {E:Env} {x:SE} {k:Option IntKind} (h:x.ty=some k):eS E x=qf2 k (x.val E):=by
 cases k<;>simp only [eS,h,qf2]
theorem qf5 {E:Env} {op:BinOp} {x y:SE}:eS E (.cmp op x y)= .bool (qa8 op (x.val E) (y.val E)):=by
 simp only [eS,SE.ty,SE.val,qas]
theorem qnf {E:Env} {op:BinOp} {k:IntKind} {x y:SE}:eS E (.bin op k x y)= .int k (qbg op k (x.val E) (y.val E)):=by
 simp only [eS,SE.ty,SE.val]
theorem qeq:∀(ks:Ks) (j:Nat) (el:List Int),(qgh ks j el).length=ks.length
 |[],_,_=>rfl
 |k::ks,j,el=>by simp [qgh,qeq ks]
theorem qlr:∀(ks:Ks) (n j:Nat) (el:List Int),(qgh ks j el).drop n=qgh (ks.drop n) (j+n) el
 |[],n,j,el=>by simp [qgh]
 |k::ks,0,j,el=>rfl
 |k::ks,n+1,j,el=>by
  simp only [qgh,List.drop_succ_cons]
  rw [qlr ks n (j+1) el,show j+1+n=j+(n+1) by omega]
theorem ql3:∀(ks:Ks) (n j:Nat) (el:List Int),(qgh ks j el).take n=qgh (ks.take n) j el
 |[],n,j,el=>by simp [qgh]
 |k::ks,0,j,el=>rfl
 |k::ks,n+1,j,el=>by simp only [qgh,List.take_succ_cons,ql3 ks n (j+1) el]
theorem q3a:∀(ks:Ks) (j r:Nat) (el:List Int),(qgh ks j el)[r]? =(ks[r]?).map fun k=>qf2 k (wrK k (el.getD (j+r) 0))
 |[],j,r,el=>by simp [qgh]
 |k::ks,j,0,el=>by simp [qgh]
 |k::ks,j,r+1,el=>by
  simp only [qgh,List.getElem?_cons_succ]
  rw [q3a ks (j+1) r el,show j+1+r=j+(r+1) by omega]
theorem q2s:∀(ks:Ks) (j:Nat) (el:List Int),(qgh ks j el).all oneC=true
 |[],_,_=>rfl
 |k::ks,j,el=>by
  have:oneC (qf2 k (wrK k (el.getD j 0)))=true:=by cases k<;>rfl
  rw [qgh,List.all_cons,this,q2s ks];rfl
theorem qdi (ks:Ks):∀(l:List (List Int)),(qbh ks l).length=l.length * ks.length
 |[]=>by simp [qbh]
 |el::l=>by
  have:=qdi ks l
  simp only [qbh] at this
  simp only [qbh,List.flatMap_cons,List.length_append,qeq,List.length_cons,this,Nat.add_mul]
  omega
theorem qli (ks:Ks) (l m:List (List Int)):qbh ks (l++m)=qbh ks l++qbh ks m:=by simp [qbh]
theorem qd6 (ks:Ks) (el:List Int) (l:List (List Int)):qbh ks (el::l)=qgh ks 0 el++qbh ks l:=by simp [qbh]
theorem q6c (ks:Ks) (l:List (List Int)):(qbh ks l).all oneC=true:=by
 induction l with
 |nil=>rfl
 |cons el l ih=>rw [qd6,List.all_append,q2s,ih];rfl
theorem qog (ks:Ks):∀(l:List (List Int)) (i:Nat),i<l.length→((qbh ks l).drop (i * ks.length)).take ks.length=qgh ks 0 (l.getD i [])
 |[],i,h=>by simp at h
 |el::l,0,h=>by
  rw [qd6,Nat.zero_mul,List.drop_zero,List.take_append_of_le_length (by rw [qeq];exact Nat.le_refl _),List.take_of_length_le (by rw [qeq];exact Nat.le_refl _)]
  rfl
 |el::l,i+1,h=>by
  have e:(i+1) * ks.length=(qgh ks 0 el).length+i * ks.length:=by rw [qeq,Nat.add_mul];omega
  rw [qd6,e,List.drop_append,show (qgh ks 0 el).length+i * ks.length - (qgh ks 0 el).length=i * ks.length by omega]
  rw [List.drop_eq_nil_of_le (by omega),List.nil_append]
  exact qog ks l i (by simpa using h)
theorem qpt {ks:Ks} {l:List (List Int)} {i r:Nat} (hi:i<l.length) (hr:r<ks.length):(qbh ks l)[i * ks.length+r]? =(qgh ks 0 (l.getD i []))[r]? :=by
 rw [←qog ks l i hi,List.getElem?_take,if_pos hr,List.getElem?_drop]
theorem qmf:∀(ks:Ks) (j:Nat) (el el':List Int),(∀r,r<ks.length→el.getD (j+r) 0=el'.getD (j+r) 0)→qgh ks j el=qgh ks j el'
 |[],_,_,_,_=>rfl
 |k::ks,j,el,el',h=>by
  have h0:=h 0 (by simp)
  rw [Nat.add_zero] at h0
  simp only [qgh,h0]
  rw [qmf ks (j+1) el el' fun r hr=>by rw [show j+1+r=j+(r+1) by omega];exact h (r+1) (by simp;omega)]
theorem qdu (el:List Int) (off:Nat) (a9s:List Int) (j:Nat):(qb1 el off a9s).getD j 0=if off≤j∧j<off+a9s.length then a9s.getD (j - off) 0 else el.getD j 0:=by
 unfold qb1
 rw [List.getD_eq_getElem?_getD,List.getElem?_map]
 by_cases hj:j<max el.length (off+a9s.length)
 ·rw [List.getElem?_range hj];rfl
 ·rw [List.getElem?_eq_none (by simpa using hj),if_neg (by omega)]
  simp only [Option.map_none,Option.getD_none]
  rw [List.getD_eq_getElem?_getD,List.getElem?_eq_none (by omega)];rfl
theorem qvo (ks:Ks) (r:List Int):∀(l:List (List Int)) (i:Nat),i<l.length→qbh ks (l.set i r)=(qbh ks l).take (i * ks.length)++(qgh ks 0 r++(qbh ks l).drop ((i+1) * ks.length))
 |[],i,h=>by simp at h
 |el::l,0,h=>by
  rw [List.set_cons_zero,qd6,qd6,Nat.zero_mul,List.take_zero,List.nil_append,Nat.zero_add,Nat.one_mul]
  congr 1
  rw [List.drop_append,qeq,Nat.sub_self,List.drop_eq_nil_of_le (by rw [qeq];exact Nat.le_refl _)];rfl
 |el::l,i+1,h=>by
  have e:∀n,(n+1) * ks.length=(qgh ks 0 el).length+n * ks.length:=fun n=>by rw [qeq,Nat.add_mul];omega
  have h1:(qgh ks 0 el++qbh ks l).take ((i+1) * ks.length)=qgh ks 0 el++(qbh ks l).take (i * ks.length):=by rw [e i,List.take_length_add_append]
  have h2:(qgh ks 0 el++qbh ks l).drop ((i+1+1) * ks.length)=(qbh ks l).drop ((i+1) * ks.length):=by rw [e (i+1),List.drop_length_add_append]
  rw [List.set_cons_succ,qd6,qd6,h1,h2,qvo ks r l i (by simpa using h),List.append_assoc]
theorem qp3 (ks:Ks) (n j:Nat) (el:List Int):qgh ks j el=qgh (ks.take n) j el++qgh (ks.drop n) (j+n) el:=by
 rw [←ql3,←qlr,List.take_append_drop]
theorem zmr {ks:Ks} {el a9s:List Int} {off n:Nat} (hn:a9s.length=n) (hle:off+n≤ks.length):qgh ks 0 (qb1 el off a9s)=(qgh ks 0 el).take off++(qgh ((ks.drop off).take n) off (qb1 el off a9s)++(qgh ks 0 el).drop (off+n)):=by
 rw [qp3 ks off 0 (qb1 el off a9s),Nat.zero_add,qp3 (ks.drop off) n off (qb1 el off a9s),ql3,qlr,Nat.zero_add,List.drop_drop]
 congr 1
 ·apply qmf
  intro r hr
  rw [List.length_take] at hr
  rw [qdu,if_neg (by omega)]
 ·congr 1
  apply qmf
  intro r hr
  rw [qdu,if_neg (by omega)]
theorem qu6 {ks:Ks} {l:List (List Int)} {i off n:Nat} {a9s:List Int} (hi:i<l.length) (hn:a9s.length=n) (hle:off+n≤ks.length):
  qbh ks (qkn l i off a9s)=(qbh ks l).take (i * ks.length+off)++(qgh ((ks.drop off).take n) off (qb1 (l.getD i []) off a9s)++(qbh ks l).drop (i * ks.length+off+n)):=by
 have hrow:=qog ks l i hi
 have hd:(qbh ks l).drop (i * ks.length)=qgh ks 0 (l.getD i [])++(qbh ks l).drop ((i+1) * ks.length):=by
  rw [←hrow,show (i+1) * ks.length=i * ks.length+ks.length by rw [Nat.add_mul];omega,←List.drop_drop,List.take_append_drop]
 unfold qkn
 rw [qvo ks _ l i hi,zmr hn hle]
 have hl:=qeq ks 0 (l.getD i [])
 have h3:(qbh ks l).drop (i * ks.length+off+n)=((qbh ks l).drop (i * ks.length)).drop (off+n):=by rw [List.drop_drop];congr 1;omega
 rw [List.take_add,h3,hd,List.take_append_of_le_length (by omega),List.drop_append_of_le_length (by omega)]
 simp only [List.append_assoc]
inductive C where
 |int (k:IntKind) (n:Int)
 |bool (b:Bool)
 |ptr (k off:Nat)
 |nilp
 |nili
 |sl (k off len cap:Nat)
 |slo (k len:Nat)
 |slt (k l sz len:Nat)
 |nils
 |str (s:ByteArray)
 |fn (f:Nat) (cap:List C)
 |opq (x:SE)
 |val (i:Nat)
 |sli (k:Nat) (x:SE)
 |pel (k:Nat) (i:SE) (sz off:Nat)
 |sts (x:SE)
 |big (x:SE) (ks:Ks)
 |frm
inductive V where
 |one (c:C)
 |agg (cs:List C)
 |tup (vs:List V)
 |any (i:Nat)
def slV (n g b c:Nat):Value:= .slice (if c=0∧n=0 then none else some ⟨g,b,none⟩) n (c / 2)
mutual
inductive RelC (e:Vl) (σ:List (Nat×Nat×Nat)):C→Value→Prop where
 |int {k n}:RelC e σ (.int k n) (.int k n)
 |bool {b}:RelC e σ (.bool b) (.bool b)
 |ptr {k off g b c} (h:σ[k]? =some (g,b,c)):RelC e σ (.ptr k off) (.pointer (some ⟨g,b+off,none⟩))
 |nilp:RelC e σ .nilp (.pointer none)
 |nili:RelC e σ .nili .nilIface
 |sl {k off len cap g b c} (h:σ[k]? =some (g,b,c)):RelC e σ (.sl k off len cap) (.slice (some ⟨g,b+off,none⟩) len cap)
 |slo {k len g b c} (h:σ[k]? =some (g,b,c)):RelC e σ (.slo k len) (.slice (some ⟨g,b,none⟩) len c)
 |slt {k l sz len g b c} (h:σ[k]? =some (g,b,c)):RelC e σ (.slt k l sz len) (.slice (some ⟨g,if c=l then b else b+l * sz,none⟩) len (c - l))
 |nils:RelC e σ .nils (.slice none 0 0)
 |str {s}:RelC e σ (.str s) (.string s)
 |fn {f cs vs} (h:RelCs e σ cs vs):RelC e σ (.fn f cs) (.func (.func f) #[] (List.toArray vs))
 |opq {i} (h:oneC (e.s i)=true):RelC e σ (.opq i) (e.s i)
 |val {i} (h:oneC (e.v i)=true):RelC e σ (.val i) (e.v i)
 |sli {k x g b c} (h:σ[k]? =some (g,b,c)):RelC e σ (.sli k x) (slV (sat (x.lst e).length) g b c)
 |pel {k i sz off g b c} (h:σ[k]? =some (g,b,c)):RelC e σ (.pel k i sz off) (.pointer (some ⟨g,b+((i.val e).toNat * sz+off),none⟩))
 |sts {x}:RelC e σ (.sts x) (.string (qa_ (x.lst e)))
inductive RelCs (e:Vl) (σ:List (Nat×Nat×Nat)):List C→List Value→Prop where
 |nil:RelCs e σ [] []
 |cons {c v cs vs} (h:RelC e σ c v) (t:RelCs e σ cs vs):RelCs e σ (c::cs) (v::vs)
end
mutual
inductive RelV (e:Vl) (σ:List (Nat×Nat×Nat)):V→Value→Prop where
 |one {c v} (h:RelC e σ c v):RelV e σ (.one c) v
 |agg {cs vs} (h:RelCs e σ cs vs):RelV e σ (.agg cs) (.agg (List.toArray vs))
 |tup {xs vs} (h:RelVs e σ xs vs):RelV e σ (.tup xs) (.tuple (List.toArray vs))
 |any {i}:RelV e σ (.any i) (e.av i)
inductive RelVs (e:Vl) (σ:List (Nat×Nat×Nat)):List V→List Value→Prop where
 |nil:RelVs e σ [] []
 |cons {x v xs vs} (h:RelV e σ x v) (t:RelVs e σ xs vs):RelVs e σ (x::xs) (v::vs)
end
def cOf:Value→Option C
 | .int k n=>some (.int k n)
 | .bool b=>some (.bool b)
 | .pointer none=>some .nilp
 | .nilIface=>some .nili
 | .slice none 0 0=>some .nils
 | .string s=>some (.str s)
 | .func (.func f) ⟨[]⟩ ⟨[]⟩=>some (.fn f [])
 |_=>none
def z2p:List Value→Option (List C)
 |[]=>some []
 |v::vs=>match cOf v with
  |some c=>(match z2p vs with |some cs=>some (c::cs) |none=>none)
  |none=>none
def vOf:Value→Option V
 | .agg ⟨cs⟩=>(match z2p cs with |some l=>some (.agg l) |none=>none)
 | .tuple ⟨[]⟩=>some (.tup [])
 |v=>(match cOf v with |some c=>some (.one c) |none=>none)
inductive Tr where
 |leaf
 |node (v:Option V) (l r:Tr)
def Tr.get:Tr→Nat→Option V
 | .leaf,_=>none
 | .node v l r,t=>bif Nat.beq t 1 then v else bif Nat.beq (Nat.mod t 2) 0 then l.get (Nat.div t 2) else r.get (Nat.div t 2)
def Tr.put:Nat→Tr→Nat→V→Tr
 |0,_,_,_=> .leaf
 |d+1,f,t,x=>
  let v:=match f with | .leaf=>none | .node v _ _=>v
  let l:=match f with | .leaf=> .leaf | .node _ l _=>l
  let r:=match f with | .leaf=> .leaf | .node _ _ r=>r
  bif Nat.beq t 1 then .node (some x) l r else bif Nat.beq (Nat.mod t 2) 0 then .node v (Tr.put d l (Nat.div t 2) x) r else .node v l (Tr.put d r (Nat.div t 2) x)
def fN {α:Type} (n:Nat) (k:Nat→α):α:=match n with |0=>k 0 |m+1=>k (Nat.succ m)
def fZ {α:Type} (n:Int) (k:Int→α):α:=match n with | .ofNat m=>fN m fun m=>k (.ofNat m) | .negSucc m=>fN m fun m=>k (.negSucc m)
def fB {α:Type} (b:Bool) (k:Bool→α):α:=match b with |true=>k true |false=>k false
def fC {α:Type} (c:C) (k:C→α):α:=
 match c with
 | .int q n=>fZ n fun n=>k (.int q n)
 | .bool b=>fB b fun b=>k (.bool b)
 | .ptr g o=>fN g fun g=>fN o fun o=>k (.ptr g o)
 | .sl g o l c=>fN g fun g=>fN o fun o=>fN l fun l=>fN c fun c=>k (.sl g o l c)
 | .slo g l=>fN g fun g=>fN l fun l=>k (.slo g l)
 |c=>k c
def fCs {α:Type}:List C→(List C→α)→α
 |[],k=>k []
 |c::cs,k=>fC c fun c=>fCs cs fun cs=>k (c::cs)
def fV {α:Type} (v:V) (k:V→α):α:=
 match v with
 | .one c=>fC c fun c=>k (.one c)
 | .agg cs=>fCs cs fun cs=>k (.agg cs)
 |v=>k v
abbrev MB:=List (Nat×List C×TypeId×Bool)
def qjx:List C→Bool
 | .big _ _::_=>true
 | .frm::_=>true
 |_=>false
def lkB:MB→Nat→Option (List C×TypeId×Bool)
 |[],_=>none
 |(k,cs,y)::r,t=>bif Nat.beq k t then (bif qjx cs then none else some (cs,y)) else lkB r t
def lkL:MB→Nat→Option (SE×Ks×TypeId)
 |[],_=>none
 |(k,cs,T,_)::r,t=>bif Nat.beq k t then (match cs with |[.big x ks]=>some (x,ks,T) |_=>none) else lkL r t
def qtf:List MB→Nat→Option (SE×Ks×TypeId)
 |[],_=>none
 |m::r,t=>match lkL m t with |some x=>some x |none=>qtf r t
def stL:MB→Nat→SE→Option MB
 |[],_,_=>none
 |(k,cs,y)::r,t,x'=>bif Nat.beq k t then (match cs with |[.big _ ks]=>some ((k,[.big x' ks],y)::r) |_=>none) else match stL r t x' with |some r'=>some ((k,cs,y)::r') |none=>none
def lkM:List MB→Nat→Option (List C×TypeId×Bool)
 |[],_=>none
 |m::r,t=>match lkB m t with |some x=>some x |none=>lkM r t
def stB:MB→Nat→List C→Option MB
 |[],_,_=>none
 |(k,cs,T,o)::r,t,cs'=>bif Nat.beq k t then some ((k,cs',T,o)::r) else match stB r t cs' with |some r'=>some ((k,cs,T,o)::r') |none=>none
def qjc:MB→Nat→Option ((Nat×List C×TypeId×Bool)×MB)
 |[],_=>none
 |(k,x)::r,t=>bif Nat.beq k t then some ((k,x),r) else match qjc r t with |some (b,r')=>some (b,(k,x)::r') |none=>none
inductive Ex where
 |normal |ret |exit (id:Nat)
abbrev qm7:=Nat→List V→Option V
abbrev ztp:=(SE→Option Bool)→Tr→MB→List MB→Nat→Option (Ex×Tr×MB×Nat)
abbrev qru:=Nat→List V→MB→List MB→Nat→Option (V×MB×Nat)
abbrev zz2:=(SE→Option Bool)→qru
structure Cfg where
 P:Program
 X:qm7
 H:qm7
 G:Oper→List V→Option V
 D:SE→Option Bool
 E:Nat→Nat→List (Nat×Kind)
 S:Nat→Nat→List Nat
 L:Nat→Nat→ztp
 W:Nat→Bool:=fun _=>true
 B:zz2:=fun _ _ _ _ _ _=>none
def toI:C→Option (IntKind×SE)
 | .int k n=>bif decide (k.wrap n=n) then some (k,.lit k n) else none
 | .opq x=>match x.ty with |some (some k)=>some (k,x) |_=>none
 |_=>none
def toB:C→Option SE
 | .bool b=>some (.cmp .eql (.lit .i64 (b2i b)) (.lit .i64 1))
 | .opq x=>match x.ty with |some none=>some x |_=>none
 |_=>none
def toK (k:Option IntKind) (c:C):Option SE:=match k with
 |some k=>(match toI c with |some (k',x)=>bif decide (k=k') then some x else none |none=>none)
 |none=>toB c
def qko:Ks→List C→Option (List SE)
 |[],[]=>some []
 |k::ks,c::cs=>(match toK k c,qko ks cs with |some x,some l=>some (x::l) |_,_=>none)
 |_,_=>none
def seL:List SE→SE
 |[]=> .nil
 |x::l=> .cons x (seL l)
def qki:SE→SE
 | .lset x _ _ _=>qki x
 |x=> .len x
def geB (c:Cfg):SE→Bool
 | .lit k n=>decide (0≤k.wrap n)
 |i=>match c.D (.cmp .geq i (.lit .i64 0)) with |some b=>b |none=>false
def inB (c:Cfg) (i x:SE):Bool:=geB c i&&(match c.D (.cmp .lss i (qki x)) with |some b=>b |none=>false)
def z65:SE→Nat→Option SE
 | .cons a _,0=>some a
 | .cons _ az,n+1=>z65 az n
 |_,_=>none
def zbj:SE→Nat
 | .cons _ az=>zbj az+1
 |_=>0
def elS (k:Option IntKind) (i:SE) (j:Nat):SE→SE
 | .lset x i' off az=>bif decide (i'=i) then
   (bif Nat.ble off j&&Nat.blt j (off+zbj az) then (match z65 az (j - off) with |some y=>bif decide (y.ty=some k) then y else .el k (.lset x i' off az) i j |none=> .el k (.lset x i' off az) i j)
   else elS k i j x) else .el k (.lset x i' off az) i j
 |x=> .el k x i j
def zj6 (z i:SE) (off:Nat) (az:SE):SE:=match z with
 | .lset x i' off' bz=>bif decide (i'=i)&&(Nat.beq off' off&&Nat.beq (zbj bz) (zbj az)) then .lset x i off az else .lset z i off az
 |_=> .lset z i off az
def elC (x i:SE):Ks→Nat→List C
 |[],_=>[]
 |k::ks,j=> .opq (elS k i j x)::elC x i ks (j+1)
def ztb (P:Program) (t:TypeId) (x i:SE) (ks:Ks) (off:Nat):Option V:=
 match qcq P t with
 |some (true,n)=>let ks':=(ks.drop off).take n;bif Nat.beq ks'.length n then some (.agg (elC x i ks' off)) else none
 |some (false,_)=>(match ks[off]? with |some k=>some (.one (.opq (elS k i off x))) |none=>none)
 |none=>none
def toIx:V→Option SE
 | .one c=>(match toI c with |some (_,x)=>some x |none=>none)
 |_=>none
def zg_ (D:SE→Option Bool):SE→Option Nat
 | .lnil=>some 0
 | .lone _=>some 1
 | .lbs l=>some l.length
 | .ldr x _=>zg_ D x
 | .ltk x _=>zg_ D x
 | .lcat x y=>(match zg_ D y with |some b=>(match zg_ D x with |some a=>some (a+b) |none=>none) |none=>none)
 |x=>(match D (.cmp .leq (qki x) (.lit .i64 100000)) with |some true=>some 100000 |_=>none)
def sm6 (D:SE→Option Bool) (x:SE):Bool:=match D (.cmp .leq (qki x) (.lit .i64 1000000)) with |some b=>b |none=>false
def smX (D:SE→Option Bool):SE→Bool
 | .lnil=>true
 | .lone _=>true
 | .lbs l=>Nat.ble l.length 1000000
 | .ldr x _=>smX D x
 | .ltk x _=>smX D x
 | .lcat x y=>(match zg_ D (.lcat x y) with |some n=>Nat.ble n 1000000 |none=>sm6 D (.lcat x y))
 |x=>sm6 D x
def smB (c:Cfg) (x:SE):Bool:=smX c.D x
def strT:C→Option SE
 | .str s=>some (.lbs (s.data.toList.map UInt8.toNat))
 | .sts x=>some x
 |_=>none
def asB (c:Cfg):V→Option Bool
 | .one (.bool b)=>some b
 | .one (.opq x)=>c.D x
 |_=>none
def zsf (op:BinOp) (k:IntKind) (a:Int) (k':IntKind) (b:Int):Option C:=
 match op with
 | .shl=>bif decide (b<0) then none else some (.int k (k.wrap (a * 2 ^ (min b.toNat k.bits))))
 | .shr=>bif decide (b<0) then none else some (.int k (a.fdiv (2 ^ (min b.toNat k.bits))))
 |op=>bif decide (k=k') then
  (match op with
   | .add=>some (.int k (k.wrap (a+b)))
   | .sub=>some (.int k (k.wrap (a - b)))
   | .mul=>some (.int k (k.wrap (a * b)))
   | .and=>some (.int k (bits .and k a b))
   | .or=>some (.int k (bits .or k a b))
   | .xor=>some (.int k (bits .xor k a b))
   | .eql=>some (.bool (a==b))
   | .neq=>some (.bool (a !=b))
   | .lss=>some (.bool (decide (a<b)))
   | .leq=>some (.bool (decide (a≤b)))
   | .gtr=>some (.bool (decide (a>b)))
   | .geq=>some (.bool (decide (a≥b)))
   | .quo=>bif (b==0) then none else some (.int k (k.wrap (a.tdiv b)))
   | .rem=>bif (b==0) then none else some (.int k (a.tmod b))
   |_=>none) else none
def qnq (P:Program) (t:TypeId) (cs:List C) (off:Nat):Option V:=
 match qcq P t with
 |some (true,n)=>let vs:=(cs.drop off).take n;bif Nat.beq vs.length n then some (.agg vs) else none
 |some (false,_)=>(match cs[off]? with |some c=>some (.one c) |none=>none)
 |none=>none
def qqt:Nat→List C→Option SE
 |1,[c]=>(match toK (some .u8) c with |some x=>some (.lone (.cons x .nil)) |none=>none)
 |n+1,c::cs=>(match toK (some .u8) c,qqt n cs with |some x,some y=>some (.lcat (.lone (.cons x .nil)) y) |_,_=>none)
 |_,_=>none
def eqC (P:Program):Nat→TypeId→V→V→Option Bool
 |0,_,_,_=>none
 |d+1,t,x,y=>
  match P.underlying t,x,y with
  |some (.int _),.one (.int k1 a),.one (.int k2 b)=>bif decide (k1=k2) then some (a==b) else none
  |some .bool,.one (.bool a),.one (.bool b)=>some (a==b)
  |some (.struct fs),.agg xs,.agg ys=>
   bif P.stoodInHeld t then none else
   fs.toList.foldr (fun f r=>bif decide (f.name= "_") then none else
    match qnq P f.type xs f.offset,qnq P f.type ys f.offset with
    |some u,some v=>(match eqC P d f.type u v,r with |some b,some b'=>some (b&&b') |_,_=>none)
    |_,_=>none) (some true)
  |_,_,_=>none
def opsL (ρ:Operand→Option V):List (Nat×Operand)→Option (List (Nat×V))
 |[]=>some []
 |(i,x)::r=>match ρ x,opsL ρ r with |some v,some l=>some ((i,v)::l) |_,_=>none
def q45 (ρ:Operand→Option V):List Operand→Option (List V)
 |[]=>some []
 |x::r=>match ρ x,q45 ρ r with |some v,some l=>some (v::l) |_,_=>none
def V.cs:V→Option (List C)
 | .one c=>some [c]
 | .agg cs=>some cs
 | .tup _=>none
 | .any _=>none
def qm1 (cs:List C) (off:Nat) (vs:List C):List C:=cs.take off++(vs++cs.drop (off+vs.length))
def fillC (pl:List (Nat×Nat)):List C→List (Nat×V)→Option (List C)
 |cs,[]=>some cs
 |cs,(i,v)::r=>match pl[i]?,v.cs with
  |some (off,n),some vs=>bif Nat.beq vs.length n&&Nat.ble (off+vs.length) cs.length then fillC pl (qm1 cs off vs) r else none
  |_,_=>none
def z9i (P:Program):List Field→Option (List (Nat×Nat))
 |[]=>some []
 |f::r=>match qcq P f.type,z9i P r with |some (_,n),some l=>some ((f.offset,n)::l) |_,_=>none
def zks:List V→Option (List C)
 |[]=>some []
 | .one c::r=>(match zks r with |some l=>some (c::l) |none=>none)
 |_=>none
def evQ0 (c:Cfg) (ρ:Operand→Option V) (m:List MB) (o:Oper):Option V:=
 match o.op with
 | .move x | .assign x=>ρ x
 | .pick x a b=>(match ρ x with |some v=>(match asB c v with |some t=>bif t then ρ a else ρ b |none=>none) |none=>none)
 | .load t x=>
  (match ρ x with
  |some (.one (.ptr k off))=>(match lkM m k with |some (cs,_,_)=>qnq c.P t cs off |none=>none)
  |some (.one (.pel k i sz off))=>(match qtf m k with
   |some (x,ks,_)=>bif Nat.beq ks.length sz&&inB c i x then ztb c.P t x i ks off else none
   |none=>none)
  |_=>none)
 | .nilCheck x=>(match ρ x with |some (.one (.ptr k off))=>some (.one (.ptr k off)) |some (.one (.pel k i sz off))=>some (.one (.pel k i sz off)) |_=>none)
 | .binOp op t x y _=>
  (match ρ x,ρ y with
  |some (.one (.int k a)),some (.one (.int k' b))=>(match zsf op k a k' b with |some c=>some (.one c) |none=>none)
  |some (.one (.bool a)),some (.one (.bool b))=>
   (match op,c.P.underlying t with
   | .eql,some .bool=>some (.one (.bool (a==b)))
   | .neq,some .bool=>some (.one (.bool (!(a==b))))
   |_,_=>none)
  |some (.one (.sts a)),some (.one b)=>
   (match strT b with
   |some y=>(match op,c.P.underlying t with
    | .add,some .string=>bif smB c a&&smB c y then some (.one (.sts (.lcat a y))) else none
    | .eql,some .string=>some (.one (.opq (.seq a y)))
    | .neq,some .string=>some (.one (.opq (.not (.seq a y))))
    |_,_=>none)
   |none=>none)
  |some (.one (.str a)),some (.one (.sts b))=>(match op,c.P.underlying t with
   | .add,some .string=>bif smB c b&&Nat.ble a.size 1000000 then some (.one (.sts (.lcat (.lbs (a.data.toList.map UInt8.toNat)) b))) else none
   | .eql,some .string=>some (.one (.opq (.seq (.lbs (a.data.toList.map UInt8.toNat)) b)))
   | .neq,some .string=>some (.one (.opq (.not (.seq (.lbs (a.data.toList.map UInt8.toNat)) b))))
   |_,_=>none)
  |some (.one (.str a)),some (.one (.str b))=>(match op,c.P.underlying t with
   | .add,some .string=>bif Nat.ble a.size 1000000&&Nat.ble b.size 1000000 then some (.one (.str (a++b))) else none
   | .eql,some .string=>some (.one (.bool (decide (a=b))))
   | .neq,some .string=>some (.one (.bool (!decide (a=b))))
   |_,_=>none)
  |some (.agg xs),some (.agg ys)=>
   (match op with
   | .eql=>bif c.P.eqGuardType c.P.depth t then none else (match eqC c.P 10000 t (.agg xs) (.agg ys) with |some b=>some (.one (.bool b)) |none=>none)
   | .neq=>bif c.P.eqGuardType c.P.depth t then none else (match eqC c.P 10000 t (.agg xs) (.agg ys) with |some b=>some (.one (.bool (!b))) |none=>none)
   |_=>none)
  |_,_=>none)
 | .unOp .not _ x=>(match ρ x with |some (.one (.bool b))=>some (.one (.bool (!b))) |_=>none)
 | .unOp .neg _ x=>(match ρ x with |some (.one (.int k a))=>some (.one (.int k (k.wrap (0 - a)))) |_=>none)
 | .convert s d x=>
  (match ρ x,c.P.underlying s,c.P.underlying d with
  |some (.one (.int _ a)),some (.int _),some (.int k)=>some (.one (.int k (k.wrap a)))
  |some (.one (.sl k off n _)),some (.slice e),some .string=>(match c.P.underlying e,lkM m k with
   |some (.int .u8),some (cs,_,_)=>bif Nat.blt 0 n then (match qqt n ((cs.drop off).take n) with |some q=>some (.one (.sts q)) |none=>none) else none
   |_,_=>none)
  |some (.one (.sli k z)),some (.slice e),some .string=>(match c.P.underlying e,qtf m k with
   |some (.int .u8),some (y,[some .u8],_)=>bif decide (qki y=qki z)&&smB c z then some (.one (.sts y)) else none
   |_,_=>none)
  |_,_,_=>none)
 | .makeFunc (.func f) ⟨[]⟩ b=>(match q45 ρ b.toList with |some vs=>(match zks vs with |some cs=>some (.one (.fn f cs)) |none=>none) |none=>none)
 | .field t x i=>
  (match ρ x,qno c.P t i with
  |some (.agg cs),some (off,true,n)=>let vs:=(cs.drop off).take n;some (.agg vs)
  |some (.agg cs),some (off,false,_)=>(match cs[off]? with |some c=>some (.one c) |none=>none)
  |_,_=>none)
 | .fieldAddr t x i=>
  (match ρ x,qno c.P t i with
  |some (.one (.ptr k off)),some (fo,_,n)=>bif Nat.beq n 0 then none else some (.one (.ptr k (off+fo)))
  |some (.one (.pel k i sz off)),some (fo,_,n)=>bif Nat.beq n 0 then none else some (.one (.pel k i sz (off+fo)))
  |_,_=>none)
 | .indexAddr t x y=>
  (match ρ x,ρ y,c.P.underlying t with
  |some (.one (.sl k off len _)),some (.one (.int _ i)),some (.slice e)=>(match qcq c.P e with |some (_,n)=>bif decide (0≤i∧i<(len:Int)) then some (.one (.ptr k (off+i.toNat * n))) else none |none=>none)
  |some (.one (.slo k len)),some (.one (.int _ i)),some (.slice e)=>(match qcq c.P e with |some (_,n)=>bif decide (0≤i∧i<(len:Int)) then some (.one (.ptr k (i.toNat * n))) else none |none=>none)
  |some (.one (.ptr k off)),some (.one (.int _ i)),some (.array len e)=>(match qcq c.P e with |some (_,n)=>bif decide (0≤i∧i<(len:Int)) then some (.one (.ptr k (off+i.toNat * n))) else none |none=>none)
  |some (.one (.sli k z)),some v,some (.slice e)=>(match qcq c.P e,toIx v with |some (_,n),some i=>bif inB c i z then some (.one (.pel k i n 0)) else none |_,_=>none)
  |_,_,_=>none)
 | .index t x y=>
  (match ρ x,ρ y,c.P.underlying t with
  |some (.agg cs),some (.one (.int _ i)),some (.array len e)=>
   (match qcq c.P e with
   |some (false,n)=>bif decide (0≤i∧i<(len:Int)) then (match cs[i.toNat * n]? with |some c=>some (.one c) |none=>none) else none
   |_=>none)
  |some (.one (.str s)),some (.one (.int _ i)),some .string=>bif decide (0≤i) then (match s[i.toNat]? with |some b=>some (.one (.int .u8 b.toNat)) |none=>none) else none
  |some (.one (.sts z)),some v,some .string=>(match toIx v with |some i=>bif inB c i z then some (.one (.opq (.el (some .u8) z i 0))) else none |none=>none)
  |_,_,_=>none)
 | .slice t x (some lo) none none=>
  (match ρ x,ρ lo,c.P.underlying t with
  |some (.one (.slo k n)),some (.one (.int _ (.ofNat l))),some (.slice e)=>(match qcq c.P e with |some (_,sz)=>bif Nat.ble l n then some (.one (.slt k l sz (n - l))) else none |none=>none)
  |_,_,_=>none)
 | .extract x i=>(match ρ x with |some (.tup vs)=>vs[i]? |_=>none)
 | .build t ps=>
  (match c.P.underlying t,qdg c.P t with
  |some (.struct fs),some (.agg z)=>(match z2p z.toList,z9i c.P fs.toList,opsL ρ ps.toList with
   |some z,some pl,some l=>(match fillC pl z l with |some cs=>some (.agg cs) |none=>none)
   |_,_,_=>none)
  |some (.array len e),some (.agg z)=>(match z2p z.toList,qcq c.P e,opsL ρ ps.toList with
   |some z,some (_,m),some l=>(match fillC ((List.range len).map fun i=>(i * m,m)) z l with |some cs=>some (.agg cs) |none=>none)
   |_,_,_=>none)
  |_,_=>none)
 | .call {callee:= .builtin .len,args:=⟨[x]⟩,argTypes:=⟨t::_⟩}=>
  (match ρ x,c.P.underlying t with
  |some (.one (.sl _ _ n _)),some (.slice _)=>some (.one (.int .i64 n))
  |some (.one (.slo _ n)),some (.slice _)=>some (.one (.int .i64 n))
  |some (.one (.slt _ _ _ n)),some (.slice _)=>some (.one (.int .i64 n))
  |some (.one .nils),some (.slice _)=>some (.one (.int .i64 (0:Nat)))
  |some (.one (.str s)),some .string=>some (.one (.int .i64 s.size))
  |some (.one (.sli _ z)),some (.slice _)=>some (.one (.opq (qki z)))
  |some (.one (.sts z)),some .string=>bif smB c z then some (.one (.opq (qki z))) else none
  |_,_=>none)
 | .call {callee:= .builtin .max,args:=⟨[x,y]⟩,..}=>(match ρ x,ρ y with |some (.one (.int k a)),some (.one (.int _ b))=>some (.one (.int k (bif decide (b>a) then b else a))) |_,_=>none)
 | .call {callee:= .builtin .min,args:=⟨[x,y]⟩,..}=>(match ρ x,ρ y with |some (.one (.int k a)),some (.one (.int _ b))=>some (.one (.int k (bif decide (b<a) then b else a))) |_,_=>none)
 |_=>none
def evQ (c:Cfg) (ρ:Operand→Option V) (m:List MB) (o:Oper):Option V:=
 match evQ0 c ρ m o with
 |some v=>some v
 |none=>(match q45 ρ o.op.operands.toList with |some vs=>c.G o vs |none=>none)
def rowC (m:Nat):Nat→List (Nat×V)→Option (List C)
 |_,[]=>some []
 |i,(j,v)::r=>match v.cs with
  |some vs=>bif Nat.beq i j&&Nat.beq vs.length m then (match rowC m (i+1) r with |some cs=>some (vs++cs) |none=>none) else none
  |none=>none
def qxq (P:Program) (ρ:Operand→Option V) (o:Oper):Option (Option Nat×List C×TypeId):=
 match o.op with
 | .alloc t=>(match qdg P t with
  |some z=>(match vOf z with |some z'=>(match z'.cs with |some cs=>some (none,cs,t) |none=>none) |none=>none)
  |none=>none)
 | .box t x=>(match ρ x with |some v=>(match v.cs with |some cs=>some (none,cs,t) |none=>none) |none=>none)
 | .buildSlice t len ps=>
  (match P.underlying t with
  |some (.slice e)=>(match qcq P e,qdg P e,opsL ρ ps.toList with
   |some (_,m),some _,some l=>bif Nat.beq ps.toList.length len&&Nat.ble (len * m) 16777216 then (match rowC m 0 l with |some cs=>some (some len,cs,e) |none=>none) else none
   |_,_,_=>none)
  |_=>none)
 |_=>none
def zn_:Option Nat→Nat→C
 |none,k=> .ptr k 0
 |some n,k=> .sl k 0 n n
def callee (ρ:Operand→Option V) (c:Call):Option (Nat×List V):=
 match c.callee with
 | .value x=>(match ρ x,q45 ρ c.args.toList with
  |some (.one (.fn f cap)),some vs=>some (f,vs++cap.map .one)
  |_,_=>none)
 |_=>none
def isz (P:Program) (e:TypeId):Option (Nat×Nat×List C):=
 match P.info? e with
 |some i=>(match i.zero with
  |some z=>(match z2p z.cells.toList with
   |some zc=>bif Nat.beq zc.length i.size&&Nat.blt 0 i.size then some (i.size,i.bytes,zc) else none
   |none=>none)
  |none=>none)
 |none=>none
def q4q (a:SE):Bool:=match a.ty with |some (some .i64)=>true |_=>false
def z3n:List C→Option Ks
 |[]=>some []
 | .int k _::r=>(match z3n r with |some l=>some (some k::l) |none=>none)
 | .bool _::r=>(match z3n r with |some l=>some (none::l) |none=>none)
 |_=>none
def le6 (c:Cfg) (a:SE):Bool:=match c.D (.cmp .leq a (.lit .i64 1000000)) with |some r=>r |none=>false
def q85 (c:Cfg) (ρ:Operand→Option V) (t:TypeId) (x y:Operand) (M:MB) (nx:Nat):Option (V×MB×Nat):=
 match ρ x,ρ y,c.P.underlying t with
 |some (.one (.int _ (.ofNat l))),some (.one (.int _ (.ofNat l'))),some (.slice e)=>(match isz c.P e with
  |some (size,bytes,zc)=>bif Nat.beq l l'&&Nat.ble (bytes * l) 140737488355328&&Nat.ble l 4294967296 then
    fCs ((List.range (l * size)).map fun i=>zc.getD (i % size) .nils) fun cs=>some (.one (.sl nx 0 l l),(nx,cs,e,false)::M,nx+1) else none
  |none=>none)
 |some (.one (.opq a)),some (.one (.opq b)),some (.slice e)=>(match isz c.P e with
  |some (_,bytes,zc)=>(match z3n zc with
   |some ks=>(match qko ks zc with
    |some l=>bif (decide (a=b)&&q4q a)&&((geB c a&&le6 c a)&&Nat.ble bytes 1000000) then
      some (.one (.sli nx (.lrep a (seL l))),(nx,[.big (.lrep a (seL l)) ks],e,true)::M,nx+1) else none
    |none=>none)
   |none=>none)
  |none=>none)
 |_,_,_=>none
def qt9 (M:MB) (e size:Nat):C→Option (Option Nat×Nat×List C)
 | .nils=>some (none,0,[])
 | .slo k n=>(match lkB M k with
  |some (cs,T,true)=>bif Nat.beq T e&&Nat.beq cs.length (n * size) then some (some k,n,cs) else none
  |_=>none)
 | .sl k 0 n cap=>(match lkB M k with
  |some (cs,T,false)=>bif Nat.beq T e&&Nat.beq cs.length (cap * size)&&Nat.ble n cap&&Nat.ble cap 4294967296 then some (some k,n,cs.take (n * size)) else none
  |_=>none)
 |_=>none
def q4z (P:Program) (M:MB) (m:List MB) (size:Nat):C→Option (Nat×List C)
 | .nils=>some (0,[])
 | .slt k l sz n=>(match lkM m k with
  |some (cs,T,true)=>let vs:=(cs.drop (l * size)).take (n * size);bif Nat.beq vs.length (n * size)&&Nat.beq sz size&&decide ((P.info? T).map (·.size)=some size) then some (n,vs) else none
  |_=>none)
 | .sl k off n _=>(match lkM m k with
  |some (cs,_,_)=>let vs:=(cs.drop off).take (n * size);bif Nat.beq vs.length (n * size) then some (n,vs) else none
  |none=>none)
 | .slo k n=>(match lkM m k with
  |some (cs,_,_)=>let vs:=cs.take (n * size);bif Nat.beq vs.length (n * size) then some (n,vs) else none
  |none=>none)
 |_=>none
def qrq (c:Cfg) (ρ:Operand→Option V) (t:TypeId) (x y:Operand) (M:MB) (F:List MB) (nx:Nat):Option (V×MB×Nat):=
 match ρ x,ρ y,c.P.underlying t with
 |some (.one a),some (.one b),some (.slice e)=>(match isz c.P e with
  |some (size,bytes,_)=>(match qt9 M e size a,q4z c.P M (M::F) size b with
   |some (ok,n,old),some (m,news)=>bif Nat.beq m 0 then some (.one a,M,nx) else bif Nat.blt 0 m&&Nat.ble (n+m) 4294967296&&Nat.ble ((n+m) * bytes) 140737488355328 then
     fCs (old++news) fun cs=>some (.one (.slo nx (n+m)),(nx,cs,e,true)::(match ok with |some k=>(match qjc M k with |some (_,M1)=>M1 |none=>M) |none=>M),nx+1) else none
   |_,_=>none)
  |none=>none)
 |_,_,_=>none
def qqz (ks:Ks):Nat→List C→Option SE
 |0,[]=>some .lnil
 |0,_=>none
 |1,cs=>(match qko ks cs with |some l=>some (.lone (seL l)) |none=>none)
 |n+1,cs=>(match qko ks (cs.take ks.length),qqz ks n (cs.drop ks.length) with |some l,some y=>some (.lcat (.lone (seL l)) y) |_,_=>none)
def rowL (M:MB) (e:Nat) (ks:Ks):C→Option (Option Nat×SE)
 | .nils=>some (none,.lnil)
 | .sl k 0 0 0=>(match lkB M k with |some ([],T,false)=>bif Nat.beq T e then some (some k,.lnil) else none |_=>none)
 | .sl k 0 (n+1) cap=>(match lkB M k with |some (cs,T,false)=>bif Nat.beq T e&&Nat.beq (n+1) cap&&Nat.ble cap 1000000 then (match qqz ks (n+1) cs with |some q=>some (some k,q) |none=>none) else none |_=>none)
 | .sli k x=>(match lkL M k with |some (x',ks',T)=>bif decide (x=x')&&decide (ks=ks')&&Nat.beq T e then some (some k,x) else none |none=>none)
 |_=>none
def zrx (P:Program) (M:MB) (m:List MB) (ks:Ks) (size:Nat):C→Option SE
 | .sli k x=>(match qtf m k with |some (x',ks',_)=>bif decide (x=x')&&decide (ks=ks') then some x else none |none=>none)
 |b=>(match q4z P M m size b with |some (n,cs)=>bif Nat.blt 0 n&&Nat.ble n 1000000 then qqz ks n cs else none |none=>none)
def qud:SE→SE→SE
 | .lnil,y=>y
 |x,y=> .lcat x y
def zay (c:Cfg) (ρ:Operand→Option V) (t:TypeId) (x y:Operand) (M:MB) (F:List MB) (nx:Nat):Option (V×MB×Nat):=
 match ρ x,ρ y,c.P.underlying t with
 |some (.one a),some (.one b),some (.slice e)=>(match isz c.P e with
  |some (size,bytes,zc)=>(match z3n zc with
   |some ks=>(match rowL M e ks a,zrx c.P M (M::F) ks size b with
    |some (ok,p),some q=>bif smB c p&&smB c q&&Nat.ble bytes 1000000 then
      some (.one (.sli nx (qud p q)),(nx,[.big (qud p q) ks],e,true)::(match ok with |some k=>(match qjc M k with |some (_,M1)=>M1 |none=>M) |none=>M),nx+1) else none
    |_,_=>none)
   |none=>none)
  |none=>none)
 |_,_,_=>none
def app2 (a b:MB):MB:=match b with |[]=>a |_=>a++b
def evE (c:Cfg) (call:qru) (ρ:Operand→Option V) (o:Oper) (M:MB) (F:List MB) (nx:Nat):Option (V×MB×Nat):=
 match o.op with
 | .store t x y=>
  (match ρ x,ρ y,qcq c.P t with
  |some (.one (.pel k i sz off)),some v,some (_,n)=>(match lkL M k,v.cs with
   |some (z,ks,_),some vs=>bif Nat.beq ks.length sz&&inB c i z&&Nat.beq vs.length n&&Nat.ble (off+n) sz then
     (match qko ((ks.drop off).take n) vs with
     |some l=>(match stL M k (zj6 z i off (seL l)) with |some M'=>some (.tup [],M',nx) |none=>none)
     |none=>none) else none
   |_,_=>none)
  |some (.one (.ptr k off)),some v,some (_,n)=>(match lkB M k,v.cs with
   |some (cs,_,_),some vs=>bif Nat.beq vs.length n&&Nat.ble (off+vs.length) cs.length then fCs (qm1 cs off vs) fun cs'=>(match stB M k cs' with |some M'=>some (.tup [],M',nx) |none=>none) else none
   |_,_=>none)
  |_,_,_=>none)
 | .makeSlice t x y=>q85 c ρ t x y M nx
 | .call {callee:= .builtin .append,args:=⟨[x,y]⟩,argTypes:=⟨[t,t']⟩}=>bif Nat.beq t t' then (match qrq c ρ t x y M F nx with |some r=>some r |none=>zay c ρ t x y M F nx) else none
 | .call cl=>
  (match callee ρ cl with
  |some (f,vs)=>(match c.X f vs with
   |some v=>some (v,M,nx)
   |none=>(match c.H f vs with
    |some v=>some (v,M,nx)
    |none=>bif c.W f then call f vs M F nx else (match call f vs [] (M::F) nx with |some (v,M',nx')=>some (v,app2 M' M,nx') |none=>none)))
  |none=>(match evQ c ρ (M::F) o with |some v=>some (v,M,nx) |none=>none))
 |_=>(match evQ c ρ (M::F) o with |some v=>some (v,M,nx) |none=>none)
mutual
def C.lt (n:Nat):C→Bool
 | .ptr k _ | .sl k _ _ _ | .slo k _ | .slt k _ _ _ | .sli k _ | .pel k _ _ _=>Nat.blt k n
 | .fn _ cap=>C.ltL n cap
 | .big _ _ | .frm=>false
 |_=>true
def C.ltL (n:Nat):List C→Bool
 |[]=>true
 |c::cs=>c.lt n&&C.ltL n cs
end
mutual
def V.lt (n:Nat):V→Bool
 | .one c=>c.lt n
 | .agg cs=>C.ltL n cs
 | .tup vs=>V.ltL n vs
 | .any _=>true
def V.ltL (n:Nat):List V→Bool
 |[]=>true
 |v::vs=>v.lt n&&V.ltL n vs
end
def qtp (c:Cfg) (call:qru) (ρ:Operand→Option V) (o:Oper) (F:List MB) (nx:Nat):Option V:=
 match o.op with
 | .call cl=>
  (match callee ρ cl with
  |some (f,vs)=>(match c.X f vs with
   |some v=>some v
   |none=>(match c.H f vs with
   |some v=>some v
   |none=>(match call f vs [] F nx with |some (v,_,_)=>bif v.lt nx then some v else none |none=>none)))
  |none=>evQ c ρ F o)
 |_=>evQ c ρ F o
def qmy (c:Cfg) (call:qru) (ρ:Operand→Option V) (o:Oper) (F:List MB) (nx:Nat):Option (V×MB×Nat):=
 match o.op with
 | .call cl=>
  (match callee ρ cl with
  |some (f,vs)=>(match c.H f vs with
   |some v=>some (v,[],nx)
   |none=>call f vs [] F nx)
  |none=>none)
 |_=>none
def gv (n:Nat) (fr:Tr):Operand→Option V
 | .tmp t=>bif Nat.blt t n then fr.get (t+1) else none
 | .const v=>vOf v
 | .global _=>none
 | .func f=>some (.one (.fn f []))
def quh (P:Program) (M:MB) (k:Nat):Nat:=match lkB M k with
 |some (cs,T,true)=>(match P.info? T with |some i=>cs.length / i.size |none=>0)
 |_=>0
def witB (c:Cfg) (nx:Nat) (v:V) (M:MB) (nx':Nat):Bool:=
 Nat.ble nx nx'&&v.lt nx'&&M.all fun b=>Nat.ble nx b.1&&Nat.blt b.1 nx'&&(match b.2.1 with
  |[.big x ks]=>smB c x&&((match lkL M b.1 with |some (x',_,_)=>decide (x'=x) |none=>false)&&(match c.P.info? b.2.2.1 with |some i=>Nat.beq i.size ks.length |none=>false))
  |cs=>(match lkL M b.1 with |some _=>false |none=>true)&&(C.ltL nx' cs&&(!b.2.2.2||(match c.P.info? b.2.2.1 with
   |some i=>Nat.beq cs.length (quh c.P M b.1 * i.size)&&Nat.ble (quh c.P M b.1) 4294967296
   |none=>false))))
def want (c:Cfg) (n:Nat) (ops:List Oper) (fr:Tr) (o:Oper):Option Bool:=
 match o.guard with
 |none=>some true
 |some (j,w)=>match (ops[j]?).bind (·.dst) with
  |none=>none
  |some d=>match gv n fr (.tmp d) with
   |some (.tup [])=>some false
   |some v=>(match asB c v with |some b=>some (b==w) |none=>none)
   |none=>none
def zhd (fr:Tr) (dst:Option Nat) (v:V):Tr:=match dst with |none=>fr |some d=>fr.put 12 (d+1) v
def ql7 (c:Cfg) (call:qru) (q:Bool) (E:List (Nat×Kind)) (n:Nat) (ops:List Oper) (F:List MB):List Oper→Tr→MB→MB→Nat→Bool→Option (Tr×MB×Nat)
 |[],fr,Mr,M0,nx,_=>some (fr,app2 Mr M0,nx)
 |o::r,fr,Mr,M0,nx,br=>
  match want c n ops fr o with
  |none=>none
  |some false=>ql7 c call q E n ops F r (zhd fr o.dst (.tup [])) Mr M0 nx br
  |some true=>
   match kf q E o with
   | .alloc=>(match qxq c.P (gv n fr) o with
    |some (k,cs,t)=>fN nx fun nx=>fCs cs fun cs=>ql7 c call q E n ops F r (zhd fr o.dst (.one (zn_ k nx))) ((nx,cs,t,false)::Mr) M0 (nx+1) br
    |none=>none)
   | .eff=>(match evE c call (gv n fr) o (app2 Mr M0) F nx with
    |some (v,M',nx')=>fV v fun v=>ql7 c call q E n ops F r (zhd fr o.dst v) M' [] nx' true
    |none=>none)
   | .eff0=>bif br then none else
    (match qmy c call (gv n fr) o (Mr::M0::F) nx with
    |some (v,M',nx')=>fV v fun v=>ql7 c call q E n ops F r (zhd fr o.dst v) (app2 M' Mr) M0 nx' br
    |none=>(match evE c call (gv n fr) o Mr (M0::F) nx,o.op with
     |some (v,M',nx'),.store .. =>fV v fun v=>ql7 c call q E n ops F r (zhd fr o.dst v) M' M0 nx' br
     |_,_=>none))
   | .fresh=>(match qmy c call (gv n fr) o (Mr::M0::F) nx with
    |some (v,M',nx')=>bif witB c nx v M' nx' then fV v fun v=>ql7 c call q E n ops F r (zhd fr o.dst v) (app2 M' Mr) M0 nx' br else none
    |none=>none)
   | .base=>bif br then none else
    (match qtp c call (gv n fr) o (M0::F) nx with
    |some v=>fV v fun v=>ql7 c call q E n ops F r (zhd fr o.dst v) Mr M0 nx br
    |none=>none)
   | .pure=>(match qtp c call (gv n fr) o [] nx with
    |some v=>fV v fun v=>ql7 c call q E n ops F r (zhd fr o.dst v) Mr M0 nx br
    |none=>none)
   | .quiet=>(match qtp c call (gv n fr) o (Mr::M0::F) nx with
    |some v=>fV v fun v=>ql7 c call q E n ops F r (zhd fr o.dst v) Mr M0 nx br
    |none=>none)
def qk4 (fr:Tr):List Nat→MB→MB→MB×MB
 |[],Mr,M0=>(Mr,M0)
 |t::r,Mr,M0=>match fr.get (t+1) with
  |some (.one (.ptr k _))=>(match qjc M0 k with |some (b,M0')=>qk4 fr r (b::Mr) M0' |none=>qk4 fr r Mr M0)
  |_=>qk4 fr r Mr M0
def initT (args:List V):Tr:=go 1 args .leaf
where go:Nat→List V→Tr→Tr
 |_,[],f=>f
 |i,v::r,f=>go (i+1) r (f.put 12 i v)
def z3w (P:Program) (n:Nat) (fr:Tr) (m:List MB):List ResultVar→Option (List V)
 |[]=>some []
 |r::rs=>
  match (match r with
   | .tmp t=>gv n fr (.tmp t)
   | .cell a t=>(match gv n fr (.tmp a) with
    |some (.one (.ptr k off))=>(match lkM m k with |some (cs,_,_)=>qnq P t cs off |none=>none)
    |_=>none)),z3w P n fr m rs with
  |some v,some l=>some (v::l)
  |_,_=>none
def fid:Code→Nat
 | .region id _ _=>id
 | .seq a _=>fid a
 | .cond _ a _=>fid a
 | .block _ a=>fid a
 | .loop a=>fid a
 |_=>0
def qdq:Code→List Code
 | .seq a b=>qdq a++qdq b
 | .cond _ a b=>qdq a++qdq b
 | .block _ a=>qdq a
 | .loop a=>a::qdq a
 |_=>[]
def yda:List V→V
 |[v]=>v
 |vs=> .tup vs
def evC (c:Cfg):Nat→Nat→Nat→Code→Tr→MB→List MB→Nat→Option (Ex×Tr×MB×Nat)
 |0,_,_,_,_,_,_,_=>none
 |d+1,f,n,code,fr,M,F,nx=>
  let call:qru:=fun f vs M F nx=>
   match c.B c.D f vs M F nx with
   |some r=>some r
   |none=>
   match c.P.funcs[f]? with
   |some fn=>bif isFn c.P f&&Nat.ble vs.length fn.ntmps then
    (match fn.body with
    |some b=>(match evC c d f fn.ntmps b (initT vs) M F nx with
     |some (.ret,fr,M,nx) |some (.normal,fr,M,nx)=>(match z3w c.P fn.ntmps fr (M::F) fn.results.toList with |some vs=>some (yda vs,M,nx) |none=>none)
     |_=>none)
    |none=>none) else none
   |none=>none
  match code with
  | .skip=>some (.normal,fr,M,nx)
  | .ret=>some (.ret,fr,M,nx)
  | .exit id=>some (.exit id,fr,M,nx)
  | .seq a b=>(match evC c d f n a fr M F nx with
   |some (.normal,fr,M,nx)=>evC c d f n b fr M F nx
   |r=>r)
  | .cond x a b=>(match gv n fr x with
   |some v=>(match asB c v with
    |some t=>bif t then evC c d f n a fr M F nx else evC c d f n b fr M F nx
    |none=>none)
   |none=>none)
  | .block id a=>(match evC c d f n a fr M F nx with
   |some (.exit id',fr,M,nx)=>bif Nat.beq id' id then some (.normal,fr,M,nx) else some (.exit id',fr,M,nx)
   |r=>r)
  | .loop a=>(match c.L f (fid a) c.D fr M F nx with
   |some r=>some r
   |none=>(match evC c d f n a fr M F nx with
    |some (.normal,fr,M,nx)=>evC c d f n (.loop a) fr M F nx
    |r=>r))
  | .region id ops q=>
   let r:=match q with
    |true=>bif q15 ops.toList (c.E f id) then (match qk4 fr (c.S f id) [] M with |(Mr,M0)=>ql7 c call true (c.E f id) n ops.toList F ops.toList fr Mr M0 nx false) else none
    |false=>ql7 c call false [] n ops.toList F ops.toList fr M [] nx false
   (match r with |some (fr,M,nx)=>some (.normal,fr,M,nx) |none=>none)
  |_=>none
def evF (c:Cfg) (d:Nat) (f:Nat) (vs:List V) (M:MB) (F:List MB) (nx:Nat):Option (V×MB×Nat):=
 match c.P.funcs[f]? with
 |some fn=>bif isFn c.P f&&Nat.ble vs.length fn.ntmps then
  (match fn.body with
  |some b=>(match evC c d f fn.ntmps b (initT vs) M F nx with
   |some (.ret,fr,M,nx) |some (.normal,fr,M,nx)=>(match z3w c.P fn.ntmps fr (M::F) fn.results.toList with |some vs=>some (yda vs,M,nx) |none=>none)
   |_=>none)
  |none=>none) else none
 |none=>none
def Ext (σ σ':List (Nat×Nat×Nat)):Prop:=∃τ,σ'=σ++τ
theorem Ext.refl (σ:List (Nat×Nat×Nat)):Ext σ σ:=⟨[],by simp⟩
theorem Ext.trans {a b c:List (Nat×Nat×Nat)} (h:Ext a b) (h':Ext b c):Ext a c:=by
 obtain ⟨x,rfl⟩:=h;obtain ⟨y,rfl⟩:=h';exact ⟨x++y,by simp⟩
theorem Ext.snoc (σ:List (Nat×Nat×Nat)) (x:Nat×Nat×Nat):Ext σ (σ++[x]):=⟨[x],rfl⟩
theorem Ext.get {σ σ':List (Nat×Nat×Nat)} (h:Ext σ σ') {k:Nat} {x:Nat×Nat×Nat} (hk:σ[k]? =some x):σ'[k]? =some x:=by
 obtain ⟨τ,rfl⟩:=h
 rw [List.getElem?_append_left (List.getElem?_eq_some_iff.1 hk).1];exact hk
theorem Ext.back {σ σ':List (Nat×Nat×Nat)} (h:Ext σ σ') {k:Nat} (hk:k<σ.length):σ'[k]? =σ[k]? :=by
 obtain ⟨τ,rfl⟩:=h
 rw [List.getElem?_append_left hk]
section
variable {e:Vl} {σ σ':List (Nat×Nat×Nat)}
mutual
theorem RelC.mono (x:Ext σ σ'):∀{c:C} {v:Value},RelC e σ c v→RelC e σ' c v
 |_,_,.int=> .int
 |_,_,.bool=> .bool
 |_,_,.ptr h=> .ptr (x.get h)
 |_,_,.nilp=> .nilp
 |_,_,.nili=> .nili
 |_,_,.sl h=> .sl (x.get h)
 |_,_,.slo h=> .slo (x.get h)
 |_,_,.slt h=> .slt (x.get h)
 |_,_,.nils=> .nils
 |_,_,.str=> .str
 |_,_,.fn h=> .fn (RelCs.mono x h)
 |_,_,.opq h=> .opq h
 |_,_,.val h=> .val h
 |_,_,.sli h=> .sli (x.get h)
 |_,_,.pel h=> .pel (x.get h)
 |_,_,.sts=> .sts
theorem RelCs.mono (x:Ext σ σ'):∀{cs:List C} {vs:List Value},RelCs e σ cs vs→RelCs e σ' cs vs
 |_,_,.nil=> .nil
 |_,_,.cons h t=> .cons (RelC.mono x h) (RelCs.mono x t)
end
mutual
theorem RelV.mono (x:Ext σ σ'):∀{c:V} {v:Value},RelV e σ c v→RelV e σ' c v
 |_,_,.one h=> .one (h.mono x)
 |_,_,.agg h=> .agg (h.mono x)
 |_,_,.tup h=> .tup (RelVs.mono x h)
 |_,_,.any=> .any
theorem RelVs.mono (x:Ext σ σ'):∀{cs:List V} {vs:List Value},RelVs e σ cs vs→RelVs e σ' cs vs
 |_,_,.nil=> .nil
 |_,_,.cons h t=> .cons (RelV.mono x h) (RelVs.mono x t)
end
theorem z0b (n g b c:Nat):oneC (slV n g b c)=true:=rfl
theorem RelC.one {c:C} {v:Value} (h:RelC e σ c v):oneC v=true:=by cases h<;>first |rfl |assumption |exact z0b _ _ _ _
theorem RelCs.ones {cs:List C} {vs:List Value} (h:RelCs e σ cs vs):vs.all oneC=true:=by
 match h with
 | .nil=>rfl
 | .cons h t=>simp [h.one,RelCs.ones t]
theorem RelCs.len {cs:List C} {vs:List Value} (h:RelCs e σ cs vs):vs.length=cs.length:=by
 match h with
 | .nil=>rfl
 | .cons h t=>simp [RelCs.len t]
mutual
theorem RelC.det:∀{c:C} {v v':Value},RelC e σ c v→RelC e σ c v'→v=v'
 |_,_,_,.int,.int=>rfl
 |_,_,_,.bool,.bool=>rfl
 |_,_,_,.ptr h,.ptr h'=>by rw [h] at h';cases h';rfl
 |_,_,_,.nilp,.nilp=>rfl
 |_,_,_,.nili,.nili=>rfl
 |_,_,_,.sl h,.sl h'=>by rw [h] at h';cases h';rfl
 |_,_,_,.slo h,.slo h'=>by rw [h] at h';cases h';rfl
 |_,_,_,.slt h,.slt h'=>by rw [h] at h';cases h';rfl
 |_,_,_,.nils,.nils=>rfl
 |_,_,_,.str,.str=>rfl
 |_,_,_,.fn h,.fn h'=>by rw [RelCs.det h h']
 |_,_,_,.opq _,.opq _=>rfl
 |_,_,_,.val _,.val _=>rfl
 |_,_,_,.sli h,.sli h'=>by rw [h] at h';cases h';rfl
 |_,_,_,.pel h,.pel h'=>by rw [h] at h';cases h';rfl
 |_,_,_,.sts,.sts=>rfl
theorem RelCs.det:∀{cs:List C} {vs vs':List Value},RelCs e σ cs vs→RelCs e σ cs vs'→vs=vs'
 |_,_,_,.nil,.nil=>rfl
 |_,_,_,.cons h t,.cons h' t'=>by rw [RelC.det h h',RelCs.det t t']
end
mutual
theorem RelV.det:∀{c:V} {v v':Value},RelV e σ c v→RelV e σ c v'→v=v'
 |_,_,_,.one h,.one h'=>h.det h'
 |_,_,_,.agg h,.agg h'=>by rw [h.det h']
 |_,_,_,.tup h,.tup h'=>by rw [RelVs.det h h']
 |_,_,_,.any,.any=>rfl
theorem RelVs.det:∀{cs:List V} {vs vs':List Value},RelVs e σ cs vs→RelVs e σ cs vs'→vs=vs'
 |_,_,_,.nil,.nil=>rfl
 |_,_,_,.cons h t,.cons h' t'=>by rw [RelV.det h h',RelVs.det t t']
end
theorem z3x {k:Nat} (h:Nat.blt k σ.length=true):∃g b c,σ[k]? =some (g,b,c):=by
 have h:k<σ.length:=by simpa [Nat.blt_eq] using h
 exact ⟨σ[k].1,σ[k].2.1,σ[k].2.2,by rw [List.getElem?_eq_getElem h]⟩
mutual
theorem C.ex (he:(∀i,oneC (e.s i)=true)∧∀i,oneC (e.v i)=true):∀(c:C),c.lt σ.length=true→∃v,RelC e σ c v
 | .int _ _,_=>⟨_,.int⟩
 | .bool _,_=>⟨_,.bool⟩
 | .ptr k o,h=>by obtain ⟨g,b,c,hg⟩:=z3x (σ:=σ) (k:=k) (by simpa [C.lt] using h);exact ⟨_,.ptr hg⟩
 | .nilp,_=>⟨_,.nilp⟩
 | .nili,_=>⟨_,.nili⟩
 | .sl k _ _ _,h=>by obtain ⟨g,b,c,hg⟩:=z3x (σ:=σ) (k:=k) (by simpa [C.lt] using h);exact ⟨_,.sl hg⟩
 | .slo k _,h=>by obtain ⟨g,b,c,hg⟩:=z3x (σ:=σ) (k:=k) (by simpa [C.lt] using h);exact ⟨_,.slo hg⟩
 | .slt k _ _ _,h=>by obtain ⟨g,b,c,hg⟩:=z3x (σ:=σ) (k:=k) (by simpa [C.lt] using h);exact ⟨_,.slt hg⟩
 | .nils,_=>⟨_,.nils⟩
 | .str _,_=>⟨_,.str⟩
 | .fn _ cap,h=>by obtain ⟨v,hv⟩:=C.exL he cap (by simpa [C.lt] using h);exact ⟨_,.fn hv⟩
 | .opq i,_=>⟨_,.opq (he.1 i)⟩
 | .val i,_=>⟨_,.val (he.2 i)⟩
 | .sli k _,h=>by obtain ⟨g,b,c,hg⟩:=z3x (σ:=σ) (k:=k) (by simpa [C.lt] using h);exact ⟨_,.sli hg⟩
 | .pel k _ _ _,h=>by obtain ⟨g,b,c,hg⟩:=z3x (σ:=σ) (k:=k) (by simpa [C.lt] using h);exact ⟨_,.pel hg⟩
 | .sts _,_=>⟨_,.sts⟩
 | .big _ _,h=>by simp [C.lt] at h
 | .frm,h=>by simp [C.lt] at h
theorem C.exL (he:(∀i,oneC (e.s i)=true)∧∀i,oneC (e.v i)=true):∀(cs:List C),C.ltL σ.length cs=true→∃vs,RelCs e σ cs vs
 |[],_=>⟨_,.nil⟩
 |c::cs,h=>by
  simp only [C.ltL,Bool.and_eq_true] at h
  obtain ⟨v,hv⟩:=C.ex he c h.1
  obtain ⟨vs,hvs⟩:=C.exL he cs h.2
  exact ⟨_,.cons hv hvs⟩
end
mutual
theorem V.ex (he:(∀i,oneC (e.s i)=true)∧∀i,oneC (e.v i)=true):∀(c:V),c.lt σ.length=true→∃v,RelV e σ c v
 | .one c,h=>by obtain ⟨v,hv⟩:=C.ex he c (by simpa [V.lt] using h);exact ⟨_,.one hv⟩
 | .agg cs,h=>by obtain ⟨v,hv⟩:=C.exL he cs (by simpa [V.lt] using h);exact ⟨_,.agg hv⟩
 | .tup vs,h=>by obtain ⟨v,hv⟩:=V.exL he vs (by simpa [V.lt] using h);exact ⟨_,.tup hv⟩
 | .any i,_=>⟨_,.any⟩
theorem V.exL (he:(∀i,oneC (e.s i)=true)∧∀i,oneC (e.v i)=true):∀(cs:List V),V.ltL σ.length cs=true→∃vs,RelVs e σ cs vs
 |[],_=>⟨_,.nil⟩
 |c::cs,h=>by
  simp only [V.ltL,Bool.and_eq_true] at h
  obtain ⟨v,hv⟩:=V.ex he c h.1
  obtain ⟨vs,hvs⟩:=V.exL he cs h.2
  exact ⟨_,.cons hv hvs⟩
end
theorem zb2 {v:Value} {c:C} (h:cOf v=some c):RelC e σ c v:=by
 unfold cOf at h
 split at h<;>first |(cases h;constructor;done) |(cases h;exact .fn .nil) |cases h
theorem qlz:∀{vs:List Value} {cs:List C},z2p vs=some cs→RelCs e σ cs vs
 |[],_,h=>by cases h;exact .nil
 |v::vs,cs,h=>by
  simp only [z2p] at h
  split at h
  ·rename_i c hc
   split at h
   ·rename_i l hl;cases h;exact .cons (zb2 hc) (qlz hl)
   ·cases h
  ·cases h
theorem zd5 {v:Value} {x:V} (h:vOf v=some x):RelV e σ x v:=by
 unfold vOf at h
 split at h
 ·split at h
  ·rename_i l hl;cases h;exact .agg (qlz hl)
  ·cases h
 ·cases h;exact .tup .nil
 ·split at h
  ·rename_i c hc;cases h;exact .one (zb2 hc)
  ·cases h
theorem qow:∀(d:Nat) (f:Tr) (t t':Nat) (x y:V),1≤t→1≤t'→(Tr.put d f t x).get t'=some y→(t'=t∧y=x)∨(t'≠t∧f.get t'=some y)
 |0,f,t,t',x,y,_,_,h=>by simp [Tr.put,Tr.get] at h
 |d+1,f,t,t',x,y,h1,h1',h=>by
  unfold Tr.put at h
  by_cases e1:t=1
  ·subst e1
   simp only [Nat.beq,cond_true] at h
   by_cases e2:t'=1
   ·subst e2
    simp [Tr.get,Nat.beq] at h
    exact .inl ⟨rfl,h.symm⟩
   ·have b2:Nat.beq t' 1=false:=by rw [Bool.eq_false_iff];intro q;exact e2 (Nat.eq_of_beq_eq_true q)
    refine .inr ⟨e2,?_⟩
    cases f with
    |leaf=>simp [Tr.get,b2] at h
    |node v l r=>simpa [Tr.get,b2] using h
  ·have b1:Nat.beq t 1=false:=by rw [Bool.eq_false_iff];intro q;exact e1 (Nat.eq_of_beq_eq_true q)
   simp only [b1,cond_false] at h
   cases em:Nat.beq (Nat.mod t 2) 0 with
   |true=>
    have hm:t % 2=0:=Nat.eq_of_beq_eq_true em
    simp only [em,cond_true] at h
    by_cases e2:t'=1
    ·subst e2
     refine .inr ⟨fun q=>e1 q.symm,?_⟩
     cases f with
     |leaf=>simp [Tr.get] at h
     |node v l r=>simpa [Tr.get] using h
    ·have b2:Nat.beq t' 1=false:=by rw [Bool.eq_false_iff];intro q;exact e2 (Nat.eq_of_beq_eq_true q)
     cases em':Nat.beq (Nat.mod t' 2) 0 with
     |true=>
      have hm':t' % 2=0:=Nat.eq_of_beq_eq_true em'
      simp only [Tr.get,b2,em',cond_true,cond_false] at h
      rcases qow d _ (t.div 2) (t'.div 2) x y (show 1≤t / 2 by omega) (show 1≤t' / 2 by omega) h with ⟨ha,hb⟩ |⟨ha,hb⟩
      ·left;refine ⟨?_,hb⟩;have:t' / 2=t / 2:=ha;omega
      ·right;refine ⟨fun q=>ha (by rw [q]),?_⟩
       cases f with
       |leaf=>simp [Tr.get] at hb
       |node v l r=>simpa [Tr.get,b2,em'] using hb
     |false=>
      simp only [Tr.get,b2,em',cond_false] at h
      refine .inr ⟨fun q=>(by rw [q,em] at em';cases em'),?_⟩
      cases f with
      |leaf=>simp [Tr.get] at h
      |node v l r=>simpa [Tr.get,b2,em'] using h
   |false=>
    have hm:¬t % 2=0:=fun q=>by have:Nat.mod t 2=0:=q;rw [this] at em;cases em
    simp only [em,cond_false] at h
    by_cases e2:t'=1
    ·subst e2
     refine .inr ⟨fun q=>e1 q.symm,?_⟩
     cases f with
     |leaf=>simp [Tr.get] at h
     |node v l r=>simpa [Tr.get] using h
    ·have b2:Nat.beq t' 1=false:=by rw [Bool.eq_false_iff];intro q;exact e2 (Nat.eq_of_beq_eq_true q)
     cases em':Nat.beq (Nat.mod t' 2) 0 with
     |false=>
      have hm':¬t' % 2=0:=fun q=>by have:Nat.mod t' 2=0:=q;rw [this] at em';cases em'
      simp only [Tr.get,b2,em',cond_false] at h
      rcases qow d _ (t.div 2) (t'.div 2) x y (show 1≤t / 2 by omega) (show 1≤t' / 2 by omega) h with ⟨ha,hb⟩ |⟨ha,hb⟩
      ·left;refine ⟨?_,hb⟩;have:t' / 2=t / 2:=ha;omega
      ·right;refine ⟨fun q=>ha (by rw [q]),?_⟩
       cases f with
       |leaf=>simp [Tr.get] at hb
       |node v l r=>simpa [Tr.get,b2,em'] using hb
     |true=>
      simp only [Tr.get,b2,em',cond_true,cond_false] at h
      refine .inr ⟨fun q=>(by rw [q,em] at em';cases em'),?_⟩
      cases f with
      |leaf=>simp [Tr.get] at h
      |node v l r=>simpa [Tr.get,b2,em'] using h
def RF (e:Vl) (σ:List (Nat×Nat×Nat)) (fr:Tr) (l:List (Nat×Value)):Prop:=∀t x,fr.get (t+1)=some x→RelV e σ x (look l t)
theorem RF.mono {fr:Tr} {l:List (Nat×Value)} (x:Ext σ σ') (h:RF e σ fr l):RF e σ' fr l:=fun t y hy=>(h t y hy).mono x
theorem RF.put {fr:Tr} {l:List (Nat×Value)} (h:RF e σ fr l) {dst:Option Nat} {x:V} {v:Value} (hv:RelV e σ x v):RF e σ (zhd fr dst x) (putL dst v l):=by
 cases dst with
 |none=>exact h
 |some d=>
  intro t y hy
  rcases qow _ _ _ _ _ _ (by omega) (by omega) hy with ⟨h1,h2⟩ |⟨h1,h2⟩
  ·have:t=d:=by omega
   subst this;subst h2
   simpa [putL,look] using hv
  ·have hne:Nat.beq d t=false:=by rw [Bool.eq_false_iff];intro q;exact h1 (by rw [Nat.eq_of_beq_eq_true q])
   simpa [putL,look,hne] using h t y h2
theorem qu_ {fr:Tr} {l:List (Nat×Value)} (h:RF e σ fr l) {n:Nat} {x:Operand} {v:V} (hx:gv n fr x=some v):RelV e σ v (evL n l x):=by
 cases x with
 |tmp t=>
  simp only [gv] at hx
  cases hb:Nat.blt t n with
  |true=>simp only [hb,cond_true] at hx;simp only [evL,hb,cond_true];exact h t v hx
  |false=>simp [hb] at hx
 |const u=>exact zd5 hx
 |global g=>cases hx
 |func f=>cases hx;exact .one (.fn .nil)
theorem qvb:∀{xs:List V} {vs:List Value},RelVs e σ xs vs→∀(i:Nat) (fr:Tr) (l:List (Nat×Value)),(∀t,i≤t→fr.get (t+1)=none)→RF e σ fr l→RF e σ (initT.go (i+1) xs fr) (initL.go i vs++l)
 |_,_,.nil,i,fr,l,_,h=>by simpa [initT.go,initL.go] using h
 |_,_,.cons (x:=x) (v:=v) hx t,i,fr,l,h0,h=>by
  simp only [initT.go,initL.go]
  have key:=qvb t (i+1) (fr.put 12 (i+1) x) ((i,v)::l) (fun t ht=>by
   cases hg:(fr.put 12 (i+1) x).get (t+1) with
   |none=>rfl
   |some y=>
    rcases qow _ _ _ _ _ _ (by omega) (by omega) hg with ⟨h1,_⟩ |⟨_,h2⟩
    ·omega
    ·rw [h0 t (by omega)] at h2;cases h2) (RF.put (dst:=some i) h hx)
  intro t' y hy
  have:=key t' y hy
  have sw:∀(vs:List Value) (j:Nat),i<j→look (initL.go j vs++(i,v)::l) t'=look ((i,v)::(initL.go j vs++l)) t':=by
   intro vs
   induction vs with
   |nil=>intro j _;rfl
   |cons u r ih=>
    intro j hj
    simp only [initL.go,List.cons_append,look]
    cases hb:Nat.beq j t' with
    |true=>
     have:j=t':=Nat.eq_of_beq_eq_true hb
     have hne:Nat.beq i t'=false:=by rw [Bool.eq_false_iff];intro q;have:=Nat.eq_of_beq_eq_true q;omega
     simp [hne]
    |false=>
     simp only [cond_false]
     rw [ih (j+1) (by omega)]
     rfl
  rw [sw _ _ (by omega)] at this
  exact this
theorem q1_ {xs:List V} {vs:List Value} (h:RelVs e σ xs vs):RF e σ (initT xs) (initL vs):=by
 have:=qvb h 0 .leaf [] (fun _ _=>rfl) (fun t y hy=>by simp [Tr.get] at hy)
 simpa [initT,initL] using this
theorem zwu {α:Type} (n:Nat) (k:Nat→α):fN n k=k n:=by cases n<;>rfl
theorem fZ_eq {α:Type} (n:Int) (k:Int→α):fZ n k=k n:=by cases n<;>simp [fZ,zwu]
theorem fB_eq {α:Type} (n:Bool) (k:Bool→α):fB n k=k n:=by cases n<;>rfl
theorem yg8 {α:Type} (c:C) (k:C→α):fC c k=k c:=by cases c<;>simp [fC,zwu,fZ_eq,fB_eq]
theorem qp4 {α:Type}:∀(cs:List C) (k:List C→α),fCs cs k=k cs
 |[],_=>rfl
 |c::cs,k=>by simp [fCs,yg8,qp4 cs]
theorem qwx {α:Type} (v:V) (k:V→α):fV v k=k v:=by cases v<;>simp [fV,yg8,qp4]
inductive RM (P:Program) (e:Vl) (σ:List (Nat×Nat×Nat)):MB→List Blk→Prop where
 |nil:RM P e σ [] []
 |cons {k g c cs vs rest T o m L} (hk:σ[k]? =some (g,0,c)) (hc:RelCs e σ cs vs) (ho:o=false→rest=[]) (hr:o=true→c≤maxLen∧∃i,P.info? T=some i∧vs.length+rest.length=c * i.size) (t:RM P e σ m L):RM P e σ ((k,cs,T,o)::m) ((g,vs++rest,T)::L)
 |big {k g c x ks rest T o m L} (hk:σ[k]? =some (g,0,2 * c+1)) (hc:c≤maxLen) (hi:∃i,P.info? T=some i∧i.size=ks.length) (hn:(x.lst e).length≤c) (hr:(qbh ks (x.lst e)).length+rest.length=c * ks.length) (t:RM P e σ m L):RM P e σ ((k,[.big x ks],T,o)::m) ((g,qbh ks (x.lst e)++rest,T)::L)
 |big0 {k g b x ks T o m L} (hk:σ[k]? =some (g,b,0)) (he:x.lst e=[]) (t:RM P e σ m L):RM P e σ ((k,[.big x ks],T,o)::m) L
 |frm {k T o m L} (t:RM P e σ m L):RM P e σ ((k,[.frm],T,o)::m) (e.fr++L)
variable {P:Program}
theorem RM.mono (x:Ext σ σ'):∀{m:MB} {L:List Blk},RM P e σ m L→RM P e σ' m L
 |_,_,.nil=> .nil
 |_,_,.cons hk hc ho hr t=> .cons (x.get hk) (hc.mono x) ho hr (RM.mono x t)
 |_,_,.big hk hc hi hn hr t=> .big (x.get hk) hc hi hn hr (RM.mono x t)
 |_,_,.big0 hk he t=> .big0 (x.get hk) he (RM.mono x t)
 |_,_,.frm t=> .frm (RM.mono x t)
theorem RM.app {m m':MB} {L L':List Blk} (h:RM P e σ m L) (h':RM P e σ m' L'):RM P e σ (m++m') (L++L'):=by
 match h with
 | .nil=>exact h'
 | .cons hk hc ho hr t=>exact .cons hk hc ho hr (RM.app t h')
 | .big hk hc hi hn hr t=>exact .big hk hc hi hn hr (RM.app t h')
 | .big0 hk he t=>exact .big0 hk he (RM.app t h')
 | .frm t=>rw [List.append_assoc];exact .frm (RM.app t h')
theorem RM.app2 {m m':MB} {L L':List Blk} (h:RM P e σ m L) (h':RM P e σ m' L'):RM P e σ (app2 m m') (L++L'):=by
 cases hm:m' with
 |nil=>
  subst hm
  have h2:RM P e σ (m++[]) (L++L'):=h.app h'
  rw [List.append_nil] at h2;exact h2
 |cons b r=>subst hm;exact h.app h'
theorem RelCs.notBig {cs:List C} {vs:List Value} (h:RelCs e σ cs vs):qjx cs=false:=by
 cases h with
 |nil=>rfl
 |cons h t=>cases h<;>rfl
theorem HasB.left {L:List Blk} {g:Nat} {cs:List Value} {T:TypeId} (h:HasB L g cs T):∀(X:List Blk),HasB (X++L) g cs T
 |[]=>h
 |b::X=> .next (HasB.left h X)
theorem RM.look2 {m:MB} {L:List Blk} (h:RM P e σ m L) {k:Nat} {cs:List C} {T:TypeId} {o:Bool} (hk:lkB m k=some (cs,T,o)):
  ∃g c vs rest,σ[k]? =some (g,0,c)∧RelCs e σ cs vs∧(o=false→rest=[])∧(o=true→c≤maxLen∧∃i,P.info? T=some i∧vs.length+rest.length=c * i.size)∧(g,vs++rest,T)∈L∧
   ∀b M',qjc m k=some (b,M')→∃L',RM P e σ M' L'∧L.Perm ((g,vs++rest,T)::L'):=by
 match h with
 | .nil=>cases hk
 | .cons (k:=k') (o:=o') hk' hc ho hr t=>
  simp only [lkB,hc.notBig,cond_false] at hk
  simp only [qjc]
  cases hb:Nat.beq k' k with
  |true=>
   simp only [hb,cond_true,Option.some.injEq,Prod.mk.injEq] at hk ⊢
   obtain ⟨rfl,rfl,rfl⟩:=hk
   rw [←Nat.eq_of_beq_eq_true hb]
   refine ⟨_,_,_,_,hk',hc,ho,hr,.head _,?_⟩
   rintro b M' ⟨_,rfl⟩
   exact ⟨_,t,List.Perm.refl _⟩
  |false=>
   simp only [hb,cond_false] at hk ⊢
   obtain ⟨g,c,vs,rest,a1,a2,a3,a4,a5,a6⟩:=RM.look2 t hk
   refine ⟨g,c,vs,rest,a1,a2,a3,a4,.tail _ a5,?_⟩
   intro b M' hout
   split at hout
   ·rename_i b' r' hr'
    cases hout
    obtain ⟨L',b1,b2⟩:=a6 _ _ hr'
    exact ⟨_,.cons hk' hc ho hr b1,(b2.cons _).trans (List.Perm.swap _ _ _)⟩
   ·cases hout
 | .big (k:=k') hk' hc hi hn hr t=>
  simp only [lkB,qjx,cond_true] at hk
  simp only [qjc]
  cases hb:Nat.beq k' k with
  |true=>simp only [hb,cond_true] at hk;cases hk
  |false=>
   simp only [hb,cond_false] at hk ⊢
   obtain ⟨g,c,vs,rest,a1,a2,a3,a4,a5,a6⟩:=RM.look2 t hk
   refine ⟨g,c,vs,rest,a1,a2,a3,a4,.tail _ a5,?_⟩
   intro b M' hout
   split at hout
   ·rename_i b' r' hr'
    cases hout
    obtain ⟨L',b1,b2⟩:=a6 _ _ hr'
    exact ⟨_,.big hk' hc hi hn hr b1,(b2.cons _).trans (List.Perm.swap _ _ _)⟩
   ·cases hout
 | .big0 (k:=k') hk' he t=>
  simp only [lkB,qjx,cond_true] at hk
  simp only [qjc]
  cases hb:Nat.beq k' k with
  |true=>simp only [hb,cond_true] at hk;cases hk
  |false=>
   simp only [hb,cond_false] at hk ⊢
   obtain ⟨g,c,vs,rest,a1,a2,a3,a4,a5,a6⟩:=RM.look2 t hk
   refine ⟨g,c,vs,rest,a1,a2,a3,a4,a5,?_⟩
   intro b M' hout
   split at hout
   ·rename_i b' r' hr'
    cases hout
    obtain ⟨L',b1,b2⟩:=a6 _ _ hr'
    exact ⟨_,.big0 hk' he b1,b2⟩
   ·cases hout
 | .frm (k:=k') (L:=L0) t=>
  simp only [lkB,qjx,cond_true] at hk
  simp only [qjc]
  cases hb:Nat.beq k' k with
  |true=>simp only [hb,cond_true] at hk;cases hk
  |false=>
   simp only [hb,cond_false] at hk ⊢
   obtain ⟨g,c,vs,rest,a1,a2,a3,a4,a5,a6⟩:=RM.look2 t hk
   refine ⟨g,c,vs,rest,a1,a2,a3,a4,List.mem_append_right _ a5,?_⟩
   intro b M' hout
   split at hout
   ·rename_i b' r' hr'
    cases hout
    obtain ⟨L',b1,b2⟩:=a6 _ _ hr'
    exact ⟨_,.frm b1,(List.Perm.append_left e.fr b2).trans (List.perm_middle)⟩
   ·cases hout
theorem RM.look {m:MB} {L:List Blk} (h:RM P e σ m L) {k:Nat} {cs:List C} {T:TypeId} {o:Bool} (hk:lkB m k=some (cs,T,o)):
  ∃g c vs rest,σ[k]? =some (g,0,c)∧RelCs e σ cs vs∧(g,vs++rest,T)∈L:=by
 obtain ⟨g,c,vs,rest,a1,a2,_,_,a5,_⟩:=h.look2 hk
 exact ⟨g,c,vs,rest,a1,a2,a5⟩
theorem RM.lookL {m:MB} {L:List Blk} (h:RM P e σ m L) {k:Nat} {x:SE} {ks:Ks} {T:TypeId} (hk:lkL m k=some (x,ks,T)):
  (∃g b,σ[k]? =some (g,b,0)∧x.lst e=[]∧∀b M',qjc m k=some (b,M')→RM P e σ M' L)∨
  (∃g c rest,σ[k]? =some (g,0,2 * c+1)∧c≤maxLen∧(∃i,P.info? T=some i∧i.size=ks.length)∧(x.lst e).length≤c∧(qbh ks (x.lst e)).length+rest.length=c * ks.length∧(g,qbh ks (x.lst e)++rest,T)∈L∧
   ∀b M',qjc m k=some (b,M')→∃L',RM P e σ M' L'∧L.Perm ((g,qbh ks (x.lst e)++rest,T)::L')):=by
 match h with
 | .nil=>cases hk
 | .cons (k:=k') (o:=o') (cs:=cs') hk' hc ho hr t=>
  have hne:∀z zs,(match cs' with |[.big x ks]=>some (x,ks,(z:TypeId)) |_=>none)≠some zs:=fun z zs q=>by
   have:=hc.notBig
   split at q
   ·cases this
   ·cases q
  simp only [lkL] at hk
  simp only [qjc]
  cases hb:Nat.beq k' k with
  |true=>simp only [hb,cond_true] at hk;exact absurd hk (hne _ _)
  |false=>
   simp only [hb,cond_false] at hk ⊢
   rcases RM.lookL t hk with ⟨g,b,a1,a2,a3⟩ |⟨g,c,rest,a1,a2,a3,a4,a5,a6,a7⟩
   ·refine .inl ⟨g,b,a1,a2,fun b M' hout=> ?_⟩
    split at hout
    ·rename_i b' r' hr';cases hout;exact .cons hk' hc ho hr (a3 _ _ hr')
    ·cases hout
   ·refine .inr ⟨g,c,rest,a1,a2,a3,a4,a5,.tail _ a6,fun b M' hout=> ?_⟩
    split at hout
    ·rename_i b' r' hr';cases hout
     obtain ⟨L',b1,b2⟩:=a7 _ _ hr'
     exact ⟨_,.cons hk' hc ho hr b1,(b2.cons _).trans (List.Perm.swap _ _ _)⟩
    ·cases hout
 | .big (k:=k') hk' hc hi hn hr t=>
  simp only [lkL] at hk
  simp only [qjc]
  cases hb:Nat.beq k' k with
  |true=>
   simp only [hb,cond_true,Option.some.injEq,Prod.mk.injEq] at hk ⊢
   obtain ⟨rfl,rfl,rfl⟩:=hk
   rw [←Nat.eq_of_beq_eq_true hb]
   refine .inr ⟨_,_,_,hk',hc,hi,hn,hr,.head _,?_⟩
   rintro b M' ⟨_,rfl⟩
   exact ⟨_,t,List.Perm.refl _⟩
  |false=>
   simp only [hb,cond_false] at hk ⊢
   rcases RM.lookL t hk with ⟨g,b,a1,a2,a3⟩ |⟨g,c,rest,a1,a2,a3,a4,a5,a6,a7⟩
   ·refine .inl ⟨g,b,a1,a2,fun b M' hout=> ?_⟩
    split at hout
    ·rename_i b' r' hr';cases hout;exact .big hk' hc hi hn hr (a3 _ _ hr')
    ·cases hout
   ·refine .inr ⟨g,c,rest,a1,a2,a3,a4,a5,.tail _ a6,fun b M' hout=> ?_⟩
    split at hout
    ·rename_i b' r' hr';cases hout
     obtain ⟨L',b1,b2⟩:=a7 _ _ hr'
     exact ⟨_,.big hk' hc hi hn hr b1,(b2.cons _).trans (List.Perm.swap _ _ _)⟩
    ·cases hout
 | .big0 (k:=k') hk' he t=>
  simp only [lkL] at hk
  simp only [qjc]
  cases hb:Nat.beq k' k with
  |true=>
   simp only [hb,cond_true,Option.some.injEq,Prod.mk.injEq] at hk ⊢
   obtain ⟨rfl,rfl,rfl⟩:=hk
   rw [←Nat.eq_of_beq_eq_true hb]
   refine .inl ⟨_,_,hk',he,?_⟩
   rintro b M' ⟨_,rfl⟩
   exact t
  |false=>
   simp only [hb,cond_false] at hk ⊢
   rcases RM.lookL t hk with ⟨g,b,a1,a2,a3⟩ |⟨g,c,rest,a1,a2,a3,a4,a5,a6,a7⟩
   ·refine .inl ⟨g,b,a1,a2,fun b M' hout=> ?_⟩
    split at hout
    ·rename_i b' r' hr';cases hout;exact .big0 hk' he (a3 _ _ hr')
    ·cases hout
   ·refine .inr ⟨g,c,rest,a1,a2,a3,a4,a5,a6,fun b M' hout=> ?_⟩
    split at hout
    ·rename_i b' r' hr';cases hout
     obtain ⟨L',b1,b2⟩:=a7 _ _ hr'
     exact ⟨_,.big0 hk' he b1,b2⟩
    ·cases hout
 | .frm (k:=k') t=>
  simp only [lkL] at hk
  simp only [qjc]
  cases hb:Nat.beq k' k with
  |true=>simp only [hb,cond_true] at hk;cases hk
  |false=>
   simp only [hb,cond_false] at hk ⊢
   rcases RM.lookL t hk with ⟨g,b,a1,a2,a3⟩ |⟨g,c,rest,a1,a2,a3,a4,a5,a6,a7⟩
   ·refine .inl ⟨g,b,a1,a2,fun b M' hout=> ?_⟩
    split at hout
    ·rename_i b' r' hr';cases hout;exact .frm (a3 _ _ hr')
    ·cases hout
   ·refine .inr ⟨g,c,rest,a1,a2,a3,a4,a5,List.mem_append_right _ a6,fun b M' hout=> ?_⟩
    split at hout
    ·rename_i b' r' hr';cases hout
     obtain ⟨L',b1,b2⟩:=a7 _ _ hr'
     exact ⟨_,.frm b1,(List.Perm.append_left e.fr b2).trans (List.perm_middle)⟩
    ·cases hout
def Opn (P:Program) (T:TypeId) (o:Bool) (n c:Nat):Prop:=o=true→∃i,P.info? T=some i∧n≤c * i.size
structure FS (P:Program) (e:Vl) (σ:List (Nat×Nat×Nat)) (m:List MB):Prop where
 n:∀k cs T o,lkM m k=some (cs,T,o)→∃g b c vs,σ[k]? =some (g,b,c)∧RelCs e σ cs vs∧Opn P T o vs.length c
 l:∀k x ks T,qtf m k=some (x,ks,T)→∃g b c,σ[k]? =some (g,b,c)∧(x.lst e).length≤maxLen∧(c=0→x.lst e=[])
structure FR (P:Program) (e:Vl) (σ:List (Nat×Nat×Nat)) (m:List MB) (w:World):Prop where
 n:∀k cs T o,lkM m k=some (cs,T,o)→∃g b c vs,σ[k]? =some (g,b,c)∧RelCs e σ cs vs∧g<w.heap.size∧(∀(j:Nat) (v:Value),vs[j]? =some v→w.cell? ⟨g,b+j,none⟩=some v)∧Opn P T o vs.length c
 l:∀k x ks T,qtf m k=some (x,ks,T)→∃g b c,σ[k]? =some (g,b,c)∧(x.lst e).length≤maxLen∧(c=0→x.lst e=[])∧∀(j:Nat) (v:Value),(qbh ks (x.lst e))[j]? =some v→g<w.heap.size∧w.cell? ⟨g,b+j,none⟩=some v
theorem FR.fs {m:List MB} {w:World} (h:FR P e σ m w):FS P e σ m:=⟨fun k cs T o hk=>by
 obtain ⟨g,b,c,vs,h1,h2,_,_,h5⟩:=h.n k cs T o hk
 exact ⟨g,b,c,vs,h1,h2,h5⟩,fun k x ks T hk=>by
 obtain ⟨g,b,c,h1,h2,h3,_⟩:=h.l k x ks T hk
 exact ⟨g,b,c,h1,h2,h3⟩⟩
theorem FR.mono {m:List MB} {w:World} (x:Ext σ σ') (h:FR P e σ m w):FR P e σ' m w:=⟨fun k cs T o hk=>by
 obtain ⟨g,b,c,vs,h1,h2,h3,h4,h5⟩:=h.n k cs T o hk
 exact ⟨g,b,c,vs,x.get h1,h2.mono x,h3,h4,h5⟩,fun k y ks T hk=>by
 obtain ⟨g,b,c,h1,h2⟩:=h.l k y ks T hk
 exact ⟨g,b,c,x.get h1,h2⟩⟩
theorem FR.later {m:List MB} {w w':World} {n:Nat} (hb:Below n w w') (hn:w.heap.size≤n) (h:FR P e σ m w):FR P e σ m w':=⟨fun k cs T o hk=>by
 obtain ⟨g,b,c,vs,h1,h2,h3,h4,h5⟩:=h.n k cs T o hk
 refine ⟨g,b,c,vs,h1,h2,?_,fun j v hj=> ?_,h5⟩
 ·have:=hb.size;omega
 ·rw [hb.cell (p:=⟨g,b+j,none⟩) (by show g<n;omega)];exact h4 j v hj,fun k y ks T hk=>by
 obtain ⟨g,b,c,h1,h2,h3,h4⟩:=h.l k y ks T hk
 refine ⟨g,b,c,h1,h2,h3,fun j v hj=> ?_⟩
 obtain ⟨h5,h6⟩:=h4 j v hj
 refine ⟨by have:=hb.size;omega,?_⟩
 rw [hb.cell (p:=⟨g,b+j,none⟩) (by show g<n;omega)];exact h6⟩
theorem FR.nil {w:World}:FR P e σ [] w:=⟨fun k cs T o hk=>(by cases hk),fun k cs T o hk=>(by cases hk)⟩
theorem FS.nil:FS P e σ []:=⟨fun k cs T o hk=>(by cases hk),fun k cs T o hk=>(by cases hk)⟩
theorem qy0 {m:MB} {F:List MB} {k:Nat} {x:List C×TypeId×Bool} (h:lkM (m::F) k=some x):lkB m k=some x∨lkM F k=some x:=by
 simp only [lkM] at h
 cases hl:lkB m k with
 |some y=>rw [hl] at h;exact .inl h
 |none=>rw [hl] at h;exact .inr h
theorem qug {m:MB} {F:List MB} {k:Nat} {x:SE×Ks×TypeId} (h:qtf (m::F) k=some x):lkL m k=some x∨qtf F k=some x:=by
 simp only [qtf] at h
 cases hl:lkL m k with
 |some y=>rw [hl] at h;exact .inl h
 |none=>rw [hl] at h;exact .inr h
theorem FS.cons {m:MB} {F:List MB} {L:List Blk} (h:RM P e σ m L) (hF:FS P e σ F):FS P e σ (m::F):=⟨fun k cs T o hk=>by
 rcases qy0 hk with h1 |h1
 ·obtain ⟨g,c,vs,rest,a1,a2,_,a4,_⟩:=h.look2 h1
  exact ⟨g,0,c,vs,a1,a2,fun ho=>by obtain ⟨_,i,b1,b2⟩:=a4 ho;exact ⟨i,b1,by omega⟩⟩
 ·exact hF.n k cs T o h1,fun k x ks T hk=>by
 rcases qug hk with h1 |h1
 ·rcases h.lookL h1 with ⟨g,b,a1,a2,_⟩ |⟨g,c,rest,a1,a2,a3,a4,a5,_⟩
  ·exact ⟨g,b,_,a1,by rw [a2];exact Nat.zero_le _,fun _=>a2⟩
  ·exact ⟨g,0,_,a1,by omega,fun q=>by omega⟩
 ·exact hF.l k x ks T h1⟩
theorem FR.cons {m:MB} {F:List MB} {L L':List Blk} {w0 w:World} (h:RM P e σ m L) (hw:Own w0 L' w) (hs:∀b∈L,b∈L') (hF:FR P e σ F w):FR P e σ (m::F) w:=⟨fun k cs T o hk=>by
 rcases qy0 hk with h1 |h1
 ·obtain ⟨g,c,vs,rest,a1,a2,_,a4,a3,_⟩:=h.look2 h1
  have hm:=hs _ a3
  have hheld:w.heap[g]? =some (.cells (vs++rest).toArray T (0,0)):=hw.held _ hm
  refine ⟨g,0,c,vs,a1,a2,(Array.getElem?_eq_some_iff.1 hheld).1,fun j v hj=> ?_,fun ho=>by obtain ⟨_,i,b1,b2⟩:=a4 ho;exact ⟨i,b1,by omega⟩⟩
  rw [cell_of_row w g (0+j) (vs++rest).toArray T (0,0) hheld]
  simp only [Nat.zero_add,List.getElem?_toArray]
  rw [List.getElem?_append_left (List.getElem?_eq_some_iff.1 hj).1];exact hj
 ·exact hF.n k cs T o h1,fun k x ks T hk=>by
 rcases qug hk with h1 |h1
 ·rcases h.lookL h1 with ⟨g,b,a1,a2,_⟩ |⟨g,c,rest,a1,a2,a3,a4,a5,a6,_⟩
  ·exact ⟨g,b,_,a1,by rw [a2];exact Nat.zero_le _,fun _=>a2,fun j v hj=>by rw [a2] at hj;simp [qbh] at hj⟩
  ·have hm:=hs _ a6
   have hheld:w.heap[g]? =some (.cells (qbh ks (x.lst e)++rest).toArray T (0,0)):=hw.held _ hm
   refine ⟨g,0,_,a1,by omega,fun q=>by omega,fun j v hj=>⟨(Array.getElem?_eq_some_iff.1 hheld).1,?_⟩⟩
   rw [cell_of_row w g (0+j) (qbh ks (x.lst e)++rest).toArray T (0,0) hheld]
   simp only [Nat.zero_add,List.getElem?_toArray]
   rw [List.getElem?_append_left (List.getElem?_eq_some_iff.1 hj).1];exact hj
 ·exact hF.l k x ks T h1⟩
end
end Go.Proofs.YtilkebpcjklmfaaGreat.Own
