/- Loops that hold two lists against one another: where both lists are one, no difference is found. Loops that look for what may not be: the end says whether there is such a one. When a world may be: the answers that the trees of both May rest on. A world made: tables that grew, trees of truths. A world turned: the first rail, the first tether, the body's place. A world turned: the bodies' rows. A world turned: a body that is not as it was. A world turned: a body that may not be. A world turned: a body that is all fuel. A world turned: such a body may not be. A world made: a body, as the program says. A world made: whether a body may be, as one truth. A world made: whether a body may be, by the document, is the same truth. -/
import Derived.Test.YtilkebpcjklmfaaGreatGpA
set_option linter.unusedVariables false
set_option linter.unusedSimpArgs false
set_option linter.unusedSectionVars false
namespace Go.Proofs.YtilkebpcjklmfaaGreat.Own
open Go Go.RowKit Go.Proofs
set_option maxRecDepth 100000
set_option maxHeartbeats 40000000
def q4v (la lb:Nat):SE→SE
 | .lvar i=>bif Nat.beq i lb then .lvar la else .lvar i
 | .el k x i j=> .el k (q4v la lb x) i j
 | .cmp o a b=> .cmp o (q4v la lb a) (q4v la lb b)
 | .and a b=> .and (q4v la lb a) (q4v la lb b)
 | .not a=> .not (q4v la lb a)
 |x=>x
theorem znz {E:Env} {la lb:Nat} (h:E.iv la=E.iv lb):∀x:SE,(q4v la lb x).val E=x.val E:=by
 intro x
 induction x with
 |lvar i=>
  simp only [q4v]
  cases hb:Nat.beq i lb with
  |true=>rw [cond_true,Nat.eq_of_beq_eq_true hb];simp only [SE.val,h]
  |false=>rw [cond_false]
 |el k x i j ih _=>simp only [q4v,SE.val,ih]
 |cmp o a b iha ihb=>simp only [q4v,SE.val,iha,ihb]
 |and a b iha ihb=>simp only [q4v,SE.val,iha,ihb]
 |not a ih=>simp only [q4v,SE.val,ih]
 |_=>rfl
def rfB:SE→Option Bool
 | .and a b=>(match rfB a,rfB b with |some true,some true=>some true |_,_=>none)
 | .cmp .eql a b=>bif decide (a=b) then some true else none
 | .cmp .neq a b=>bif decide (a=b) then some false else none
 | .not a=>(match rfB a with |some b=>some (!b) |none=>none)
 |_=>none
theorem q22 {E:Env}:∀{x:SE} {v:Bool},rfB x=some v→(x.val E !=0)=v:=by
 intro x
 induction x with
 |and a b iha ihb=>
  intro v h
  simp only [rfB] at h
  split at h
  ·rename_i h1 h2
   cases h
   simp only [SE.val,qas,iha h1,ihb h2];rfl
  ·cases h
 |cmp o a b _ _=>
  intro v h
  cases o with
  |eql=>
   simp only [rfB] at h
   cases hb:decide (a=b) with
   |true=>
    rw [hb,cond_true] at h;cases h
    have:=of_decide_eq_true hb;subst this
    simp only [SE.val,qas,qa8];simp
   |false=>rw [hb,cond_false] at h;cases h
  |neq=>
   simp only [rfB] at h
   cases hb:decide (a=b) with
   |true=>
    rw [hb,cond_true] at h;cases h
    have:=of_decide_eq_true hb;subst this
    simp only [SE.val,qas,qa8];simp
   |false=>rw [hb,cond_false] at h;cases h
  |_=>simp [rfB] at h
 |not a ih=>
  intro v h
  simp only [rfB] at h
  split at h
  ·rename_i b hb
   cases h
   simp only [SE.val,qas,ih hb]
  ·cases h
 |_=>intro v h;simp [rfB] at h
def zha (la lb:Nat):RT→Bool
 | .out e _=>Nat.beq e 1
 | .next _=>true
 | .ask x t e=>(match rfB (q4v la lb x) with
  |some true=>zha la lb t
  |some false=>zha la lb e
  |none=>zha la lb t&&zha la lb e)
 | .know _ _ t=>zha la lb t
theorem qmt {E:Env} {la lb:Nat} (h:E.iv la=E.iv lb):∀{t:RT} {e:Nat} {zs:List Int},zha la lb t=true→t.get E=(some e,zs)→e=1
 | .out e' _,e,zs,hn,hg=>by
  simp only [RT.get] at hg
  cases hg
  exact Nat.eq_of_beq_eq_true hn
 | .next _,e,zs,hn,hg=>by simp only [RT.get] at hg;cases hg
 | .know _ _ t,e,zs,hn,hg=>by
  simp only [zha] at hn
  simp only [RT.get] at hg
  exact qmt h hn hg
 | .ask x t e',e,zs,hn,hg=>by
  simp only [zha] at hn
  simp only [RT.get] at hg
  have hr:=znz (la:=la) (lb:=lb) h x
  split at hn
  ·rename_i hq
   have:=q22 (E:=E) hq
   rw [hr] at this
   rw [this,cond_true] at hg
   exact qmt h hn hg
  ·rename_i hq
   have:=q22 (E:=E) hq
   rw [hr] at this
   rw [this,cond_false] at hg
   exact qmt h hn hg
  ·simp only [Bool.and_eq_true] at hn
   cases hb:(x.val E !=0) with
   |true=>rw [hb,cond_true] at hg;exact qmt h hn.1 hg
   |false=>rw [hb,cond_false] at hg;exact qmt h hn.2 hg
theorem zpf {T:RT} {C:List (Nat×Nat×Option (Option IntKind))} {outs:List Out} {la lb:Nat} {F:Nat→List Int→List Int} (hn:zha la lb T=true) (hcB:T.cB C outs=true) (hca:(la,la,none)∈C) (hcb:(lb,lb,none)∈C):
  ∀(k j:Nat) (xs:List Int),xs.getD la 0=xs.getD lb 0→qdn (fun _=>T) F j k xs→∃ys,qkx (fun _=>T) F j k xs=some (1,ys)
 |0,_,_,_,h=>by cases h
 |k+1,j,xs,hx,h=>by
  have hE:(qaa F xs).iv la=(qaa F xs).iv lb:=hx
  unfold qkx
  cases hg:T.get (qaa F xs) with
  |mk a ys=>
   cases a with
   |none=>
    have hB:=(qi8 (hc:=C) (outs:=outs) (F:=F) (xs:=xs) (t:=T) hcB).1 ys hg
    have g1:ys.getD la 0=xs.getD la 0:=hB (la,la,none) hca
    have g2:ys.getD lb 0=xs.getD lb 0:=hB (lb,lb,none) hcb
    exact zpf hn hcB hca hcb k (j+1) ys (by rw [g1,g2];exact hx) (h.2 ys hg)
   |some e=>
    have:=qmt hE hn hg
    subst this
    exact ⟨ys,rfl⟩
theorem qpf {T:RT} {I:List SE} {C:List (Nat×Nat×Option (Option IntKind))} {outs:List Out} {U:List Int→Nat} {la lb:Nat} {F:Nat→List Int→List Int} {xs:List Int} (hn:zha la lb T=true) (hcB:T.cB C outs=true) (hca:(la,la,none)∈C) (hcb:(lb,lb,none)∈C)
  (ha:(match I[la]? with |some x=>decide (x= .lvar la) |none=>false)=true) (hb:(match I[lb]? with |some x=>decide (x= .lvar lb) |none=>false)=true) (hr:qdn (fun _=>T) F 0 (U xs) (I.map (SE.val (qaa F xs)))) (hx:xs.getD la 0=xs.getD lb 0):(qfv I (fun _=>T) U F xs).getD 0 0=1:=by
 obtain ⟨ys,h⟩:=zpf hn hcB hca hcb (U xs) 0 (I.map (SE.val (qaa F xs))) (by rw [qbq (j0:=la) ha,qbq (j0:=lb) hb];exact hx) hr
 unfold qfv
 rw [h];rfl
theorem zew {T:RT} {F:Nat→List Int→List Int} {J:Nat→List Int→Prop} {bad:Nat→Bool} {n eb eg:Nat}
  (hs:∀i ys,i≤n→J i ys→(∀zs,T.get (qaa F ys)=(none,zs)→i<n∧bad i=false∧J (i+1) zs)∧(∀e zs,T.get (qaa F ys)=(some e,zs)→(i<n∧bad i=true∧e=eb)∨(i=n∧e=eg)))
  {I:List SE} {U:List Int→Nat} {xs:List Int} (hU:U xs=n+1) (h0:J 0 (I.map (SE.val (qaa F xs)))):
  (qfv I (fun _=>T) U F xs).getD 0 0=(((if (List.range n).any bad then eb else eg):Nat):Int):=by
 obtain ⟨e,ys,h1,h2⟩:=qfm (F:=F) (T:=T) (fun i ys=>J i ys∧∀j,j<i→bad j=false) n (fun e ys=>e=if (List.range n).any bad then eb else eg)
  (fun i ys zs hi hj hy=>by
   obtain ⟨a,b,c⟩:=(hs i ys hi hj.1).1 zs hy
   exact ⟨a,c,fun j hj2=>by
    rcases Nat.lt_or_ge j i with q |q
    ·exact hj.2 j q
    ·rw [show j=i by omega];exact b⟩)
  (fun i ys e zs hi hj hy=>by
   rcases (hs i ys hi hj.1).2 e zs hy with ⟨a,b,c⟩ |⟨a,c⟩
   ·have:(List.range n).any bad=true:=List.any_eq_true.2 ⟨i,List.mem_range.2 a,b⟩
    rw [this,if_pos rfl];exact c
   ·have:(List.range n).any bad=false:=by
     rw [List.any_eq_false]
     intro j hj2
     rw [hj.2 j (by rw [a];exact List.mem_range.1 hj2)];decide
    rw [this,if_neg (by decide)];exact c) (n+1) 0 0 _ (by omega) (by omega) ⟨h0,fun j hj=>absurd hj (Nat.not_lt_zero j)⟩
 unfold qfv
 rw [hU,h1,h2];rfl
def zki (C:List (List (SE×Bool))) (q:SE) (v:Bool):RT→List (SE×Bool)→Bool
 | .out _ zs,ds=>match zs with
  |[z]=>decide (z=noS)||(qyf (q,v) ds||((v&&decide (z=q))||C.any fun c=>c.all fun p=>qyf p ds))
  |_=>false
 | .next _,_=>false
 | .ask x t e,ds=>zki C q v t ((x,true)::ds)&&zki C q v e ((x,false)::ds)
 | .know x b t,ds=>zki C q v t ds
theorem qn6 {C:List (List (SE×Bool))} {q:SE} {v:Bool} {E:Env} (hC:∀c∈C,¬∀p∈c,Hol E p):∀{t:RT} {ds:List (SE×Bool)},zki C q v t ds=true→(∀p∈ds,Hol E p)→(t.get E).2.getD 0 0≠0→(q.val E !=0)=v
 | .out _ ws,ds,h,hd,hz=>by
  simp only [RT.get] at hz
  unfold zki at h
  split at h
  ·rename_i z
   simp only [Bool.or_eq_true,Bool.and_eq_true,decide_eq_true_eq] at h
   rcases h with h |h |⟨h1,h⟩ |h
   ·subst h;exact absurd (by simp only [List.map,noS,SE.val];rfl) hz
   ·exact hd _ (qiq h)
   ·subst h
    rw [h1]
    have:z.val E≠0:=hz
    simpa using this
   ·obtain ⟨c,hc,h2⟩:=List.any_eq_true.1 h
    exact absurd (fun p hp=>hd p (qiq (List.all_eq_true.1 h2 p hp))) (hC c hc)
  ·cases h
 | .next _,_,h,_,_=>by cases h
 | .ask x t e',ds,h,hd,hz=>by
  simp only [zki,Bool.and_eq_true] at h
  simp only [RT.get] at hz
  cases hb:(x.val E !=0) with
  |true=>rw [hb,cond_true] at hz;exact qn6 hC h.1 (qxv hb hd) hz
  |false=>rw [hb,cond_false] at hz;exact qn6 hC h.2 (qxv hb hd) hz
 | .know x b t,ds,h,hd,hz=>by
  simp only [zki] at h
  simp only [RT.get] at hz
  exact qn6 hC h hd hz
def mpC:List (List (SE×Bool)):=[[((.cmp .eql (.app 20061 0 (some .i64) (.cons (.lvar 13) (.cons (.lvar 13) .nil))) (.lit .i64 0)),true),((.cmp .geq (.app 20061 1 (some .i64) (.cons (.lvar 13) (.cons (.lvar 13) .nil))) (.lit .i64 0)),false)],
 [((.cmp .eql (.app 20033 0 (some .i64) (.cons (.lvar 14) (.cons (.len (.lvar 13)) .nil))) (.lit .i64 0)),true),((.not (.cmp .geq (.app 20033 1 (some .i64) (.cons (.lvar 14) (.cons (.len (.lvar 13)) .nil))) (.lit .i64 0))),true)],
 [((.cmp .eql (.app 20034 0 (some .i64) (.cons (.lvar 16) (.cons (.len (.lvar 15)) .nil))) (.lit .i64 0)),true),((.not (.cmp .geq (.app 20034 1 (some .i64) (.cons (.lvar 16) (.cons (.len (.lvar 15)) .nil))) (.lit .i64 0))),true)]]
def mpA:List (SE×Bool):=[
 ((.app 74 0 none (.cons (.ivar .i64 1) (.cons (.ivar .u64 2) (.cons (.lit .i64 1024) .nil)))),true),
 ((.not (.and (.cmp .eql (.ivar .i64 1) (.lit .i64 0)) (.and (.cmp .eql (.ivar .u64 2) (.lit .u64 0)) (.cmp .eql (.lit .i64 1) (.lit .i64 1))))),true),
 ((.app 74 0 none (.cons (.ivar .i64 3) (.cons (.ivar .u64 4) (.cons (.lit .i64 1048576) .nil)))),true),
 ((.app 74 0 none (.cons (.ivar .i64 5) (.cons (.ivar .u64 6) (.cons (.lit .i64 65536) .nil)))),true),
 ((.app 74 0 none (.cons (.ivar .i64 7) (.cons (.ivar .u64 8) (.cons (.lit .i64 1) .nil)))),true),
 ((.app 49 0 none (.cons (.ivar .i64 11) (.cons (.lit .i64 0) (.cons (.lit .i64 1) .nil)))),true),
 ((.app 49 0 none (.cons (.ivar .i64 0) (.cons (.lit .i64 0) (.cons (.lit .i64 1099511627776) .nil)))),true),
 ((.app 74 0 none (.cons (.ivar .i64 9) (.cons (.ivar .u64 10) (.cons (.lit .i64 1) .nil)))),true),
 ((.app 49 0 none (.cons (.ivar .i64 12) (.cons (.lit .i64 0) (.cons (.lit .i64 1) .nil)))),true),
 ((.app 74 0 none (.cons (.ivar .i64 17) (.cons (.ivar .u64 18) (.cons (.lit .i64 67108864) .nil)))),true),
 ((.not (.app 75 0 none (.cons (.ivar .i64 19) (.cons (.ivar .u64 20) (.cons (.ivar .i64 21) (.cons (.ivar .u64 22) .nil)))))),false),
 ((.cmp .gtr (.len (.lvar 13)) (.lit .i64 32)),false),
 ((.cmp .gtr (.len (.lvar 14)) (.lit .i64 32)),false),
 ((.cmp .gtr (.len (.lvar 15)) (.lit .i64 16)),false),
 ((.cmp .neq (.len (.lvar 16)) (.len (.lvar 13))),false),
 ((.cmp .eql (.app 20031 0 (some .i64) (.cons (.lvar 15) .nil)) (.lit .i64 0)),false),
 ((.cmp .eql (.app 20022 0 (some .i64) (.cons (.lvar 23) (.cons (.ivar .i64 0) .nil))) (.lit .i64 0)),false),
 ((.cmp .eql (.app 20061 0 (some .i64) (.cons (.lvar 13) (.cons (.lvar 13) .nil))) (.lit .i64 0)),false),
 ((.cmp .eql (.app 20033 0 (some .i64) (.cons (.lvar 14) (.cons (.len (.lvar 13)) .nil))) (.lit .i64 0)),false),
 ((.cmp .eql (.app 20034 0 (some .i64) (.cons (.lvar 16) (.cons (.len (.lvar 15)) .nil))) (.lit .i64 0)),false)]
def mqA:List (SE×Bool):=[
 ((.not (.app 17 0 none (.cons (.ivar .i64 0) (.cons (.lit .i64 0) (.cons (.lit .i64 1099511627776) .nil))))),false),
 ((.not (.app 18 0 none (.cons (.ivar .i64 1) (.cons (.ivar .u64 2) (.cons (.lit .i64 1024) .nil))))),false),
 ((.and (.cmp .eql (.ivar .i64 1) (.lit .i64 0)) (.and (.cmp .eql (.ivar .u64 2) (.lit .u64 0)) (.cmp .eql (.lit .i64 1) (.lit .i64 1)))),false),
 ((.not (.app 18 0 none (.cons (.ivar .i64 3) (.cons (.ivar .u64 4) (.cons (.lit .i64 1048576) .nil))))),false),
 ((.not (.app 18 0 none (.cons (.ivar .i64 5) (.cons (.ivar .u64 6) (.cons (.lit .i64 65536) .nil))))),false),
 ((.not (.app 18 0 none (.cons (.ivar .i64 7) (.cons (.ivar .u64 8) (.cons (.lit .i64 1) .nil))))),false),
 ((.not (.app 18 0 none (.cons (.ivar .i64 9) (.cons (.ivar .u64 10) (.cons (.lit .i64 1) .nil))))),false),
 ((.not (.app 17 0 none (.cons (.ivar .i64 11) (.cons (.lit .i64 0) (.cons (.lit .i64 1) .nil))))),false),
 ((.not (.app 17 0 none (.cons (.ivar .i64 12) (.cons (.lit .i64 0) (.cons (.lit .i64 1) .nil))))),false),
 ((.cmp .gtr (.len (.lvar 13)) (.lit .i64 32)),false),
 ((.cmp .gtr (.len (.lvar 14)) (.lit .i64 32)),false),
 ((.cmp .gtr (.len (.lvar 15)) (.lit .i64 16)),false),
 ((.cmp .neq (.len (.lvar 16)) (.len (.lvar 13))),false),
 ((.cmp .gtr (.len (.lvar 23)) (.lit .i64 400)),false),
 ((.app 18 0 none (.cons (.ivar .i64 17) (.cons (.ivar .u64 18) (.cons (.lit .i64 67108864) .nil)))),true),
 ((.app 19 0 none (.cons (.ivar .i64 19) (.cons (.ivar .u64 20) (.cons (.ivar .i64 21) (.cons (.ivar .u64 22) .nil))))),true),
 ((.cmp .eql (.app 20011 0 (some .i64) (.cons (.ivar .i64 0) (.cons (.ivar .i64 1) (.cons (.ivar .u64 2) (.cons (.ivar .i64 3) (.cons (.ivar .u64 4) (.cons (.ivar .i64 5) (.cons (.ivar .u64 6) (.cons (.ivar .i64 7) (.cons (.ivar .u64 8) (.cons (.ivar .i64 9) (.cons (.ivar .u64 10) (.cons (.ivar .i64 11) (.cons (.ivar .i64 12) (.cons (.lvar 13) (.cons (.lvar 14) (.cons (.lvar 15) (.cons (.lvar 16) (.cons (.ivar .i64 17) (.cons (.ivar .u64 18) (.cons (.ivar .i64 19) (.cons (.ivar .u64 20) (.cons (.ivar .i64 21) (.cons (.ivar .u64 22) (.cons (.lvar 23) .nil))))))))))))))))))))))))) (.lit .i64 0)),false),
 ((.cmp .eql (.app 20012 0 (some .i64) (.cons (.ivar .i64 0) (.cons (.ivar .i64 1) (.cons (.ivar .u64 2) (.cons (.ivar .i64 3) (.cons (.ivar .u64 4) (.cons (.ivar .i64 5) (.cons (.ivar .u64 6) (.cons (.ivar .i64 7) (.cons (.ivar .u64 8) (.cons (.ivar .i64 9) (.cons (.ivar .u64 10) (.cons (.ivar .i64 11) (.cons (.ivar .i64 12) (.cons (.lvar 13) (.cons (.lvar 14) (.cons (.lvar 15) (.cons (.lvar 16) (.cons (.ivar .i64 17) (.cons (.ivar .u64 18) (.cons (.ivar .i64 19) (.cons (.ivar .u64 20) (.cons (.ivar .i64 21) (.cons (.ivar .u64 22) (.cons (.lvar 23) (.cons (.app 20011 25 (some .i64) (.cons (.ivar .i64 0) (.cons (.ivar .i64 1) (.cons (.ivar .u64 2) (.cons (.ivar .i64 3) (.cons (.ivar .u64 4) (.cons (.ivar .i64 5) (.cons (.ivar .u64 6) (.cons (.ivar .i64 7) (.cons (.ivar .u64 8) (.cons (.ivar .i64 9) (.cons (.ivar .u64 10) (.cons (.ivar .i64 11) (.cons (.ivar .i64 12) (.cons (.lvar 13) (.cons (.lvar 14) (.cons (.lvar 15) (.cons (.lvar 16) (.cons (.ivar .i64 17) (.cons (.ivar .u64 18) (.cons (.ivar .i64 19) (.cons (.ivar .u64 20) (.cons (.ivar .i64 21) (.cons (.ivar .u64 22) (.cons (.lvar 23) .nil))))))))))))))))))))))))) .nil)))))))))))))))))))))))))) (.lit .i64 0)),false),
 ((.cmp .eql (.app 20013 0 (some .i64) (.cons (.ivar .i64 0) (.cons (.ivar .i64 1) (.cons (.ivar .u64 2) (.cons (.ivar .i64 3) (.cons (.ivar .u64 4) (.cons (.ivar .i64 5) (.cons (.ivar .u64 6) (.cons (.ivar .i64 7) (.cons (.ivar .u64 8) (.cons (.ivar .i64 9) (.cons (.ivar .u64 10) (.cons (.ivar .i64 11) (.cons (.ivar .i64 12) (.cons (.lvar 13) (.cons (.lvar 14) (.cons (.lvar 15) (.cons (.lvar 16) (.cons (.ivar .i64 17) (.cons (.ivar .u64 18) (.cons (.ivar .i64 19) (.cons (.ivar .u64 20) (.cons (.ivar .i64 21) (.cons (.ivar .u64 22) (.cons (.lvar 23) .nil))))))))))))))))))))))))) (.lit .i64 0)),false),
 ((.cmp .eql (.app 20014 0 (some .i64) (.cons (.ivar .i64 0) (.cons (.ivar .i64 1) (.cons (.ivar .u64 2) (.cons (.ivar .i64 3) (.cons (.ivar .u64 4) (.cons (.ivar .i64 5) (.cons (.ivar .u64 6) (.cons (.ivar .i64 7) (.cons (.ivar .u64 8) (.cons (.ivar .i64 9) (.cons (.ivar .u64 10) (.cons (.ivar .i64 11) (.cons (.ivar .i64 12) (.cons (.lvar 13) (.cons (.lvar 14) (.cons (.lvar 15) (.cons (.lvar 16) (.cons (.ivar .i64 17) (.cons (.ivar .u64 18) (.cons (.ivar .i64 19) (.cons (.ivar .u64 20) (.cons (.ivar .i64 21) (.cons (.ivar .u64 22) (.cons (.lvar 23) .nil))))))))))))))))))))))))) (.lit .i64 0)),false)]
def mpZ:SE:= .cmp .leq (.len (.lvar 23)) (.lit .i64 400)
theorem ye3:(mpA.all fun p=>zki mpC p.1 p.2 mpT [])=true:=by kernel_rfl
theorem zrr:zki mpC mpZ true mpT []=true:=by kernel_rfl
theorem q6d:qly mpA mpT=some [mpZ]:=by kernel_rfl
theorem ycf:(mqA.all fun p=>zpm p.1 p.2 mqT [])=true:=by kernel_rfl
theorem q6o:qly mqA mqT=some [.cmp .eql (.lit .i64 1) (.lit .i64 1)]:=by kernel_rfl
section
variable {E:Env}
theorem mp_to (hC:∀c∈mpC,¬∀p∈c,Hol E p) (h:(mpT.get E).2.getD 0 0≠0):(∀p∈mpA,Hol E p)∧Hol E (mpZ,true):=
 ⟨fun p hp=>qn6 hC (List.all_eq_true.1 ye3 p hp) (fun _ h=>by cases h) h,qn6 hC zrr (fun _ h=>by cases h) h⟩
theorem z05 (h:∀p∈mpA,Hol E p) (hz:Hol E (mpZ,true)):(mpT.get E).2.getD 0 0≠0:=by
 rw [qh0 h q6d]
 have hz:(mpZ.val E !=0)=true:=hz
 show mpZ.val E≠0
 simpa using hz
theorem mq_to (h:(mqT.get E).2.getD 0 0≠0):∀p∈mqA,Hol E p:=fun p hp=>qin (List.all_eq_true.1 ycf p hp) (fun _ h=>by cases h) h
theorem zyd (h:∀p∈mqA,Hol E p):(mqT.get E).2.getD 0 0≠0:=by
 rw [qh0 h q6o]
 show (SE.cmp .eql (.lit .i64 1) (.lit .i64 1)).val E≠0
 rw [zib];decide
end
end Go.Proofs.YtilkebpcjklmfaaGreat.Own
namespace Go.Proofs.YtilkebpcjklmfaaGreat.Own
open Go Go.RowKit Go.Proofs Go.Proofs.YtilkebpcjklmfaaGreat.Plain
set_option maxRecDepth 100000
set_option maxHeartbeats 40000000
theorem zb6:∀(n:Nat) (Tb:List Ent) (f:Nat),((Tb.take n).all fun e=> !Nat.beq f e.f)=true→FT Tb f=FT (Tb.drop n) f
 |0,Tb,f,_=>rfl
 |n+1,[],f,_=>rfl
 |n+1,x::r,f,h=>by
  rw [List.take_succ_cons,List.all_cons,Bool.and_eq_true] at h
  have e:FT (x::r) f=FT r f:=by
   funext xs
   have:Nat.beq f x.f=false:=by simpa using h.1
   simp only [FT,this,cond_false]
  rw [e,List.drop_succ_cons]
  exact zb6 n r f h.2
theorem qfb {Tb:List Ent} {x:Ent} {r:List Ent} {f:Nat} (ht:Tb=x::r) (h:Nat.beq f x.f=true):FT Tb f=x.fn (FT r):=by
 subst ht
 funext xs
 simp only [FT,h,cond_true]
theorem qbt {Tb Tb':List Ent} {f:Nat} (n:Nat) (h:((Tb.take n).all fun e=> !Nat.beq f e.f)=true) (hd:Tb.drop n=Tb'):FT Tb f=FT Tb' f:=by
 rw [zb6 n Tb f h,hd]
section
variable {F:Nat→List Int→List Int} {zs:List Int} {x:SE} {t:ST} {q r:Bool}
theorem qx2 (hx:(x.val (qaa F zs) !=0)= !q) (ht:q=true→qaf t F zs=[b2i r]):qaf (.ask x (.leaf (.one (.bool false))) t) F zs=[b2i (q&&r)]:=by
 unfold qaf at ht ⊢
 simp only [ST.get,hx]
 cases q with
 |true=>rw [Bool.not_true,cond_false,Bool.true_and];exact ht rfl
 |false=>rfl
theorem qk0 (hx:(x.val (qaa F zs) !=0)=q) (ht:q=true→qaf t F zs=[b2i r]):qaf (.ask x t (.leaf (.one (.bool false)))) F zs=[b2i (q&&r)]:=by
 unfold qaf at ht ⊢
 simp only [ST.get,hx]
 cases q with
 |true=>rw [cond_true,Bool.true_and];exact ht rfl
 |false=>rfl
theorem q0p (hx:x.val (qaa F zs)=b2i r):qaf (.leaf (.one (.opq x))) F zs=[b2i r]:=by
 unfold qaf
 simp only [ST.get,qc0,List.map,qfn,hx]
end
theorem wrb (b:Bool):wrK none (b2i b)=b2i b:=by cases b<;>rfl
theorem qy7 {F:Nat→List Int→List Int} {xs:List Int} {f:Nat} {zs:SE} {b:Bool} (h:F f (zs.vals (qaa F xs))=[b2i b]):(SE.app f 0 none zs).val (qaa F xs)=b2i b:=by
 rw [qgk,h,List.getD_cons_zero,wrb]
theorem qiz {F:Nat→List Int→List Int} {xs:List Int} {f:Nat} {zs:SE} {b:Bool} (h:F f (zs.vals (qaa F xs))=[b2i b]):((SE.not (.app f 0 none zs)).val (qaa F xs) !=0)= !b:=by
 rw [qec,qy7 h,qas]
theorem qk2 {F:Nat→List Int→List Int} {xs:List Int} {f:Nat} {zs:SE} {b:Bool} (h:F f (zs.vals (qaa F xs))=[b2i b]):((SE.app f 0 none zs).val (qaa F xs) !=0)=b:=by
 rw [qy7 h,qas]
theorem qfi {F:Nat→List Int→List Int} {xs:List Int} {f i:Nat} {k:IntKind} {zs:SE} {l:List Int} {v:Int} (h:F f (zs.vals (qaa F xs))=l) (hv:l.getD i 0=v) (hk:inK (some k) v):(SE.app f i (some k) zs).val (qaa F xs)=v:=by
 rw [qgk,h,hv];exact hk
def nn (a b:Int):Int:=a * 18446744073709551616+b
theorem qtg {x:Int} (h:inK (some .u64) x):0≤x∧x<18446744073709551616:=by
 have:IntKind.u64.wrap x=x:=h
 rw [IntKind.wrap_u64] at this;omega
theorem qj4 {a0 a1 b0 b1:Int} (h1:inK (some .u64) a1) (h2:inK (some .u64) b1):decide (0≤qe_ a0 a1 b0 b1)=decide (nn b0 b1≤nn a0 a1):=by
 have:=qtg h1;have:=qtg h2
 apply decide_eq_decide.2
 unfold qe_ qlf nn
 repeat' split
 all_goals omega
theorem qmg {a0 a1 b0 b1:Int} (h1:inK (some .u64) a1) (h2:inK (some .u64) b1):decide (qe_ a0 a1 b0 b1≤0)=decide (nn a0 a1≤nn b0 b1):=by
 have:=qtg h1;have:=qtg h2
 apply decide_eq_decide.2
 unfold qe_ qlf nn
 repeat' split
 all_goals omega
theorem qm3 (a b c d:Int):inK (some .i64) (qe_ a b c d):=by unfold qe_;split<;>exact qsj _ _
def inF (a0 a1 lo hi:Int):Bool:=qik a0 a1&&(decide (lo≤nn a0 a1)&&decide (nn a0 a1≤hi))
theorem zj7 {e:Env} {k:Option IntKind} {x i:SE} {j:Nat} {t:Nat} (h:i.val e=(t:Int)):(SE.el k x i j).val e=wrK k (((dec (x.val e)).getD t []).getD j 0):=by
 simp only [SE.val,h,Int.toNat_natCast]
noncomputable def qnx (xs:List Int):Nat:=(qnn xs % ((dec (wtL0.val (qac xs))).length:Int)).toNat
section
variable {xs:List Int} (hl:WtLen xs) (h0:0<(dec (wtL0.val (qac xs))).length)
include hl h0
end
theorem g22b:FT qbv 33=qaf z5z (FT qsw):=by kernel_rfl
structure BdR (el:List Int):Prop where
 m:1≤el.getD 0 0∧el.getD 0 0≤9
 f:el.getD 12 0=0
 y:wrK (some .u64) (el.getD 7 0)≠1
section
variable {xs:List Int} (hl:WtLen xs) {k:Nat} (hk:k<(dec (wtL0.val (qac xs))).length)
include hl hk
end
section
variable {xs:List Int} (hl:WtLen xs) (h0:0<(dec (wtL0.val (qac xs))).length) {B:SE} (hB:(dec (B.val (qac xs))).length=(dec (wtL0.val (qac xs))).length)
include hl h0 hB
end
section
variable {xs:List Int} (hl:WtLen xs) (h0:0<(dec (wtL0.val (qac xs))).length) {B:SE} (hB:(dec (B.val (qac xs))).length=(dec (wtL0.val (qac xs))).length) (hr:BdR ((dec (B.val (qac xs))).getD (qnx xs) []))
include hl h0 hB hr
end
section
variable {xs:List Int} (hl:WtLen xs) (h0:0<(dec (wtL0.val (qac xs))).length)
include hl h0
end
section
variable {F:Nat→List Int→List Int} {zs:List Int} {x:SE} {t:ST}
end
theorem qbz {F:Nat→List Int→List Int} {zs:List Int} {k:IntKind} {j:Nat}:(SE.ivar k j).val (qaa F zs)=k.wrap (zs.getD j 0):=by
 simp only [SE.val,qb0]
theorem g85:FT qcv 84=qaf tr85 (FT qgv):=by kernel_rfl
theorem g45:FT qfl 43=qaf yd4 (FT qcv):=by kernel_rfl
theorem g44:FT qfx 42=qaf tr44 (FT qfl):=by kernel_rfl
theorem g65:FT qf1 115=qaf tr65 (FT qhb):=by kernel_rfl
theorem g70:FT qf1 120=qaf tr70 (FT qf_):=by kernel_rfl
theorem g69:FT qf_ 119=qws:=by kernel_rfl
theorem g100:FT qjo 101=qaf zhk (FT qf1):=by kernel_rfl
theorem g29:FT qjo 100=qxz:=by kernel_rfl
theorem g82:FT qcv 81=qaf tr82 (FT qjo):=by kernel_rfl
theorem q31 {z:Int} {T:Two} (h:∃k:Int,(T.n:Int)=z+k * 340282366920938463463374607431768211456):IntKind.i64.wrap T.hi=(Fx.of z).hi∧T.lo=(Fx.of z).lo:=by
 obtain ⟨k,h⟩:=h
 rw [Two.n_int] at h
 have:=T.b
 constructor
 ·show _=IntKind.i64.wrap (z / 18446744073709551616);rw [IntKind.wrap_i64,IntKind.wrap_i64];omega
 ·show _=z % 18446744073709551616;omega
theorem qpy (z:Int):inK (some .i64) (Fx.of z).hi∧inK (some .u64) (Fx.of z).lo:=qvq _
theorem zn3 {z:Int} (h: -170141183460469231731687303715884105728≤z∧z<170141183460469231731687303715884105728):fxW (Fx.of z).hi (Fx.of z).lo=Fx.of z:=by
 apply Fx.n_ext
 rw [qto (qpy z).1 (qpy z).2]
 rfl
theorem qp9 (a b:Fx) (h: -170141183460469231731687303715884105728<a.n+b.n∧a.n+b.n<170141183460469231731687303715884105728):qxs a b=(Fx.of (a.n+b.n),0):=by
 unfold qxs
 by_cases c:a.below=b.below
 ·rw [if_pos c]
  have na:=a.neg_iff
  have nb:=b.neg_iff
  have ma:=a.mag_n
  have mb:=b.mag_n
  have z0:(⟨0,0,by decide⟩:Two).n=0:=by kernel_rfl
  have e1:(⟨⟨0,0,by decide⟩,Two.of (a.mag.n+b.mag.n)⟩:Four).n=(Two.of (a.mag.n+b.mag.n)).n:=Four.n_low z0
  have hs:a.mag.n+b.mag.n<170141183460469231731687303715884105728∧sgn a.below (a.mag.n+b.mag.n)=a.n+b.n:=by
   have et:∀n,sgn true n= -(n:Int):=fun n=>rfl
   have ef:∀n,sgn false n=(n:Int):=fun n=>rfl
   by_cases ha:a.hi<0
   ·have e:a.below=true:=decide_eq_true ha
    have hb:b.hi<0:=of_decide_eq_true (show decide (b.hi<0)=true from (show b.below=true by rw [←c,e]))
    have:=na.1 ha;have:=nb.1 hb
    rw [e,et];omega
   ·have e:a.below=false:=decide_eq_false ha
    have hb:¬b.hi<0:=of_decide_eq_false (show decide (b.hi<0)=false from (show b.below=false by rw [←c,e]))
    have:¬a.n<0:=fun q=>ha (na.2 q)
    have:¬b.n<0:=fun q=>hb (nb.2 q)
    rw [e,ef];omega
  have e2:(Two.of (a.mag.n+b.mag.n)).n=a.mag.n+b.mag.n:=by rw [Two.of_n];exact Nat.mod_eq_of_lt (by omega)
  unfold told
  rw [e1,e2,if_neg (by omega),hs.2]
 ·rw [if_neg c]
section
variable {a0 a1 b0 b1:Int}
theorem f76 (h0:inK (some .i64) a0) (h1:inK (some .u64) a1) (h2:inK (some .i64) b0) (h3:inK (some .u64) b1):FT qfs 75 [a0,a1,b0,b1]=[b2i (qik a0 a1&&qik b0 b1)]:=by
 have g:FT qfs 75=qaf tr76 (FT qem):=qfb (Tb:=qfs) rfl rfl
 have e:FT qem 99=FT qe9 99:=qbt 3 (by kernel_rfl) (by kernel_rfl)
 rw [g];unfold tr76
 refine qk0 (qk2 ?_) fun _=>q0p (qy7 ?_)
 ·simp only [qab,qad,qbz,List.getD_cons_zero,List.getD_cons_succ,w_i h0,w_u h1];rw [e];exact f99 h0 h1
 ·simp only [qab,qad,qbz,List.getD_cons_zero,List.getD_cons_succ,w_i h2,w_u h3];rw [e];exact f99 h2 h3
theorem f77n {l0 l1 m0 m1:Int} (h0:inK (some .i64) a0) (h1:inK (some .u64) a1) (h2:inK (some .i64) l0) (h3:inK (some .u64) l1) (h4:inK (some .i64) m0) (h5:inK (some .u64) m1):FT qfk 76 [a0,a1,l0,l1,m0,m1]=[b2i (inF a0 a1 (nn l0 l1) (nn m0 m1))]:=by
 rw [f77 h0 h1 h2 h3 h4 h5,qj4 h1 h3,qmg h1 h5];rfl
theorem zpv {n:Int} (h0:inK (some .i64) a0) (h1:inK (some .u64) a1) (h:0≤n∧n≤1152921504606846976):FT qgc 74 [a0,a1,n]=[b2i (inF a0 a1 0 (nn n 0))]:=by
 have e:FT qcn 74=FT qgc 74:=qbt 31 (by kernel_rfl) (by kernel_rfl)
 rw [←e,f75 h0 h1 h,qj4 h1 (show inK (some .u64) 0 from rfl),qmg h1 (show inK (some .u64) 0 from rfl)]
 rfl
theorem zhz {c:Int} (h0:inK (some .i64) a0) (h1:inK (some .i64) b0) (h2:inK (some .i64) c):FT qem 49 [a0,b0,c]=[b2i (decide (b0≤a0)&&decide (a0≤c))]:=by
 have g:FT qem 49=qaf z76 (FT qgc):=qfb (Tb:=qem) rfl rfl
 rw [g];unfold z76
 refine qk0 ?_ fun _=>q0p ?_
 ·rw [qce,qbz,qbz];simp only [List.getD_cons_zero,List.getD_cons_succ,w_i h0,w_i h1,qa8]
 ·simp only [SE.val,qb0,List.getD_cons_zero,List.getD_cons_succ,w_i h0,w_i h2,qa8]
theorem f65p (h0:0≤a0∧a0<9223372036854775808) (h1:inK (some .u64) a1):FT qf1 115 [a0,a1]=[a0,a1,0]:=by
 rw [g65]
 have hk:inK (some .i64) a0:=by show IntKind.i64.wrap a0=a0;rw [IntKind.wrap_i64];omega
 have hu:IntKind.u64.wrap a0=a0:=by rw [IntKind.wrap_u64];omega
 have e:((SE.cmp .eql (.bin .shr .i64 (.ivar .i64 0) (.lit .u64 63)) (.lit .i64 0)).val (qaa (FT qhb) [a0,a1]) !=0)=true:=by
  rw [qfw,qig,qe7,qai,qbz,List.getD_cons_zero,w_i hk,w63u]
  have:qbg .shr .i64 a0 ((63:Nat):Int)=0:=by
   show IntKind.i64.wrap (a0.fdiv (2 ^ (min (((63:Nat):Int)).toNat IntKind.i64.bits)))=0
   have e1:a0.fdiv (2 ^ (min (((63:Nat):Int)).toNat IntKind.i64.bits))=a0 / 9223372036854775808:=by rw [Int.fdiv_eq_ediv_of_nonneg _ (Int.pow_nonneg (by decide))];rfl
   rw [e1,show a0 / 9223372036854775808=0 by omega];rfl
  rw [this];rfl
 unfold qaf
 simp only [tr65,ST.get,e,cond_true]
 simp only [qc0,List.map,qfn,SE.val,qb0,List.getD_cons_zero,List.getD_cons_succ,w_u h1,w_i hk,hu]
 rfl
theorem f70n (h0:inK (some .u64) a0) (h1:inK (some .u64) a1):FT qf1 120 [a0,a1,1]=[(Fx.of (-(nn a0 a1))).hi,(Fx.of (-(nn a0 a1))).lo]:=by
 rw [g70]
 have b0:=qtg h0
 have b1:=qtg h1
 have e:((SE.bvar 2).val (qaa (FT qf_) [a0,a1,1]) !=0)=true:=by simp only [SE.val];rfl
 unfold qaf
 simp only [tr70,ST.get,e,cond_true]
 simp only [qc0,List.map,qfn]
 have cv:∀x:SE,(SE.conv .i64 x).val (qaa (FT qf_) [a0,a1,1])=IntKind.i64.wrap (x.val (qaa (FT qf_) [a0,a1,1])):=fun x=>by simp only [SE.val]
 have u0:(SE.lit .u64 0).val (qaa (FT qf_) [a0,a1,1])=0:=by simp only [SE.val];rfl
 rw [cv,qdc,qdc]
 simp only [qab,qad,u0,qbz,List.getD_cons_zero,List.getD_cons_succ,w_u h0,w_u h1]
 rw [g69]
 unfold qws
 simp only [List.getD_cons_zero,List.getD_cons_succ]
 have ea:twA [0,0,a0,a1]=0:=by show Limb.n2 0 0=0;unfold Limb.n2 qbc;omega
 have eb:((twB [0,0,a0,a1]:Nat):Int)=nn a0 a1:=by
  show ((Limb.n2 a0 a1:Nat):Int)=_
  unfold Limb.n2 qbc nn;omega
 have hlt:twB [0,0,a0,a1]<340282366920938463463374607431768211456:=by
  have:nn a0 a1<340282366920938463463374607431768211456:=by unfold nn;omega
  omega
 rw [ea]
 have hb:=qqk (Two.of (0+340282366920938463463374607431768211456 - twB [0,0,a0,a1]))
 have hn:=Two.of_n (0+340282366920938463463374607431768211456 - twB [0,0,a0,a1])
 have ob:=q31 (z:= -(nn a0 a1)) (T:=Two.of (0+340282366920938463463374607431768211456 - twB [0,0,a0,a1])) (by
  rw [hn,←eb]
  by_cases c:twB [0,0,a0,a1]=0
  ·exact ⟨0,by omega⟩
  ·exact ⟨1,by omega⟩)
 rw [←ob.1,←ob.2]
 show [IntKind.i64.wrap (IntKind.u64.wrap _),IntKind.u64.wrap _]=_
 rw [w_u hb.1,w_u hb.2]
theorem f100p (h0:0≤a0∧a0<9223372036854775808) (h1:inK (some .u64) a1):FT qjo 101 [a0,a1]=[(Fx.of (-(nn a0 a1))).hi,(Fx.of (-(nn a0 a1))).lo]:=by
 have hk:inK (some .i64) a0:=by show IntKind.i64.wrap a0=a0;rw [IntKind.wrap_i64];omega
 have hu:inK (some .u64) a0:=by show IntKind.u64.wrap a0=a0;rw [IntKind.wrap_u64];omega
 rw [g100]
 unfold qaf
 simp only [zhk,ST.get,qc0,List.map,qfn]
 have nt:∀x:SE,(SE.not x).val (qaa (FT qf1) [a0,a1])=b2i (!(x.val (qaa (FT qf1) [a0,a1]) !=0)):=fun x=>by simp only [SE.val]
 rw [qdc,qdc]
 simp only [qab,qad,nt,qdc,qbz,List.getD_cons_zero,List.getD_cons_succ,w_u h1,w_i hk]
 rw [f65p h0 h1]
 simp only [List.getD_cons_zero,List.getD_cons_succ]
 rw [show wrK (some .u64) a0=a0 from hu,show wrK (some .u64) a1=a1 from h1,show b2i (!(wrK none 0 !=0))=1 from rfl,f70n hu h1]
 have ho:=qpy (-(nn a0 a1))
 show [IntKind.i64.wrap _,IntKind.u64.wrap _]=_
 simp only [List.getD_cons_zero,List.getD_cons_succ]
 rw [w_i ho.1,w_u ho.2]
theorem f82p (h0:0≤a0∧a0<9223372036854775808) (h1:inK (some .u64) a1) (h2:0≤b0∧b0<9223372036854775808) (h3:inK (some .u64) b1):FT qcv 81 [a0,a1,b0,b1]=[(Fx.of (nn a0 a1 - nn b0 b1)).hi,(Fx.of (nn a0 a1 - nn b0 b1)).lo,0]:=by
 have ka:inK (some .i64) a0:=by show IntKind.i64.wrap a0=a0;rw [IntKind.wrap_i64];omega
 have kb:inK (some .i64) b0:=by show IntKind.i64.wrap b0=b0;rw [IntKind.wrap_i64];omega
 have u1:=qtg h1
 have u3:=qtg h3
 have ho:=qpy (-(nn b0 b1))
 have hp:=qpy (nn a0 a1 - nn b0 b1)
 have hs:qxz [a0,a1,(Fx.of (-(nn b0 b1))).hi,(Fx.of (-(nn b0 b1))).lo]=[(Fx.of (nn a0 a1 - nn b0 b1)).hi,(Fx.of (nn a0 a1 - nn b0 b1)).lo,0]:=by
  have hr: -170141183460469231731687303715884105728≤-(nn b0 b1)∧-(nn b0 b1)<170141183460469231731687303715884105728:=by unfold nn;omega
  have e1:(fxW a0 a1).n=nn a0 a1:=qto ka h1
  have e2:(Fx.of (-(nn b0 b1))).n= -(nn b0 b1):=Fx.of_n _ hr
  have hf:=qp9 (fxW a0 a1) (Fx.of (-(nn b0 b1))) (by rw [e1,e2];unfold nn;omega)
  rw [e1,e2,←Int.sub_eq_add_neg] at hf
  unfold qxz
  simp only [List.getD_cons_zero,List.getD_cons_succ]
  rw [zn3 hr,hf]
 rw [g82]
 unfold qaf
 simp only [tr82,ST.get,qc0,qf8,List.map,qfn,List.cons_append,List.nil_append,List.append_nil]
 simp only [qdc,qab,qad,qbz,List.getD_cons_zero,List.getD_cons_succ,w_u h1,w_i ka,w_i kb,w_u h3]
 rw [f100p h2 h3]
 simp only [List.getD_cons_zero,List.getD_cons_succ]
 rw [show wrK (some .i64) (Fx.of (-(nn b0 b1))).hi=(Fx.of (-(nn b0 b1))).hi from ho.1,show wrK (some .u64) (Fx.of (-(nn b0 b1))).lo=(Fx.of (-(nn b0 b1))).lo from ho.2,g29,hs]
 simp only [List.getD_cons_zero,List.getD_cons_succ]
 rw [show wrK (some .i64) (Fx.of (nn a0 a1 - nn b0 b1)).hi=(Fx.of (nn a0 a1 - nn b0 b1)).hi from hp.1,show wrK (some .u64) (Fx.of (nn a0 a1 - nn b0 b1)).lo=(Fx.of (nn a0 a1 - nn b0 b1)).lo from hp.2]
 rfl
end
def kB (j:Nat):IntKind:=if j=1∨j=3∨j=5∨j=7∨j=9∨j=11∨j=13∨j=15∨j=17 then .u64 else .i64
def zw1 (zs:List Int):Prop:=∀j,j<20→inK (some (kB j)) (zs.getD j 0)
def qV (a0 a1 b0 b1:Int):Fx×Int:=fdiv (fxW a0 a1) (fxW b0 b1)
def qe8 (n most:Int):Bool:=decide (n≤nn most 0)&&decide (nn (-most) 0≤n)
def qi_ (zs:List Int):Bool:=
 decide ((qV (zs.getD 8 0) (zs.getD 9 0) (zs.getD 0 0) (zs.getD 1 0)).2=0)&&(decide ((qV (zs.getD 10 0) (zs.getD 11 0) (zs.getD 0 0) (zs.getD 1 0)).2=0)&&
 (qe8 (qV (zs.getD 8 0) (zs.getD 9 0) (zs.getD 0 0) (zs.getD 1 0)).1.n 65536&&qe8 (qV (zs.getD 10 0) (zs.getD 11 0) (zs.getD 0 0) (zs.getD 1 0)).1.n 65536))
def zwy (zs:List Int):Bool:=
 (qik (zs.getD 4 0) (zs.getD 5 0)&&qik (zs.getD 6 0) (zs.getD 7 0))&&((qik (zs.getD 8 0) (zs.getD 9 0)&&qik (zs.getD 10 0) (zs.getD 11 0))&&
 (inF (zs.getD 0 0) (zs.getD 1 0) 281474976710656 (nn 1048576 0)&&(inF (zs.getD 12 0) (zs.getD 13 0) 0 (nn (zs.getD 0 0) (zs.getD 1 0))&&
 (decide (281474976710656≤nn (zs.getD 0 0) (zs.getD 1 0) - nn (zs.getD 12 0) (zs.getD 13 0))&&(inF (zs.getD 2 0) (zs.getD 3 0) 0 (nn 65536 0)&&(inF (zs.getD 14 0) (zs.getD 15 0) 0 (nn 65536 0)&&(inF (zs.getD 16 0) (zs.getD 17 0) 0 (nn 65536 0)&&
 (qi_ zs&&((qe8 (nn (zs.getD 4 0) (zs.getD 5 0)) 1073741824&&qe8 (nn (zs.getD 6 0) (zs.getD 7 0)) 1073741824)&&((decide (0≤zs.getD 18 0)&&decide (zs.getD 18 0≤100))&&(decide (0≤zs.getD 19 0)&&decide (zs.getD 19 0≤65535))))))))))))
def al (zs:List Int):List Int:=[zs.getD 0 0,zs.getD 1 0,zs.getD 2 0,zs.getD 3 0,zs.getD 4 0,zs.getD 5 0,zs.getD 6 0,zs.getD 7 0,zs.getD 8 0,zs.getD 9 0,zs.getD 10 0,zs.getD 11 0,zs.getD 12 0,zs.getD 13 0,zs.getD 14 0,zs.getD 15 0,zs.getD 16 0,zs.getD 17 0,zs.getD 18 0,zs.getD 19 0]
def aB:SE:=(.cons (.ivar .i64 0) (.cons (.ivar .u64 1) (.cons (.ivar .i64 2) (.cons (.ivar .u64 3) (.cons (.ivar .i64 4) (.cons (.ivar .u64 5) (.cons (.ivar .i64 6) (.cons (.ivar .u64 7) (.cons (.ivar .i64 8) (.cons (.ivar .u64 9) (.cons (.ivar .i64 10) (.cons (.ivar .u64 11) (.cons (.ivar .i64 12) (.cons (.ivar .u64 13) (.cons (.ivar .i64 14) (.cons (.ivar .u64 15) (.cons (.ivar .i64 16) (.cons (.ivar .u64 17) (.cons (.ivar .i64 18) (.cons (.ivar .i64 19) .nil))))))))))))))))))))
section
variable {zs:List Int} (h:zw1 zs)
include h
theorem bi (j:Nat) (hj:j<20) (hk:kB j= .i64):inK (some .i64) (zs.getD j 0):=by have:=h j hj;rwa [hk] at this
theorem bu (j:Nat) (hj:j<20) (hk:kB j= .u64):inK (some .u64) (zs.getD j 0):=by have:=h j hj;rwa [hk] at this
theorem qgy {F:Nat→List Int→List Int} (j:Nat) (hj:j<20) (hk:kB j= .i64):(SE.ivar .i64 j).val (qaa F zs)=zs.getD j 0:=by
 rw [qbz];exact bi h j hj hk
theorem qhn {F:Nat→List Int→List Int} (j:Nat) (hj:j<20) (hk:kB j= .u64):(SE.ivar .u64 j).val (qaa F zs)=zs.getD j 0:=by
 rw [qbz];exact bu h j hj hk
theorem z9v {F:Nat→List Int→List Int}:aB.vals (qaa F zs)=al zs:=by
 unfold aB al
 simp only [qab,qad]
 rw [qgy h 0 (by decide) rfl,qhn h 1 (by decide) rfl,qgy h 2 (by decide) rfl,qhn h 3 (by decide) rfl,qgy h 4 (by decide) rfl,qhn h 5 (by decide) rfl,qgy h 6 (by decide) rfl,qhn h 7 (by decide) rfl,qgy h 8 (by decide) rfl,qhn h 9 (by decide) rfl,qgy h 10 (by decide) rfl,qhn h 11 (by decide) rfl,qgy h 12 (by decide) rfl,qhn h 13 (by decide) rfl,qgy h 14 (by decide) rfl,qhn h 15 (by decide) rfl,qgy h 16 (by decide) rfl,qhn h 17 (by decide) rfl,qgy h 18 (by decide) rfl,qgy h 19 (by decide) rfl]
theorem zj_:zw1 (al zs):=fun j hj=>by
 have e:(al zs).getD j 0=zs.getD j 0:=by
  match j,hj with
  |0,_ |1,_ |2,_ |3,_ |4,_ |5,_ |6,_ |7,_ |8,_ |9,_ |10,_ |11,_ |12,_ |13,_ |14,_ |15,_ |16,_ |17,_ |18,_ |19,_=>rfl
  |(n+20),hn=>omega
 rw [e];exact h j hj
end
theorem q54 (zs:List Int):qi_ (al zs)=qi_ zs:=by
 have e8:(al zs).getD 8 0=zs.getD 8 0:=rfl
 have e9:(al zs).getD 9 0=zs.getD 9 0:=rfl
 have e10:(al zs).getD 10 0=zs.getD 10 0:=rfl
 have e11:(al zs).getD 11 0=zs.getD 11 0:=rfl
 have e0:(al zs).getD 0 0=zs.getD 0 0:=rfl
 have e1:(al zs).getD 1 0=zs.getD 1 0:=rfl
 unfold qi_
 rw [e8,e9,e10,e11,e0,e1]
theorem q_eq (a0 a1 b0 b1:Int):qt1 [a0,a1,b0,b1]=[(qV a0 a1 b0 b1).1.hi,(qV a0 a1 b0 b1).1.lo,(qV a0 a1 b0 b1).2]:=by
 unfold qV
 exact qy1 a0 a1 b0 b1
section
variable {F:Nat→List Int→List Int} {zs:List Int} {x:SE} {t e:ST}
theorem qnl (hx:(x.val (qaa F zs) !=0)=true):qaf (.ask x t e) F zs=qaf t F zs:=by
 unfold qaf;simp only [ST.get,hx,cond_true]
theorem qmk (hx:(x.val (qaa F zs) !=0)=false):qaf (.ask x t e) F zs=qaf e F zs:=by
 unfold qaf;simp only [ST.get,hx,cond_false]
end
theorem gd0 (a d:Int) (l:List Int):(a::l).getD 0 d=a:=List.getD_cons_zero
theorem gd1 (a b d:Int) (l:List Int):(a::b::l).getD 1 d=b:=by rw [List.getD_cons_succ,List.getD_cons_zero]
theorem gd2 (a b c d:Int) (l:List Int):(a::b::c::l).getD 2 d=c:=by rw [List.getD_cons_succ,List.getD_cons_succ,List.getD_cons_zero]
theorem q4u (a0 a1 b0 b1:Int):inK (some .i64) (qV a0 a1 b0 b1).2:=by unfold qV;exact qx8 (qz9 _ _)
theorem z3y (a0 a1 b0 b1:Int):inK (some .i64) (qV a0 a1 b0 b1).1.hi∧inK (some .u64) (qV a0 a1 b0 b1).1.lo:=qvq _
theorem f81g {n:Int} (h: -1152921504606846976≤n∧n≤1152921504606846976):FT qfk 80 [n]=[n,0]:=by
 rw [g81]
 have w1:IntKind.i64.wrap n=n:=by rw [IntKind.wrap_i64];omega
 have w2:IntKind.i64.wrap (-9223372036854775807)= -9223372036854775807:=rfl
 simp only [qaf,z8q,ST.get,qc0,qfn,List.map,SE.val,qb0,List.getD_cons_zero,w1,w2,show decide ((-9223372036854775807:Int)>n)=false from decide_eq_false (by omega),cond_false]
section
variable {a0 a1 b0 b1 n:Int}
theorem yb6 (h0:inK (some .i64) a0) (h1:inK (some .u64) a1) (h2:inK (some .i64) b0) (h3:inK (some .u64) b1) (hn:0≤n∧n≤1152921504606846976):FT qe0 106 [a0,a1,b0,b1,n]=[b2i (qe8 (nn a0 a1) n&&qe8 (nn b0 b1) n)]:=by
 have g:FT qe0 106=qaf zlz (FT qbf):=qfb (Tb:=qe0) rfl rfl
 have e83:FT qbf 82=FT qe9 82:=qbt 15 (by kernel_rfl) (by kernel_rfl)
 have e81:FT qbf 80=FT qfk 80:=(qbt 21 (by kernel_rfl) (by kernel_rfl)).trans (qbt 7 (Tb:=qfk) (Tb':=qpm) (by kernel_rfl) (by kernel_rfl)).symm
 have kn:inK (some .i64) n:=by show IntKind.i64.wrap n=n;rw [IntKind.wrap_i64];omega
 have km:inK (some .i64) (-n):=by show IntKind.i64.wrap (-n)= -n;rw [IntKind.wrap_i64];omega
 have k0:inK (some .u64) 0:=rfl
 have i0:(SE.ivar .i64 0).val (qaa (FT qbf) [a0,a1,b0,b1,n])=a0:=by rw [qbz];exact h0
 have i1:(SE.ivar .u64 1).val (qaa (FT qbf) [a0,a1,b0,b1,n])=a1:=by rw [qbz];exact h1
 have i2:(SE.ivar .i64 2).val (qaa (FT qbf) [a0,a1,b0,b1,n])=b0:=by rw [qbz];exact h2
 have i3:(SE.ivar .u64 3).val (qaa (FT qbf) [a0,a1,b0,b1,n])=b1:=by rw [qbz];exact h3
 have i4:(SE.ivar .i64 4).val (qaa (FT qbf) [a0,a1,b0,b1,n])=n:=by rw [qbz];exact kn
 have im:(SE.bin .sub .i64 (.lit .i64 0) (.ivar .i64 4)).val (qaa (FT qbf) [a0,a1,b0,b1,n])= -n:=by
  rw [qe7,qai,i4]
  show IntKind.i64.wrap (0 - n)= -n
  rw [IntKind.wrap_i64];omega
 have p0:(SE.app 80 0 (some .i64) (.cons (.ivar .i64 4) .nil)).val (qaa (FT qbf) [a0,a1,b0,b1,n])=n:=qfi (l:=[n,0]) (by rw [qab,qad,i4,e81,f81g ⟨by omega,hn.2⟩]) rfl kn
 have p1:(SE.app 80 1 (some .u64) (.cons (.ivar .i64 4) .nil)).val (qaa (FT qbf) [a0,a1,b0,b1,n])=0:=qfi (l:=[n,0]) (by rw [qab,qad,i4,e81,f81g ⟨by omega,hn.2⟩]) rfl k0
 have m0:(SE.app 80 0 (some .i64) (.cons (.bin .sub .i64 (.lit .i64 0) (.ivar .i64 4)) .nil)).val (qaa (FT qbf) [a0,a1,b0,b1,n])= -n:=qfi (l:=[-n,0]) (by rw [qab,qad,im,e81,f81g ⟨by omega,by omega⟩]) rfl km
 have m1:(SE.app 80 1 (some .u64) (.cons (.bin .sub .i64 (.lit .i64 0) (.ivar .i64 4)) .nil)).val (qaa (FT qbf) [a0,a1,b0,b1,n])=0:=qfi (l:=[-n,0]) (by rw [qab,qad,im,e81,f81g ⟨by omega,by omega⟩]) rfl k0
 have c:∀{x y s t:SE} {u0 u1 w0 w1:Int},x.val (qaa (FT qbf) [a0,a1,b0,b1,n])=u0→y.val (qaa (FT qbf) [a0,a1,b0,b1,n])=u1→s.val (qaa (FT qbf) [a0,a1,b0,b1,n])=w0→t.val (qaa (FT qbf) [a0,a1,b0,b1,n])=w1→inK (some .i64) u0→inK (some .u64) u1→inK (some .i64) w0→inK (some .u64) w1→(SE.app 82 0 (some .i64) (.cons x (.cons y (.cons s (.cons t .nil))))).val (qaa (FT qbf) [a0,a1,b0,b1,n])=qe_ u0 u1 w0 w1:=by
  intro x y s t u0 u1 w0 w1 hx hy hs ht k1 k2 k3 k4
  exact qfi (l:=[qe_ u0 u1 w0 w1]) (by rw [qab,qab,qab,qab,qad,hx,hy,hs,ht,e83,f83 k1 k2 k3 k4]) rfl (qm3 _ _ _ _)
 have z:(SE.lit .i64 0).val (qaa (FT qbf) [a0,a1,b0,b1,n])=0:=qig
 have fin:(qe8 (nn a0 a1) n&&qe8 (nn b0 b1) n)=(decide (qe_ a0 a1 n 0≤0)&&(decide (0≤qe_ a0 a1 (-n) 0)&&(decide (qe_ b0 b1 n 0≤0)&&decide (0≤qe_ b0 b1 (-n) 0)))):=by
  rw [qmg h1 k0,qj4 h1 k0,qmg h3 k0,qj4 h3 k0]
  unfold qe8
  rw [Bool.and_assoc]
 rw [g,fin];unfold zlz
 refine qk0 ?_ fun _=>qk0 ?_ fun _=>qk0 ?_ fun _=>q0p ?_
 ·rw [qce,c i0 i1 p0 p1 h0 h1 kn k0,z];rfl
 ·rw [qce,c i0 i1 m0 m1 h0 h1 km k0,z];rfl
 ·rw [qce,c i2 i3 p0 p1 h2 h3 kn k0,z];rfl
 ·have e:(SE.cmp .geq (.app 82 0 (some .i64) (.cons (.ivar .i64 2) (.cons (.ivar .u64 3) (.cons (.app 80 0 (some .i64) (.cons (.bin .sub .i64 (.lit .i64 0) (.ivar .i64 4)) .nil)) (.cons (.app 80 1 (some .u64) (.cons (.bin .sub .i64 (.lit .i64 0) (.ivar .i64 4)) .nil)) .nil))))) (.lit .i64 0)).val (qaa (FT qbf) [a0,a1,b0,b1,n])=b2i (qa8 .geq ((SE.app 82 0 (some .i64) (.cons (.ivar .i64 2) (.cons (.ivar .u64 3) (.cons (.app 80 0 (some .i64) (.cons (.bin .sub .i64 (.lit .i64 0) (.ivar .i64 4)) .nil)) (.cons (.app 80 1 (some .u64) (.cons (.bin .sub .i64 (.lit .i64 0) (.ivar .i64 4)) .nil)) .nil))))).val (qaa (FT qbf) [a0,a1,b0,b1,n])) ((SE.lit .i64 0).val (qaa (FT qbf) [a0,a1,b0,b1,n]))):=by simp only [SE.val]
  rw [e,c i2 i3 m0 m1 h2 h3 km k0,z];rfl
theorem f85n (h0:inK (some .i64) a0) (h1:inK (some .u64) a1) (h2:inK (some .i64) b0) (h3:inK (some .u64) b1):FT qcv 84 [a0,a1,b0,b1]=[b2i (qe8 (nn a0 a1) 1073741824&&qe8 (nn b0 b1) 1073741824)]:=by
 have e:FT qgv 106=FT qe0 106:=qbt 1 (by kernel_rfl) (by kernel_rfl)
 rw [g85];unfold tr85
 refine q0p (qy7 ?_)
 simp only [qab,qad,qbz,List.getD_cons_zero,List.getD_cons_succ,w_i h0,w_u h1,w_i h2,w_u h3,qai]
 rw [e];exact yb6 h0 h1 h2 h3 ⟨by decide,by decide⟩
theorem f128n {c0 c1:Int} (h0:inK (some .i64) a0) (h1:inK (some .u64) a1) (h2:inK (some .i64) b0) (h3:inK (some .u64) b1) (h4:inK (some .i64) c0) (h5:inK (some .u64) c1):
  FT qgj 123 [a0,a1,b0,b1,c0,c1]=if (qV a0 a1 c0 c1).2=0 then (if (qV b0 b1 c0 c1).2=0 then [(qV a0 a1 c0 c1).1.hi,(qV a0 a1 c0 c1).1.lo,(qV b0 b1 c0 c1).1.hi,(qV b0 b1 c0 c1).1.lo,0] else [0,0,0,0,(qV b0 b1 c0 c1).2]) else [0,0,0,0,(qV a0 a1 c0 c1).2]:=by
 have g:FT qgj 123=qaf z3t (FT qcf):=qfb (Tb:=qgj) rfl rfl
 have e0:FT qcf 130=FT qsw 130:=qbt 22 (by kernel_rfl) (by kernel_rfl)
 have e1:FT qsw 130=qt1:=qfb (Tb:=qsw) rfl rfl
 have e139:=e0.trans e1
 have i0:(SE.ivar .i64 0).val (qaa (FT qcf) [a0,a1,b0,b1,c0,c1])=a0:=by rw [qbz];exact h0
 have i1:(SE.ivar .u64 1).val (qaa (FT qcf) [a0,a1,b0,b1,c0,c1])=a1:=by rw [qbz];exact h1
 have i2:(SE.ivar .i64 2).val (qaa (FT qcf) [a0,a1,b0,b1,c0,c1])=b0:=by rw [qbz];exact h2
 have i3:(SE.ivar .u64 3).val (qaa (FT qcf) [a0,a1,b0,b1,c0,c1])=b1:=by rw [qbz];exact h3
 have i4:(SE.ivar .i64 4).val (qaa (FT qcf) [a0,a1,b0,b1,c0,c1])=c0:=by rw [qbz];exact h4
 have i5:(SE.ivar .u64 5).val (qaa (FT qcf) [a0,a1,b0,b1,c0,c1])=c1:=by rw [qbz];exact h5
 have k0:=z3y a0 a1 c0 c1
 have k1:=z3y b0 b1 c0 c1
 have ke:=q4u a0 a1 c0 c1
 have kf:=q4u b0 b1 c0 c1
 have d1:qt1 [a0,a1,c0,c1]=[(qV a0 a1 c0 c1).1.hi,(qV a0 a1 c0 c1).1.lo,(qV a0 a1 c0 c1).2]:=q_eq a0 a1 c0 c1
 have d2:qt1 [b0,b1,c0,c1]=[(qV b0 b1 c0 c1).1.hi,(qV b0 b1 c0 c1).1.lo,(qV b0 b1 c0 c1).2]:=q_eq b0 b1 c0 c1
 generalize qV a0 a1 c0 c1=A at *
 generalize qV b0 b1 c0 c1=B at *
 have vA:(SE.cons (.ivar .i64 0) (.cons (.ivar .u64 1) (.cons (.ivar .i64 4) (.cons (.ivar .u64 5) .nil)))).vals (qaa (FT qcf) [a0,a1,b0,b1,c0,c1])=[a0,a1,c0,c1]:=by rw [qab,qab,qab,qab,qad,i0,i1,i4,i5]
 have vB:(SE.cons (.ivar .i64 2) (.cons (.ivar .u64 3) (.cons (.ivar .i64 4) (.cons (.ivar .u64 5) .nil)))).vals (qaa (FT qcf) [a0,a1,b0,b1,c0,c1])=[b0,b1,c0,c1]:=by rw [qab,qab,qab,qab,qad,i2,i3,i4,i5]
 have hfA:FT qcf 130 ((SE.cons (.ivar .i64 0) (.cons (.ivar .u64 1) (.cons (.ivar .i64 4) (.cons (.ivar .u64 5) .nil)))).vals (qaa (FT qcf) [a0,a1,b0,b1,c0,c1]))=[A.1.hi,A.1.lo,A.2]:=by rw [vA,e139,d1]
 have hfB:FT qcf 130 ((SE.cons (.ivar .i64 2) (.cons (.ivar .u64 3) (.cons (.ivar .i64 4) (.cons (.ivar .u64 5) .nil)))).vals (qaa (FT qcf) [a0,a1,b0,b1,c0,c1]))=[B.1.hi,B.1.lo,B.2]:=by rw [vB,e139,d2]
 have A0:=qfi (F:=FT qcf) (f:=130) (i:=0) (k:= .i64) (l:=[A.1.hi,A.1.lo,A.2]) (v:=A.1.hi) hfA (gd0 _ _ _) k0.1
 have A1:=qfi (F:=FT qcf) (f:=130) (i:=1) (k:= .u64) (l:=[A.1.hi,A.1.lo,A.2]) (v:=A.1.lo) hfA (gd1 _ _ _ _) k0.2
 have A2:=qfi (F:=FT qcf) (f:=130) (i:=2) (k:= .i64) (l:=[A.1.hi,A.1.lo,A.2]) (v:=A.2) hfA (gd2 _ _ _ _ _) ke
 have B0:=qfi (F:=FT qcf) (f:=130) (i:=0) (k:= .i64) (l:=[B.1.hi,B.1.lo,B.2]) (v:=B.1.hi) hfB (gd0 _ _ _) k1.1
 have B1:=qfi (F:=FT qcf) (f:=130) (i:=1) (k:= .u64) (l:=[B.1.hi,B.1.lo,B.2]) (v:=B.1.lo) hfB (gd1 _ _ _ _) k1.2
 have B2:=qfi (F:=FT qcf) (f:=130) (i:=2) (k:= .i64) (l:=[B.1.hi,B.1.lo,B.2]) (v:=B.2) hfB (gd2 _ _ _ _ _) kf
 have cn:∀(x:SE) (v:Int),x.val (qaa (FT qcf) [a0,a1,b0,b1,c0,c1])=v→((SE.cmp .neq x (.lit .i64 0)).val (qaa (FT qcf) [a0,a1,b0,b1,c0,c1]) !=0)=(v !=0):=fun x v hx=>by rw [qce,hx,qig];rfl
 rw [g];unfold z3t
 by_cases z1:A.2=0
 ·rw [if_pos z1,qmk (by rw [cn _ _ A2,z1];rfl)]
  by_cases z2:B.2=0
  ·rw [if_pos z2,qmk (by rw [cn _ _ B2,z2];rfl)]
   unfold qaf
   simp only [ST.get,qc0,qf8,List.map,qfn,List.cons_append,List.nil_append]
   rw [A0,A1,B0,B1]
  ·rw [if_neg z2,qnl (by rw [cn _ _ B2];exact bne_iff_ne.2 z2)]
   unfold qaf
   simp only [ST.get,qc0,qf8,List.map,qfn,List.cons_append,List.nil_append]
   rw [B2]
 ·rw [if_neg z1,qnl (by rw [cn _ _ A2];exact bne_iff_ne.2 z1)]
  unfold qaf
  simp only [ST.get,qc0,qf8,List.map,qfn,List.cons_append,List.nil_append]
  rw [A2]
end
def spV (a0 a1 b0 b1 c0 c1:Int):List Int:=if (qV a0 a1 c0 c1).2=0 then (if (qV b0 b1 c0 c1).2=0 then [(qV a0 a1 c0 c1).1.hi,(qV a0 a1 c0 c1).1.lo,(qV b0 b1 c0 c1).1.hi,(qV b0 b1 c0 c1).1.lo,0] else [0,0,0,0,(qV b0 b1 c0 c1).2]) else [0,0,0,0,(qV a0 a1 c0 c1).2]
theorem f128s {a0 a1 b0 b1 c0 c1:Int} (h0:inK (some .i64) a0) (h1:inK (some .u64) a1) (h2:inK (some .i64) b0) (h3:inK (some .u64) b1) (h4:inK (some .i64) c0) (h5:inK (some .u64) c1):
  FT qgj 123 [a0,a1,b0,b1,c0,c1]=spV a0 a1 b0 b1 c0 c1:=by unfold spV;exact f128n h0 h1 h2 h3 h4 h5
theorem zec (a0 a1 b0 b1 c0 c1:Int):∃r0 r1 r2 r3 r4,spV a0 a1 b0 b1 c0 c1=[r0,r1,r2,r3,r4]∧inK (some .i64) r0∧inK (some .u64) r1∧inK (some .i64) r2∧inK (some .u64) r3∧inK (some .i64) r4∧
  ((decide ((qV a0 a1 c0 c1).2=0)&&(decide ((qV b0 b1 c0 c1).2=0)&&(qe8 (qV a0 a1 c0 c1).1.n 65536&&qe8 (qV b0 b1 c0 c1).1.n 65536)))=if r4=0 then qe8 (nn r0 r1) 65536&&qe8 (nn r2 r3) 65536 else false):=by
 unfold spV
 have ka:=z3y a0 a1 c0 c1
 have kb:=z3y b0 b1 c0 c1
 have ea:=q4u a0 a1 c0 c1
 have eb:=q4u b0 b1 c0 c1
 generalize qV a0 a1 c0 c1=A at *
 generalize qV b0 b1 c0 c1=B at *
 have nA:A.1.n=nn A.1.hi A.1.lo:=rfl
 have nB:B.1.n=nn B.1.hi B.1.lo:=rfl
 by_cases z1:A.2=0
 ·rw [if_pos z1]
  by_cases z2:B.2=0
  ·rw [if_pos z2]
   refine ⟨_,_,_,_,_,rfl,ka.1,ka.2,kb.1,kb.2,rfl,?_⟩
   rw [if_pos rfl,decide_eq_true z1,decide_eq_true z2,nA,nB,Bool.true_and,Bool.true_and]
  ·rw [if_neg z2]
   refine ⟨_,_,_,_,_,rfl,rfl,rfl,rfl,rfl,eb,?_⟩
   rw [if_neg z2,decide_eq_false z2,Bool.false_and,Bool.and_false]
 ·rw [if_neg z1]
  refine ⟨_,_,_,_,_,rfl,rfl,rfl,rfl,rfl,ea,?_⟩
  rw [if_neg z1,decide_eq_false z1,Bool.false_and]
theorem qw4 (zs:List Int):qi_ zs=(decide ((qV (zs.getD 8 0) (zs.getD 9 0) (zs.getD 0 0) (zs.getD 1 0)).2=0)&&(decide ((qV (zs.getD 10 0) (zs.getD 11 0) (zs.getD 0 0) (zs.getD 1 0)).2=0)&&
 (qe8 (qV (zs.getD 8 0) (zs.getD 9 0) (zs.getD 0 0) (zs.getD 1 0)).1.n 65536&&qe8 (qV (zs.getD 10 0) (zs.getD 11 0) (zs.getD 0 0) (zs.getD 1 0)).1.n 65536))):=by unfold qi_;rfl
def oB:SE:= .cons (.ivar .i64 8) (.cons (.ivar .u64 9) (.cons (.ivar .i64 10) (.cons (.ivar .u64 11) (.cons (.ivar .i64 0) (.cons (.ivar .u64 1) .nil)))))
section
variable {zs:List Int} (h:zw1 zs)
include h
theorem oB_v {F:Nat→List Int→List Int}:oB.vals (qaa F zs)=[zs.getD 8 0,zs.getD 9 0,zs.getD 10 0,zs.getD 11 0,zs.getD 0 0,zs.getD 1 0]:=by
 unfold oB
 simp only [qab,qad]
 rw [qgy h 8 (by decide) rfl,qhn h 9 (by decide) rfl,qgy h 10 (by decide) rfl,qhn h 11 (by decide) rfl,qgy h 0 (by decide) rfl,qhn h 1 (by decide) rfl]
theorem f104n:FT qbf 105 zs=spV (zs.getD 8 0) (zs.getD 9 0) (zs.getD 10 0) (zs.getD 11 0) (zs.getD 0 0) (zs.getD 1 0):=by
 have g:FT qbf 105=qaf z0s (FT qgj):=qfb (Tb:=qbf) rfl rfl
 have hv:=f128s (bi h 8 (by decide) rfl) (bu h 9 (by decide) rfl) (bi h 10 (by decide) rfl) (bu h 11 (by decide) rfl) (bi h 0 (by decide) rfl) (bu h 1 (by decide) rfl)
 obtain ⟨r0,r1,r2,r3,r4,e,k0,k1,k2,k3,k4,_⟩:=zec (zs.getD 8 0) (zs.getD 9 0) (zs.getD 10 0) (zs.getD 11 0) (zs.getD 0 0) (zs.getD 1 0)
 rw [e] at hv
 have t:z0s= .leaf (.tup [.agg [.opq (.app 123 0 (some .i64) oB),.opq (.app 123 1 (some .u64) oB),.opq (.app 123 2 (some .i64) oB),.opq (.app 123 3 (some .u64) oB)],.one (.opq (.app 123 4 (some .i64) oB))]):=rfl
 rw [g,t,e]
 unfold qaf
 simp only [ST.get,qc0,qf8,List.map,qfn,List.cons_append,List.nil_append]
 have hf:FT qgj 123 (oB.vals (qaa (FT qgj) zs))=[r0,r1,r2,r3,r4]:=by rw [oB_v h,hv]
 rw [qfi (i:=0) hf rfl k0,qfi (i:=1) hf rfl k1,qfi (i:=2) hf rfl k2,qfi (i:=3) hf rfl k3,qfi (i:=4) hf rfl k4]
 rfl
theorem f84n:∃e,FT qgv 83 zs=[b2i (qi_ zs),e]∧inK (some .i64) e∧(qi_ zs=true→e=0):=by
 have g:FT qgv 83=qaf tr84 (FT qe0):=qfb (Tb:=qgv) rfl rfl
 have e104:FT qe0 105=FT qbf 105:=qbt 1 (by kernel_rfl) (by kernel_rfl)
 have hv:=f104n (zj_ h)
 obtain ⟨r0,r1,r2,r3,r4,e,k0,k1,k2,k3,k4,hs⟩:=zec (zs.getD 8 0) (zs.getD 9 0) (zs.getD 10 0) (zs.getD 11 0) (zs.getD 0 0) (zs.getD 1 0)
 have e8:(al zs).getD 8 0=zs.getD 8 0:=rfl
 have e9:(al zs).getD 9 0=zs.getD 9 0:=rfl
 have e10:(al zs).getD 10 0=zs.getD 10 0:=rfl
 have e11:(al zs).getD 11 0=zs.getD 11 0:=rfl
 have e0:(al zs).getD 0 0=zs.getD 0 0:=rfl
 have e1:(al zs).getD 1 0=zs.getD 1 0:=rfl
 rw [e8,e9,e10,e11,e0,e1,e] at hv
 rw [←qw4] at hs
 have hf:FT qe0 105 (aB.vals (qaa (FT qe0) zs))=[r0,r1,r2,r3,r4]:=by rw [z9v h,e104,hv]
 have t:tr84= .ask (.cmp .eql (.app 105 4 (some .i64) aB) (.lit .i64 0)) (.leaf (.tup [.one (.opq (.app 106 0 none (.cons (.app 105 0 (some .i64) aB) (.cons (.app 105 1 (some .u64) aB) (.cons (.app 105 2 (some .i64) aB) (.cons (.app 105 3 (some .u64) aB) (.cons (.lit .i64 65536) .nil))))))),.one (.opq (.app 105 4 (some .i64) aB))])) (.leaf (.tup [.one (.bool false),.one (.opq (.app 105 4 (some .i64) aB))])):=rfl
 have q:((SE.cmp .eql (.app 105 4 (some .i64) aB) (.lit .i64 0)).val (qaa (FT qe0) zs) !=0)=(r4==0):=by
  rw [qce,qfi (i:=4) hf rfl k4,qig];rfl
 rw [g,t,hs]
 by_cases z:r4=0
 ·subst z
  rw [if_pos rfl,qnl (by rw [q];rfl)]
  refine ⟨0,?_,rfl,fun _=>rfl⟩
  unfold qaf
  simp only [ST.get,qc0,qf8,List.map,qfn,List.cons_append,List.nil_append]
  have hb:(SE.app 106 0 none (.cons (.app 105 0 (some .i64) aB) (.cons (.app 105 1 (some .u64) aB) (.cons (.app 105 2 (some .i64) aB) (.cons (.app 105 3 (some .u64) aB) (.cons (.lit .i64 65536) .nil)))))).val (qaa (FT qe0) zs)=b2i (qe8 (nn r0 r1) 65536&&qe8 (nn r2 r3) 65536):=by
   refine qy7 ?_
   simp only [qab,qad]
   rw [qfi (i:=0) hf rfl k0,qfi (i:=1) hf rfl k1,qfi (i:=2) hf rfl k2,qfi (i:=3) hf rfl k3,qai]
   exact yb6 k0 k1 k2 k3 ⟨by decide,by decide⟩
  rw [qfi (i:=4) hf rfl k4,hb];rfl
 ·rw [if_neg z,qmk (by rw [q];exact beq_eq_false_iff_ne.2 z)]
  refine ⟨r4,?_,k4,fun h=>by cases h⟩
  unfold qaf
  simp only [ST.get,qc0,qf8,List.map,qfn,List.cons_append,List.nil_append]
  rw [qfi (i:=4) hf rfl k4];rfl
end
section
variable {zs:List Int} (h:zw1 zs)
include h
theorem f45n:FT qfl 43 zs=[b2i (zwy zs)]:=by
 have e76:FT qcv 75=FT qfs 75:=qbt 14 (by kernel_rfl) (by kernel_rfl)
 have e77:FT qcv 76=FT qfk 76:=qbt 17 (by kernel_rfl) (by kernel_rfl)
 have e83:FT qcv 82=FT qe9 82:=qbt 18 (by kernel_rfl) (by kernel_rfl)
 have e75:FT qcv 74=FT qgc 74:=qbt 16 (by kernel_rfl) (by kernel_rfl)
 have e51:FT qcv 49=FT qem 49:=qbt 15 (by kernel_rfl) (by kernel_rfl)
 have e84:FT qcv 83=FT qgv 83:=qbt 1 (by kernel_rfl) (by kernel_rfl)
 have k0:inK (some .i64) 0:=rfl
 have u0:inK (some .u64) 0:=rfl
 have ul:inK (some .u64) 281474976710656:=rfl
 have km:inK (some .i64) 1048576:=rfl
 obtain ⟨er,h84,ker,hes⟩:=f84n (zj_ h)
 rw [q54] at h84 hes
 have h84':FT qcv 83 (aB.vals (qaa (FT qcv) zs))=[b2i (qi_ zs),er]:=by rw [z9v h,e84];exact h84
 rw [g45];unfold yd4
 refine qx2 (qiz ?_) fun _=>qx2 (qiz ?_) fun _=>qx2 (qiz ?_) fun hm=>qx2 (qiz ?_) fun hf=> ?_
 ·simp only [qab,qad]
  rw [qgy h 4 (by decide) rfl,qhn h 5 (by decide) rfl,qgy h 6 (by decide) rfl,qhn h 7 (by decide) rfl,e76]
  exact f76 (bi h 4 (by decide) rfl) (bu h 5 (by decide) rfl) (bi h 6 (by decide) rfl) (bu h 7 (by decide) rfl)
 ·simp only [qab,qad]
  rw [qgy h 8 (by decide) rfl,qhn h 9 (by decide) rfl,qgy h 10 (by decide) rfl,qhn h 11 (by decide) rfl,e76]
  exact f76 (bi h 8 (by decide) rfl) (bu h 9 (by decide) rfl) (bi h 10 (by decide) rfl) (bu h 11 (by decide) rfl)
 ·simp only [qab,qad]
  rw [qgy h 0 (by decide) rfl,qhn h 1 (by decide) rfl,qai,qai,qai,qai,e77]
  exact f77n (bi h 0 (by decide) rfl) (bu h 1 (by decide) rfl) k0 ul km u0
 ·simp only [qab,qad]
  rw [qgy h 12 (by decide) rfl,qhn h 13 (by decide) rfl,qgy h 0 (by decide) rfl,qhn h 1 (by decide) rfl,qai,qai,e77]
  exact f77n (bi h 12 (by decide) rfl) (bu h 13 (by decide) rfl) k0 u0 (bi h 0 (by decide) rfl) (bu h 1 (by decide) rfl)
 ·have b1:=qtg (bu h 1 (by decide) rfl)
  have b13:=qtg (bu h 13 (by decide) rfl)
  unfold inF at hm hf
  simp only [Bool.and_eq_true,decide_eq_true_eq] at hm hf
  have p0:0≤zs.getD 0 0∧zs.getD 0 0<9223372036854775808:=by have:=hm.2;unfold nn at this;omega
  have p12:0≤zs.getD 12 0∧zs.getD 12 0<9223372036854775808:=by have h1:=hf.2;have h2:=hm.2;unfold nn at h1 h2;omega
  have h82:=f82p p0 (bu h 1 (by decide) rfl) p12 (bu h 13 (by decide) rfl)
  have ho:=qpy (nn (zs.getD 0 0) (zs.getD 1 0) - nn (zs.getD 12 0) (zs.getD 13 0))
  have hon:nn (Fx.of (nn (zs.getD 0 0) (zs.getD 1 0) - nn (zs.getD 12 0) (zs.getD 13 0))).hi (Fx.of (nn (zs.getD 0 0) (zs.getD 1 0) - nn (zs.getD 12 0) (zs.getD 13 0))).lo=nn (zs.getD 0 0) (zs.getD 1 0) - nn (zs.getD 12 0) (zs.getD 13 0):=
   Fx.of_n _ (by have h1:=hf.2;have h2:=hm.2;unfold nn at h1 h2 ⊢;omega)
  generalize Fx.of (nn (zs.getD 0 0) (zs.getD 1 0) - nn (zs.getD 12 0) (zs.getD 13 0))=D at *
  have v82:FT qcv 81 ((SE.cons (.ivar .i64 0) (.cons (.ivar .u64 1) (.cons (.ivar .i64 12) (.cons (.ivar .u64 13) .nil)))).vals (qaa (FT qcv) zs))=[D.hi,D.lo,0]:=by
   simp only [qab,qad]
   rw [qgy h 0 (by decide) rfl,qhn h 1 (by decide) rfl,qgy h 12 (by decide) rfl,qhn h 13 (by decide) rfl]
   exact h82
  rw [qmk (by rw [qce,qfi (i:=2) v82 (gd2 _ _ _ _ _) k0,qig];rfl)]
  refine qx2 ?_ fun _=>qx2 (qiz ?_) fun _=>qx2 (qiz ?_) fun _=>qx2 (qiz ?_) fun _=>qk0 (q:=qi_ zs) ?_ fun hs=> ?_
  ·rw [qce,qig,qfi (i:=0) (k:= .i64) (v:=qe_ D.hi D.lo 0 281474976710656) (l:=[qe_ D.hi D.lo 0 281474976710656]) (by
    rw [qab,qab,qab,qab,qad,qfi (i:=0) v82 (gd0 _ _ _) ho.1,qfi (i:=1) v82 (gd1 _ _ _ _) ho.2,qai,qai,e83]
    exact f83 ho.1 ho.2 k0 ul) rfl (qm3 _ _ _ _)]
   have hc4:=qj4 (a0:=D.hi) (b0:=0) ho.2 ul
   have e2:nn 0 281474976710656=281474976710656:=rfl
   rw [hon,e2] at hc4
   rw [←hc4]
   generalize qe_ D.hi D.lo 0 281474976710656=c
   show decide (c<0)= !decide (0≤c)
   by_cases hc:c<0
   ·rw [decide_eq_true hc,decide_eq_false (by omega)];rfl
   ·rw [decide_eq_false hc,decide_eq_true (by omega)];rfl
  ·simp only [qab,qad]
   rw [qgy h 2 (by decide) rfl,qhn h 3 (by decide) rfl,qai,e75]
   exact zpv (bi h 2 (by decide) rfl) (bu h 3 (by decide) rfl) ⟨by decide,by decide⟩
  ·simp only [qab,qad]
   rw [qgy h 14 (by decide) rfl,qhn h 15 (by decide) rfl,qai,e75]
   exact zpv (bi h 14 (by decide) rfl) (bu h 15 (by decide) rfl) ⟨by decide,by decide⟩
  ·simp only [qab,qad]
   rw [qgy h 16 (by decide) rfl,qhn h 17 (by decide) rfl,qai,e75]
   exact zpv (bi h 16 (by decide) rfl) (bu h 17 (by decide) rfl) ⟨by decide,by decide⟩
  ·show ((SE.app 83 0 none aB).val (qaa (FT qcv) zs) !=0)=qi_ zs
   rw [qgk,h84',List.getD_cons_zero,wrb,qas]
  ·refine Eq.trans (qnl (show ((SE.cmp .eql (.app 83 1 (some .i64) aB) (.lit .i64 0)).val (qaa (FT qcv) zs) !=0)=true from (by rw [qce,qfi (i:=1) h84' rfl ker,qig,hes hs];rfl))) ?_
   refine qk0 (qk2 ?_) fun _=>qk0 (qk2 ?_) fun _=>q0p (qy7 ?_)
   ·simp only [qab,qad]
    rw [qgy h 4 (by decide) rfl,qhn h 5 (by decide) rfl,qgy h 6 (by decide) rfl,qhn h 7 (by decide) rfl]
    exact f85n (bi h 4 (by decide) rfl) (bu h 5 (by decide) rfl) (bi h 6 (by decide) rfl) (bu h 7 (by decide) rfl)
   ·simp only [qab,qad]
    rw [qgy h 18 (by decide) rfl,qai,qai,e51]
    exact zhz (bi h 18 (by decide) rfl) k0 rfl
   ·simp only [qab,qad]
    rw [qgy h 19 (by decide) rfl,qai,qai,e51]
    exact zhz (bi h 19 (by decide) rfl) k0 rfl
end
section
variable {F:Nat→List Int→List Int} {zs:List Int} {x y:SE} {q r:Bool}
theorem ydz (hx:(x.val (qaa F zs) !=0)=q) (hy:y.val (qaa F zs)=b2i r):qaf (.ask x (.leaf (.one (.bool true))) (.leaf (.one (.opq y)))) F zs=[b2i (q||r)]:=by
 unfold qaf
 simp only [ST.get,hx]
 cases q with
 |true=>rfl
 |false=>simp only [cond_false,qc0,List.map,qfn,hy,Bool.false_or]
end
theorem ydf {n:Int} (h: -1152921504606846976≤n∧n≤1152921504606846976):FT qbv 33 [n]=[n,0]:=by
 rw [g22b]
 have w1:IntKind.i64.wrap n=n:=by rw [IntKind.wrap_i64];omega
 have w2:IntKind.i64.wrap (-9223372036854775807)= -9223372036854775807:=rfl
 simp only [qaf,z5z,ST.get,qc0,qfn,List.map,SE.val,qb0,List.getD_cons_zero,w1,w2,show decide ((-9223372036854775807:Int)>n)=false from decide_eq_false (by omega),cond_false]
section
variable {a0 a1 b0 b1:Int}
theorem f106 (h0:inK (some .i64) a0) (h1:inK (some .u64) a1) (h2:inK (some .i64) b0) (h3:inK (some .u64) b1):FT qc1 70 [a0,a1,b0,b1]=[qe_ a0 a1 b0 b1]:=by
 have g:FT qc1 70=qaf zvn (FT qef):=qfb (Tb:=qc1) rfl rfl
 have i0:(SE.ivar .i64 0).val (qaa (FT qef) [a0,a1,b0,b1])=a0:=by rw [qbz];exact h0
 have i1:(SE.ivar .u64 1).val (qaa (FT qef) [a0,a1,b0,b1])=a1:=by rw [qbz];exact h1
 have i2:(SE.ivar .i64 2).val (qaa (FT qef) [a0,a1,b0,b1])=b0:=by rw [qbz];exact h2
 have i3:(SE.ivar .u64 3).val (qaa (FT qef) [a0,a1,b0,b1])=b1:=by rw [qbz];exact h3
 have e1:((SE.cmp .lss (.ivar .i64 0) (.ivar .i64 2)).val (qaa (FT qef) [a0,a1,b0,b1]) !=0)=decide (a0<b0):=by rw [qce,i0,i2];rfl
 have e2:((SE.cmp .eql (.ivar .i64 0) (.ivar .i64 2)).val (qaa (FT qef) [a0,a1,b0,b1]) !=0)=(a0==b0):=by rw [qce,i0,i2];rfl
 have e3:((SE.cmp .lss (.ivar .u64 1) (.ivar .u64 3)).val (qaa (FT qef) [a0,a1,b0,b1]) !=0)=decide (a1<b1):=by rw [qce,i1,i3];rfl
 have e4:((SE.and (.cmp .eql (.ivar .i64 0) (.ivar .i64 2)) (.and (.cmp .eql (.ivar .u64 1) (.ivar .u64 3)) (.cmp .eql (.lit .i64 1) (.lit .i64 1)))).val (qaa (FT qef) [a0,a1,b0,b1]) !=0)=((a0==b0)&&((a1==b1)&&true)):=by
  rw [qlq,qlq,e2,qce,i1,i3,qce,qai];rfl
 have L1:a0<b0→qe_ a0 a1 b0 b1= -1:=fun c=>by unfold qe_ qlf;repeat' split;all_goals omega
 have L2:a0=b0→a1<b1→qe_ a0 a1 b0 b1= -1:=fun c d=>by unfold qe_ qlf;repeat' split;all_goals omega
 have L3:a0=b0→a1=b1→qe_ a0 a1 b0 b1=0:=fun c d=>by unfold qe_ qlf;repeat' split;all_goals omega
 have L4:a0=b0→b1<a1→qe_ a0 a1 b0 b1=1:=fun c d=>by unfold qe_ qlf;repeat' split;all_goals omega
 have L5:b0<a0→qe_ a0 a1 b0 b1=1:=fun c=>by unfold qe_ qlf;repeat' split;all_goals omega
 rw [g];unfold zvn
 by_cases c1:a0<b0
 ·rw [qnl (by rw [e1];exact decide_eq_true c1),L1 c1];rfl
 ·rw [qmk (by rw [e1];exact decide_eq_false c1)]
  by_cases c2:a0=b0
  ·rw [qnl (by rw [e2];exact beq_iff_eq.2 c2)]
   by_cases c3:a1<b1
   ·rw [qnl (by rw [e3];exact decide_eq_true c3),L2 c2 c3];rfl
   ·rw [qmk (by rw [e3];exact decide_eq_false c3)]
    by_cases c4:a1=b1
    ·rw [qnl (by rw [e4,beq_iff_eq.2 c2,beq_iff_eq.2 c4];rfl),L3 c2 c4];rfl
    ·rw [qmk (by rw [e4,beq_iff_eq.2 c2,beq_eq_false_iff_ne.2 c4];rfl),L4 c2 (by omega)];rfl
  ·rw [qmk (by rw [e2];exact beq_eq_false_iff_ne.2 c2),qmk (by rw [e4,beq_eq_false_iff_ne.2 c2];rfl),L5 (by omega)];rfl
theorem f89 (h0:inK (some .i64) a0) (h1:inK (some .u64) a1):FT qef 36 [a0,a1]=[b2i (qik a0 a1)]:=by
 have g:FT qef 36=qaf tr89 (FT qdt):=qfb (Tb:=qef) rfl rfl
 have i0:(SE.ivar .i64 0).val (qaa (FT qdt) [a0,a1])=a0:=by rw [qbz];exact h0
 have i1:(SE.ivar .u64 1).val (qaa (FT qdt) [a0,a1])=a1:=by rw [qbz];exact h1
 have wm:IntKind.i64.wrap (-9223372036854775808)= -9223372036854775808:=rfl
 have e:qik a0 a1=((a0 != -9223372036854775808)||(a1 !=0)):=by
  unfold qik;rw [Bool.not_and];rfl
 rw [g,e];unfold tr89
 refine ydz ?_ ?_
 ·rw [qce,i0,qai,wm];rfl
 ·have:(SE.cmp .neq (.ivar .u64 1) (.lit .u64 0)).val (qaa (FT qdt) [a0,a1])=b2i (qa8 .neq ((SE.ivar .u64 1).val (qaa (FT qdt) [a0,a1])) ((SE.lit .u64 0).val (qaa (FT qdt) [a0,a1]))):=by simp only [SE.val]
  rw [this,i1,qai,w0u];rfl
theorem f88 {l0 l1 m0 m1:Int} (h0:inK (some .i64) a0) (h1:inK (some .u64) a1) (h2:inK (some .i64) l0) (h3:inK (some .u64) l1) (h4:inK (some .i64) m0) (h5:inK (some .u64) m1):FT qgb 35 [a0,a1,l0,l1,m0,m1]=[b2i (inF a0 a1 (nn l0 l1) (nn m0 m1))]:=by
 have g:FT qgb 35=qaf tr88 (FT qc1):=qfb (Tb:=qgb) rfl rfl
 have e89:FT qc1 36=FT qef 36:=qbt 1 (by kernel_rfl) (by kernel_rfl)
 have i0:(SE.ivar .i64 0).val (qaa (FT qc1) [a0,a1,l0,l1,m0,m1])=a0:=by rw [qbz];exact h0
 have i1:(SE.ivar .u64 1).val (qaa (FT qc1) [a0,a1,l0,l1,m0,m1])=a1:=by rw [qbz];exact h1
 have i2:(SE.ivar .i64 2).val (qaa (FT qc1) [a0,a1,l0,l1,m0,m1])=l0:=by rw [qbz];exact h2
 have i3:(SE.ivar .u64 3).val (qaa (FT qc1) [a0,a1,l0,l1,m0,m1])=l1:=by rw [qbz];exact h3
 have i4:(SE.ivar .i64 4).val (qaa (FT qc1) [a0,a1,l0,l1,m0,m1])=m0:=by rw [qbz];exact h4
 have i5:(SE.ivar .u64 5).val (qaa (FT qc1) [a0,a1,l0,l1,m0,m1])=m1:=by rw [qbz];exact h5
 have c1:(SE.app 70 0 (some .i64) (.cons (.ivar .i64 0) (.cons (.ivar .u64 1) (.cons (.ivar .i64 2) (.cons (.ivar .u64 3) .nil))))).val (qaa (FT qc1) [a0,a1,l0,l1,m0,m1])=qe_ a0 a1 l0 l1:=qfi (l:=[qe_ a0 a1 l0 l1]) (by rw [qab,qab,qab,qab,qad,i0,i1,i2,i3];exact f106 h0 h1 h2 h3) rfl (qm3 _ _ _ _)
 have c2:(SE.app 70 0 (some .i64) (.cons (.ivar .i64 0) (.cons (.ivar .u64 1) (.cons (.ivar .i64 4) (.cons (.ivar .u64 5) .nil))))).val (qaa (FT qc1) [a0,a1,l0,l1,m0,m1])=qe_ a0 a1 m0 m1:=qfi (l:=[qe_ a0 a1 m0 m1]) (by rw [qab,qab,qab,qab,qad,i0,i1,i4,i5];exact f106 h0 h1 h4 h5) rfl (qm3 _ _ _ _)
 rw [g];unfold tr88 inF
 rw [←qj4 h1 h3,←qmg h1 h5]
 refine qk0 (qk2 ?_) fun _=>qk0 ?_ fun _=>q0p ?_
 ·rw [qab,qab,qad,i0,i1,e89];exact f89 h0 h1
 ·rw [qce,qig,c1];rfl
 ·have:(SE.cmp .leq (.app 70 0 (some .i64) (.cons (.ivar .i64 0) (.cons (.ivar .u64 1) (.cons (.ivar .i64 4) (.cons (.ivar .u64 5) .nil))))) (.lit .i64 0)).val (qaa (FT qc1) [a0,a1,l0,l1,m0,m1])=b2i (qa8 .leq ((SE.app 70 0 (some .i64) (.cons (.ivar .i64 0) (.cons (.ivar .u64 1) (.cons (.ivar .i64 4) (.cons (.ivar .u64 5) .nil))))).val (qaa (FT qc1) [a0,a1,l0,l1,m0,m1])) ((SE.lit .i64 0).val (qaa (FT qc1) [a0,a1,l0,l1,m0,m1]))):=by simp only [SE.val]
  rw [this,qig,c2];rfl
theorem f54 {n:Int} (h0:inK (some .i64) a0) (h1:inK (some .u64) a1) (h:0≤n∧n≤1152921504606846976):FT qf4 18 [a0,a1,n]=[b2i (inF a0 a1 0 (nn n 0))]:=by
 have g:FT qf4 18=qaf tr54 (FT qgb):=qfb (Tb:=qf4) rfl rfl
 have e22:FT qgb 33=FT qbv 33:=qbt 50 (by kernel_rfl) (by kernel_rfl)
 have kn:inK (some .i64) n:=by show IntKind.i64.wrap n=n;rw [IntKind.wrap_i64];omega
 have i2:(SE.ivar .i64 2).val (qaa (FT qgb) [a0,a1,n])=n:=by rw [qbz];exact kn
 have v22:FT qgb 33 ((SE.cons (.ivar .i64 2) .nil).vals (qaa (FT qgb) [a0,a1,n]))=[n,0]:=by rw [qab,qad,i2,e22,ydf ⟨by omega,h.2⟩]
 have q0:=qfi (i:=0) (k:= .i64) v22 (gd0 _ _ _) kn
 have q1:=qfi (i:=1) (k:= .u64) (v:=0) v22 (gd1 _ _ _ _) rfl
 rw [g];unfold tr54
 refine q0p (qy7 ?_)
 simp only [qab,qad]
 rw [q0,q1,qai,qai,qbz,qbz]
 simp only [List.getD_cons_zero,List.getD_cons_succ,w_i h0,w_u h1]
 exact f88 h0 h1 rfl rfl kn rfl
theorem f55 (h0:inK (some .i64) a0) (h1:inK (some .u64) a1) (h2:inK (some .i64) b0) (h3:inK (some .u64) b1):FT qej 19 [a0,a1,b0,b1]=[b2i (qik a0 a1&&qik b0 b1)]:=by
 have g:FT qej 19=qaf tr55 (FT qf4):=qfb (Tb:=qej) rfl rfl
 have e:FT qf4 36=FT qef 36:=qbt 3 (by kernel_rfl) (by kernel_rfl)
 rw [g];unfold tr55
 refine qk0 (qk2 ?_) fun _=>q0p (qy7 ?_)
 ·simp only [qab,qad,qbz,List.getD_cons_zero,List.getD_cons_succ,w_i h0,w_u h1];rw [e];exact f89 h0 h1
 ·simp only [qab,qad,qbz,List.getD_cons_zero,List.getD_cons_succ,w_i h2,w_u h3];rw [e];exact f89 h2 h3
theorem f53 {c:Int} (h0:inK (some .i64) a0) (h1:inK (some .i64) b0) (h2:inK (some .i64) c):FT qdt 17 [a0,b0,c]=[b2i (decide (b0≤a0)&&decide (a0≤c))]:=by
 have g:FT qdt 17=qaf tr53 (FT qwk):=qfb (Tb:=qdt) rfl rfl
 rw [g];unfold tr53
 refine qk0 ?_ fun _=>q0p ?_
 ·rw [qce,qbz,qbz];simp only [List.getD_cons_zero,List.getD_cons_succ,w_i h0,w_i h1,qa8]
 ·simp only [SE.val,qb0,List.getD_cons_zero,List.getD_cons_succ,w_i h0,w_i h2,qa8]
theorem f131 {n:Int} (h0:inK (some .i64) a0) (h1:inK (some .u64) a1) (hn:0≤n∧n≤1152921504606846976):FT qdk 96 [a0,a1,n]=[b2i (!qe8 (nn a0 a1) n)]:=by
 have g:FT qdk 96=qaf zw5 (FT qcb):=qfb (Tb:=qdk) rfl rfl
 have e22:FT qcb 33=FT qbv 33:=qbt 57 (by kernel_rfl) (by kernel_rfl)
 have e106:FT qcb 70=FT qc1 70:=qbt 8 (by kernel_rfl) (by kernel_rfl)
 have kn:inK (some .i64) n:=by show IntKind.i64.wrap n=n;rw [IntKind.wrap_i64];omega
 have km:inK (some .i64) (-n):=by show IntKind.i64.wrap (-n)= -n;rw [IntKind.wrap_i64];omega
 have k0:inK (some .u64) 0:=rfl
 have i0:(SE.ivar .i64 0).val (qaa (FT qcb) [a0,a1,n])=a0:=by rw [qbz];exact h0
 have i1:(SE.ivar .u64 1).val (qaa (FT qcb) [a0,a1,n])=a1:=by rw [qbz];exact h1
 have i4:(SE.ivar .i64 2).val (qaa (FT qcb) [a0,a1,n])=n:=by rw [qbz];exact kn
 have im:(SE.bin .sub .i64 (.lit .i64 0) (.ivar .i64 2)).val (qaa (FT qcb) [a0,a1,n])= -n:=by
  rw [qe7,qai,i4]
  show IntKind.i64.wrap (0 - n)= -n
  rw [IntKind.wrap_i64];omega
 have p0:(SE.app 33 0 (some .i64) (.cons (.ivar .i64 2) .nil)).val (qaa (FT qcb) [a0,a1,n])=n:=qfi (l:=[n,0]) (by rw [qab,qad,i4,e22,ydf ⟨by omega,hn.2⟩]) rfl kn
 have p1:(SE.app 33 1 (some .u64) (.cons (.ivar .i64 2) .nil)).val (qaa (FT qcb) [a0,a1,n])=0:=qfi (l:=[n,0]) (by rw [qab,qad,i4,e22,ydf ⟨by omega,hn.2⟩]) rfl k0
 have m0:(SE.app 33 0 (some .i64) (.cons (.bin .sub .i64 (.lit .i64 0) (.ivar .i64 2)) .nil)).val (qaa (FT qcb) [a0,a1,n])= -n:=qfi (l:=[-n,0]) (by rw [qab,qad,im,e22,ydf ⟨by omega,by omega⟩]) rfl km
 have m1:(SE.app 33 1 (some .u64) (.cons (.bin .sub .i64 (.lit .i64 0) (.ivar .i64 2)) .nil)).val (qaa (FT qcb) [a0,a1,n])=0:=qfi (l:=[-n,0]) (by rw [qab,qad,im,e22,ydf ⟨by omega,by omega⟩]) rfl k0
 have c:∀{x y s t:SE} {u0 u1 w0 w1:Int},x.val (qaa (FT qcb) [a0,a1,n])=u0→y.val (qaa (FT qcb) [a0,a1,n])=u1→s.val (qaa (FT qcb) [a0,a1,n])=w0→t.val (qaa (FT qcb) [a0,a1,n])=w1→inK (some .i64) u0→inK (some .u64) u1→inK (some .i64) w0→inK (some .u64) w1→(SE.app 70 0 (some .i64) (.cons x (.cons y (.cons s (.cons t .nil))))).val (qaa (FT qcb) [a0,a1,n])=qe_ u0 u1 w0 w1:=by
  intro x y s t u0 u1 w0 w1 hx hy hs ht k1 k2 k3 k4
  exact qfi (l:=[qe_ u0 u1 w0 w1]) (by rw [qab,qab,qab,qab,qad,hx,hy,hs,ht,e106,f106 k1 k2 k3 k4]) rfl (qm3 _ _ _ _)
 have fin:(!qe8 (nn a0 a1) n)=(decide (qe_ a0 a1 n 0>0)||decide (qe_ a0 a1 (-n) 0<0)):=by
  unfold qe8
  rw [←qmg (a0:=a0) (b0:=n) h1 k0,←qj4 (a0:=a0) (b0:= -n) h1 k0,Bool.not_and]
  congr 1
  ·by_cases q:qe_ a0 a1 n 0≤0
   ·rw [decide_eq_true q,decide_eq_false (show ¬qe_ a0 a1 n 0>0 by omega)];rfl
   ·rw [decide_eq_false q,decide_eq_true (show qe_ a0 a1 n 0>0 by omega)];rfl
  ·by_cases q:0≤qe_ a0 a1 (-n) 0
   ·rw [decide_eq_true q,decide_eq_false (show ¬qe_ a0 a1 (-n) 0<0 by omega)];rfl
   ·rw [decide_eq_false q,decide_eq_true (show qe_ a0 a1 (-n) 0<0 by omega)];rfl
 rw [g,fin];unfold zw5
 refine ydz ?_ ?_
 ·rw [qce,c i0 i1 p0 p1 h0 h1 kn k0,qig];rfl
 ·have e:∀A:SE,(SE.cmp .lss A (.lit .i64 0)).val (qaa (FT qcb) [a0,a1,n])=b2i (qa8 .lss (A.val (qaa (FT qcb) [a0,a1,n])) ((SE.lit .i64 0).val (qaa (FT qcb) [a0,a1,n]))):=fun A=>by simp only [SE.val]
  rw [e,c i0 i1 m0 m1 h0 h1 km k0,qig];rfl
theorem f109 (h0:inK (some .i64) a0) (h1:inK (some .u64) a1) (h2:inK (some .i64) b0) (h3:inK (some .u64) b1):FT qdj 73 [a0,a1,b0,b1]=[b2i (qe8 (nn a0 a1) 1073741824&&qe8 (nn b0 b1) 1073741824)]:=by
 have g:FT qdj 73=qaf zxe (FT qd4):=qfb (Tb:=qdj) rfl rfl
 have e:FT qd4 96=FT qdk 96:=qbt 2 (by kernel_rfl) (by kernel_rfl)
 have r1:FT qd4 96 ((SE.cons (.ivar .i64 0) (.cons (.ivar .u64 1) (.cons (.lit .i64 1073741824) .nil))).vals (qaa (FT qd4) [a0,a1,b0,b1]))=[b2i (!qe8 (nn a0 a1) 1073741824)]:=by
  simp only [qab,qad,qbz,List.getD_cons_zero,List.getD_cons_succ,w_i h0,w_u h1,qai];rw [e];exact f131 h0 h1 ⟨by decide,by decide⟩
 have r2:FT qd4 96 ((SE.cons (.ivar .i64 2) (.cons (.ivar .u64 3) (.cons (.lit .i64 1073741824) .nil))).vals (qaa (FT qd4) [a0,a1,b0,b1]))=[b2i (!qe8 (nn b0 b1) 1073741824)]:=by
  simp only [qab,qad,qbz,List.getD_cons_zero,List.getD_cons_succ,w_i h2,w_u h3,qai];rw [e];exact f131 h2 h3 ⟨by decide,by decide⟩
 rw [g];unfold zxe
 refine qk0 ?_ fun _=>q0p ?_
 ·rw [qiz r1,Bool.not_not]
 ·have:∀A:SE,(SE.not A).val (qaa (FT qd4) [a0,a1,b0,b1])=b2i (!(A.val (qaa (FT qd4) [a0,a1,b0,b1]) !=0)):=fun A=>by simp only [SE.val]
  rw [this,qy7 r2,qas,Bool.not_not]
end
section
variable {a0 a1 b0 b1:Int}
theorem ziu (a b:Nat):((qbc a b:Nat):Int)=nn a b:=by unfold qbc nn;omega
theorem f73p (h0:0≤a0∧a0<9223372036854775808) (h1:inK (some .u64) a1):FT qkv 98 [a0,a1]=[(Fx.of (-(nn a0 a1))).hi,(Fx.of (-(nn a0 a1))).lo]:=by
 have g:FT qkv 98=qaf tr73 (FT qej):=qfb (Tb:=qkv) rfl rfl
 have e36:FT qej 114=FT qdv 114:=qbt 9 (by kernel_rfl) (by kernel_rfl)
 have b1:=qtg h1
 obtain ⟨n0,rfl⟩:=Int.eq_ofNat_of_zero_le h0.1
 obtain ⟨n1,rfl⟩:=Int.eq_ofNat_of_zero_le b1.1
 have hk:inK (some .i64) (n0:Int):=by show IntKind.i64.wrap _=_;rw [IntKind.wrap_i64];omega
 have hu:IntKind.u64.wrap (n0:Int)=(n0:Int):=by rw [IntKind.wrap_u64];omega
 have hv:=f36 0 0 n0 n1 (by decide) (by decide) (by omega) (by omega)
 have z2:qbc 0 0=0:=by unfold qbc;rw [Nat.zero_mul]
 rw [z2] at hv
 have hlt:qbc n0 n1<340282366920938463463374607431768211456:=by unfold qbc;omega
 have eb:=ziu n0 n1
 have ob:=q31 (z:= -(nn n0 n1)) (T:=Two.of (0+340282366920938463463374607431768211456 - qbc n0 n1)) (by
  rw [Two.of_n,←eb]
  generalize qbc n0 n1=V at *
  by_cases c:V=0
  ·exact ⟨0,by omega⟩
  ·exact ⟨1,by omega⟩)
 have ho:=qpy (-(nn n0 n1))
 rw [←ob.1,←ob.2]
 have w1:=qg0 1 (0+340282366920938463463374607431768211456 - qbc n0 n1)
 have w0:=qg0 0 (0+340282366920938463463374607431768211456 - qbc n0 n1)
 have t1:(Two.of (0+340282366920938463463374607431768211456 - qbc n0 n1)).hi=((wrd 1 (0+340282366920938463463374607431768211456 - qbc n0 n1):Nat):Int):=rfl
 have t0:(Two.of (0+340282366920938463463374607431768211456 - qbc n0 n1)).lo=((wrd 0 (0+340282366920938463463374607431768211456 - qbc n0 n1):Nat):Int):=rfl
 rw [t1,t0]
 clear ob t1 t0 eb hlt ho
 generalize wrd 1 (0+340282366920938463463374607431768211456 - qbc n0 n1)=W1 at *
 generalize wrd 0 (0+340282366920938463463374607431768211456 - qbc n0 n1)=W0 at *
 generalize decide (0<qbc n0 n1)=bb at *
 have hf:FT qej 114 ((SE.cons (.lit .u64 0) (.cons (.lit .u64 0) (.cons (.conv .u64 (.ivar .i64 0)) (.cons (.ivar .u64 1) .nil)))).vals (qaa (FT qej) [(n0:Int),(n1:Int)]))=[(W1:Int),(W0:Int),b2i bb]:=by
  have cv:(SE.conv .u64 (.ivar .i64 0)).val (qaa (FT qej) [(n0:Int),(n1:Int)])=(n0:Int):=by
   have:(SE.conv .u64 (.ivar .i64 0)).val (qaa (FT qej) [(n0:Int),(n1:Int)])=IntKind.u64.wrap ((SE.ivar .i64 0).val (qaa (FT qej) [(n0:Int),(n1:Int)])):=by simp only [SE.val]
   rw [this,qbz,List.getD_cons_zero,w_i hk,hu]
  rw [qab,qab,qab,qab,qad,cv,qai,w0u,qbz,List.getD_cons_succ,List.getD_cons_zero,w_u h1,e36]
  exact hv
 have k1:inK (some .u64) (W1:Int):=ql_ w1
 have k0:inK (some .u64) (W0:Int):=ql_ w0
 rw [g]
 unfold qaf
 simp only [tr73,ST.get,qc0,List.map,qfn]
 have cv:∀x:SE,(SE.conv .i64 x).val (qaa (FT qej) [(n0:Int),(n1:Int)])=IntKind.i64.wrap (x.val (qaa (FT qej) [(n0:Int),(n1:Int)])):=fun x=>by simp only [SE.val]
 rw [cv,qfi (i:=0) hf (gd0 _ _ _) k1,qfi (i:=1) hf (gd1 _ _ _ _) k0]
theorem fx_ne {z:Int} (h: -170141183460469231731687303715884105728<z∧z<170141183460469231731687303715884105728):(Fx.of z).n≠-170141183460469231731687303715884105728:=by
 rw [Fx.of_n z (by omega)];omega
theorem f108p (h0:0≤a0∧a0<9223372036854775808) (h1:inK (some .u64) a1) (h2:0≤b0∧b0<9223372036854775808) (h3:inK (some .u64) b1):FT qd4 72 [a0,a1,b0,b1]=[(Fx.of (nn a0 a1 - nn b0 b1)).hi,(Fx.of (nn a0 a1 - nn b0 b1)).lo,0]:=by
 have g:FT qd4 72=qaf zwc (FT qd3):=qfb (Tb:=qd4) rfl rfl
 have e73:FT qd3 98=FT qkv 98:=qbt 6 (by kernel_rfl) (by kernel_rfl)
 have e19:FT qd3 97=q4m:=by
  have a:FT qd3 97=FT q4r 97:=qbt 65 (by kernel_rfl) (by kernel_rfl)
  have b:FT q4r 97=q4m:=by kernel_rfl
  exact a.trans b
 have ka:inK (some .i64) a0:=by show IntKind.i64.wrap a0=a0;rw [IntKind.wrap_i64];omega
 have kb:inK (some .i64) b0:=by show IntKind.i64.wrap b0=b0;rw [IntKind.wrap_i64];omega
 have u1:=qtg h1
 have u3:=qtg h3
 have ho:=qpy (-(nn b0 b1))
 have hp:=qpy (nn a0 a1 - nn b0 b1)
 have hs:q4m [a0,a1,(Fx.of (-(nn b0 b1))).hi,(Fx.of (-(nn b0 b1))).lo]=[(Fx.of (nn a0 a1 - nn b0 b1)).hi,(Fx.of (nn a0 a1 - nn b0 b1)).lo,0]:=by
  have hr: -170141183460469231731687303715884105728< -(nn b0 b1)∧-(nn b0 b1)<170141183460469231731687303715884105728:=by unfold nn;omega
  have e1:(fxW a0 a1).n=nn a0 a1:=qto ka h1
  have e2:(Fx.of (-(nn b0 b1))).n= -(nn b0 b1):=Fx.of_n _ (by omega)
  have n1:(fxW a0 a1).n≠-170141183460469231731687303715884105728:=by rw [e1];unfold nn;omega
  have hf:=qp9 (fxW a0 a1) (Fx.of (-(nn b0 b1))) (by rw [e1,e2];unfold nn;omega)
  rw [e1,e2,←Int.sub_eq_add_neg,←zx8 _ _ n1 (fx_ne hr)] at hf
  unfold q4m
  simp only [List.getD_cons_zero,List.getD_cons_succ]
  rw [zn3 (by omega),hf]
 have v73:=f73p h2 h3
 generalize Fx.of (nn a0 a1 - nn b0 b1)=D at *
 generalize Fx.of (-(nn b0 b1))=E at *
 have hE:FT qd3 98 ((SE.cons (.ivar .i64 2) (.cons (.ivar .u64 3) .nil)).vals (qaa (FT qd3) [a0,a1,b0,b1]))=[E.hi,E.lo]:=by
  rw [qab,qab,qad,qbz,qbz]
  simp only [List.getD_cons_zero,List.getD_cons_succ,w_i kb,w_u h3]
  rw [e73,v73]
 have gdE:[E.hi,E.lo].getD 1 0=E.lo:=by rw [List.getD_cons_succ,List.getD_cons_zero]
 have hD:FT qd3 97 ((SE.cons (.ivar .i64 0) (.cons (.ivar .u64 1) (.cons (.app 98 0 (some .i64) (.cons (.ivar .i64 2) (.cons (.ivar .u64 3) .nil))) (.cons (.app 98 1 (some .u64) (.cons (.ivar .i64 2) (.cons (.ivar .u64 3) .nil))) .nil)))).vals (qaa (FT qd3) [a0,a1,b0,b1]))=[D.hi,D.lo,0]:=by
  rw [qab,qab,qab,qab,qad,qfi (i:=0) hE (gd0 _ _ _) ho.1,qfi (i:=1) hE gdE ho.2,qbz,qbz]
  simp only [List.getD_cons_zero,List.getD_cons_succ,w_i ka,w_u h1]
  rw [e19,hs]
 rw [g]
 unfold qaf
 simp only [zwc,ST.get,qc0,List.map,qfn]
 rw [qfi (i:=0) hD (gd0 _ _ _) hp.1,qfi (i:=1) hD (gd1 _ _ _ _) hp.2,qfi (i:=2) (k:= .i64) hD (gd2 _ _ _ _ _) rfl]
end
section
variable {zs:List Int} (h:zw1 zs)
include h
theorem f130n (hm:0≤nn (zs.getD 0 0) (zs.getD 1 0)∧nn (zs.getD 0 0) (zs.getD 1 0)<170141183460469231731687303715884105728):FT qcb 95 zs=spV (zs.getD 8 0) (zs.getD 9 0) (zs.getD 10 0) (zs.getD 11 0) (zs.getD 0 0) (zs.getD 1 0):=by
 have g:FT qcb 95=qaf zug (FT qgr):=qfb (Tb:=qcb) rfl rfl
 have e140:FT qgr 109=qx7:=by
  have a:FT qgr 109=FT qwk 109:=qbt 10 (by kernel_rfl) (by kernel_rfl)
  have b:FT qwk 109=qx7:=qfb (Tb:=qwk) rfl rfl
  exact a.trans b
 have hmag:(fxW (zs.getD 0 0) (zs.getD 1 0)).mag.n<170141183460469231731687303715884105728:=by
  rw [Fx.mag_n,qto (bi h 0 (by decide) rfl) (bu h 1 (by decide) rfl)]
  unfold nn at hm;omega
 have rq:∀x y:Int,qx7 [x,y,zs.getD 0 0,zs.getD 1 0]=[(qV x y (zs.getD 0 0) (zs.getD 1 0)).1.hi,(qV x y (zs.getD 0 0) (zs.getD 1 0)).1.lo,(qV x y (zs.getD 0 0) (zs.getD 1 0)).2]:=fun x y=>by
  unfold qV
  rw [←zs6 _ _ hmag]
  exact q38 x y _ _
 have d1:=rq (zs.getD 8 0) (zs.getD 9 0)
 have d2:=rq (zs.getD 10 0) (zs.getD 11 0)
 have k0:=z3y (zs.getD 8 0) (zs.getD 9 0) (zs.getD 0 0) (zs.getD 1 0)
 have k1:=z3y (zs.getD 10 0) (zs.getD 11 0) (zs.getD 0 0) (zs.getD 1 0)
 have ke:=q4u (zs.getD 8 0) (zs.getD 9 0) (zs.getD 0 0) (zs.getD 1 0)
 have kf:=q4u (zs.getD 10 0) (zs.getD 11 0) (zs.getD 0 0) (zs.getD 1 0)
 unfold spV
 clear rq hmag
 generalize qV (zs.getD 8 0) (zs.getD 9 0) (zs.getD 0 0) (zs.getD 1 0)=A at *
 generalize qV (zs.getD 10 0) (zs.getD 11 0) (zs.getD 0 0) (zs.getD 1 0)=B at *
 have hfA:FT qgr 109 ((SE.cons (.ivar .i64 8) (.cons (.ivar .u64 9) (.cons (.ivar .i64 0) (.cons (.ivar .u64 1) .nil)))).vals (qaa (FT qgr) zs))=[A.1.hi,A.1.lo,A.2]:=by
  rw [qab,qab,qab,qab,qad,qgy h 8 (by decide) rfl,qhn h 9 (by decide) rfl,qgy h 0 (by decide) rfl,qhn h 1 (by decide) rfl,e140,d1]
 have hfB:FT qgr 109 ((SE.cons (.ivar .i64 10) (.cons (.ivar .u64 11) (.cons (.ivar .i64 0) (.cons (.ivar .u64 1) .nil)))).vals (qaa (FT qgr) zs))=[B.1.hi,B.1.lo,B.2]:=by
  rw [qab,qab,qab,qab,qad,qgy h 10 (by decide) rfl,qhn h 11 (by decide) rfl,qgy h 0 (by decide) rfl,qhn h 1 (by decide) rfl,e140,d2]
 have A0:=qfi (i:=0) hfA (gd0 _ _ _) k0.1
 have A1:=qfi (i:=1) hfA (gd1 _ _ _ _) k0.2
 have A2:=qfi (i:=2) hfA (gd2 _ _ _ _ _) ke
 have B0:=qfi (i:=0) hfB (gd0 _ _ _) k1.1
 have B1:=qfi (i:=1) hfB (gd1 _ _ _ _) k1.2
 have B2:=qfi (i:=2) hfB (gd2 _ _ _ _ _) kf
 have cn:∀(x:SE) (v:Int),x.val (qaa (FT qgr) zs)=v→((SE.cmp .neq x (.lit .i64 0)).val (qaa (FT qgr) zs) !=0)=(v !=0):=fun x v hx=>by rw [qce,hx,qig];rfl
 rw [g];unfold zug
 by_cases z1:A.2=0
 ·rw [if_pos z1,qmk (by rw [cn _ _ A2,z1];rfl)]
  by_cases z2:B.2=0
  ·rw [if_pos z2,qmk (by rw [cn _ _ B2,z2];rfl)]
   unfold qaf
   simp only [ST.get,qc0,List.map,qfn]
   rw [A0,A1,B0,B1]
  ·rw [if_neg z2,qnl (by rw [cn _ _ B2];exact bne_iff_ne.2 z2)]
   unfold qaf
   simp only [ST.get,qc0,List.map,qfn]
   rw [B2]
 ·rw [if_neg z1,qnl (by rw [cn _ _ A2];exact bne_iff_ne.2 z1)]
  unfold qaf
  simp only [ST.get,qc0,List.map,qfn]
  rw [A2]
theorem f107n (hm:0≤nn (zs.getD 0 0) (zs.getD 1 0)∧nn (zs.getD 0 0) (zs.getD 1 0)<170141183460469231731687303715884105728):∃e,FT qd3 71 zs=[b2i (qi_ zs),e]:=by
 have g:FT qd3 71=qaf zxj (FT qdk):=qfb (Tb:=qd3) rfl rfl
 have e130:FT qdk 95=FT qcb 95:=qbt 1 (by kernel_rfl) (by kernel_rfl)
 have a8:(al zs).getD 8 0=zs.getD 8 0:=rfl
 have a9:(al zs).getD 9 0=zs.getD 9 0:=rfl
 have a10:(al zs).getD 10 0=zs.getD 10 0:=rfl
 have a11:(al zs).getD 11 0=zs.getD 11 0:=rfl
 have a0:(al zs).getD 0 0=zs.getD 0 0:=rfl
 have a1:(al zs).getD 1 0=zs.getD 1 0:=rfl
 have hv:=f130n (zj_ h) (by rw [a0,a1];exact hm)
 obtain ⟨r0,r1,r2,r3,r4,e,k0,k1,k2,k3,k4,hs⟩:=zec (zs.getD 8 0) (zs.getD 9 0) (zs.getD 10 0) (zs.getD 11 0) (zs.getD 0 0) (zs.getD 1 0)
 rw [a8,a9,a10,a11,a0,a1,e] at hv
 rw [←qw4] at hs
 have hf:FT qdk 95 (aB.vals (qaa (FT qdk) zs))=[r0,r1,r2,r3,r4]:=by rw [z9v h,e130,hv]
 have t:zxj= .ask (.cmp .neq (.app 95 4 (some .i64) aB) (.lit .i64 0)) (.leaf (.agg [.bool false,.opq (.app 95 4 (some .i64) aB)])) (.ask (.not (.app 96 0 none (.cons (.app 95 0 (some .i64) aB) (.cons (.app 95 1 (some .u64) aB) (.cons (.lit .i64 65536) .nil))))) (.leaf (.agg [.opq (.not (.app 96 0 none (.cons (.app 95 2 (some .i64) aB) (.cons (.app 95 3 (some .u64) aB) (.cons (.lit .i64 65536) .nil))))),.int .i64 0])) (.leaf (.agg [.bool false,.int .i64 0]))):=rfl
 have q:((SE.cmp .neq (.app 95 4 (some .i64) aB) (.lit .i64 0)).val (qaa (FT qdk) zs) !=0)=(r4 !=0):=by
  rw [qce,qfi (i:=4) hf rfl k4,qig];rfl
 have b1:FT qdk 96 ((SE.cons (.app 95 0 (some .i64) aB) (.cons (.app 95 1 (some .u64) aB) (.cons (.lit .i64 65536) .nil))).vals (qaa (FT qdk) zs))=[b2i (!qe8 (nn r0 r1) 65536)]:=by
  rw [qab,qab,qab,qad,qfi (i:=0) hf rfl k0,qfi (i:=1) hf rfl k1,qai]
  exact f131 k0 k1 ⟨by decide,by decide⟩
 have b2:FT qdk 96 ((SE.cons (.app 95 2 (some .i64) aB) (.cons (.app 95 3 (some .u64) aB) (.cons (.lit .i64 65536) .nil))).vals (qaa (FT qdk) zs))=[b2i (!qe8 (nn r2 r3) 65536)]:=by
  rw [qab,qab,qab,qad,qfi (i:=2) hf rfl k2,qfi (i:=3) hf rfl k3,qai]
  exact f131 k2 k3 ⟨by decide,by decide⟩
 have nt:(SE.not (.app 96 0 none (.cons (.app 95 2 (some .i64) aB) (.cons (.app 95 3 (some .u64) aB) (.cons (.lit .i64 65536) .nil))))).val (qaa (FT qdk) zs)=b2i (qe8 (nn r2 r3) 65536):=by
  have:∀A:SE,(SE.not A).val (qaa (FT qdk) zs)=b2i (!(A.val (qaa (FT qdk) zs) !=0)):=fun A=>by simp only [SE.val]
  rw [this,qy7 b2,qas,Bool.not_not]
 rw [g,t,hs]
 by_cases z:r4=0
 ·subst z
  rw [if_pos rfl,qmk (by rw [q];rfl)]
  cases hn:qe8 (nn r0 r1) 65536 with
  |true=>
   rw [qnl (by rw [qiz b1,hn];rfl)]
   refine ⟨0,?_⟩
   unfold qaf
   simp only [ST.get,qc0,List.map,qfn]
   rw [nt,Bool.true_and]
  |false=>
   rw [qmk (by rw [qiz b1,hn];rfl)]
   exact ⟨0,rfl⟩
 ·rw [if_neg z,qnl (by rw [q];exact bne_iff_ne.2 z)]
  refine ⟨r4,?_⟩
  unfold qaf
  simp only [ST.get,qc0,List.map,qfn]
  rw [qfi (i:=4) hf rfl k4];rfl
end
section
variable {zs:List Int} (h:zw1 zs)
include h
theorem f90n:FT qhe 37 zs=[b2i (zwy zs)]:=by
 have g:FT qhe 37=qaf tr90 (FT qdj):=qfb (Tb:=qhe) rfl rfl
 have e88:FT qdj 35=FT qgb 35:=qbt 11 (by kernel_rfl) (by kernel_rfl)
 have e54:FT qdj 18=FT qf4 18:=qbt 10 (by kernel_rfl) (by kernel_rfl)
 have e55:FT qdj 19=FT qej 19:=qbt 9 (by kernel_rfl) (by kernel_rfl)
 have e106:FT qdj 70=FT qc1 70:=qbt 12 (by kernel_rfl) (by kernel_rfl)
 have e108:FT qdj 72=FT qd4 72:=qbt 1 (by kernel_rfl) (by kernel_rfl)
 have e107:FT qdj 71=FT qd3 71:=qbt 2 (by kernel_rfl) (by kernel_rfl)
 have e53:FT qdj 17=FT qdt 17:=qbt 14 (by kernel_rfl) (by kernel_rfl)
 have k0:inK (some .i64) 0:=rfl
 have u0:inK (some .u64) 0:=rfl
 have ul:inK (some .u64) 281474976710656:=rfl
 have km:inK (some .i64) 1048576:=rfl
 have fin:zwy zs=(inF (zs.getD 0 0) (zs.getD 1 0) 281474976710656 (nn 1048576 0)&&(inF (zs.getD 2 0) (zs.getD 3 0) 0 (nn 65536 0)&&(inF (zs.getD 12 0) (zs.getD 13 0) 0 (nn (zs.getD 0 0) (zs.getD 1 0))&&(inF (zs.getD 14 0) (zs.getD 15 0) 0 (nn 65536 0)&&(inF (zs.getD 16 0) (zs.getD 17 0) 0 (nn 65536 0)&&
   ((qik (zs.getD 4 0) (zs.getD 5 0)&&qik (zs.getD 6 0) (zs.getD 7 0))&&((qik (zs.getD 8 0) (zs.getD 9 0)&&qik (zs.getD 10 0) (zs.getD 11 0))&&(decide (281474976710656≤nn (zs.getD 0 0) (zs.getD 1 0) - nn (zs.getD 12 0) (zs.getD 13 0))&&
   ((qe8 (nn (zs.getD 4 0) (zs.getD 5 0)) 1073741824&&qe8 (nn (zs.getD 6 0) (zs.getD 7 0)) 1073741824)&&(qi_ zs&&((decide (0≤zs.getD 18 0)&&decide (zs.getD 18 0≤100))&&(decide (0≤zs.getD 19 0)&&decide (zs.getD 19 0≤65535))))))))))))):=by
  unfold zwy
  generalize inF (zs.getD 0 0) (zs.getD 1 0) 281474976710656 (nn 1048576 0)=A1
  generalize inF (zs.getD 2 0) (zs.getD 3 0) 0 (nn 65536 0)=A2
  generalize inF (zs.getD 12 0) (zs.getD 13 0) 0 (nn (zs.getD 0 0) (zs.getD 1 0))=A3
  generalize inF (zs.getD 14 0) (zs.getD 15 0) 0 (nn 65536 0)=A4
  generalize inF (zs.getD 16 0) (zs.getD 17 0) 0 (nn 65536 0)=A5
  generalize (qik (zs.getD 4 0) (zs.getD 5 0)&&qik (zs.getD 6 0) (zs.getD 7 0))=A6
  generalize (qik (zs.getD 8 0) (zs.getD 9 0)&&qik (zs.getD 10 0) (zs.getD 11 0))=A7
  generalize decide (281474976710656≤nn (zs.getD 0 0) (zs.getD 1 0) - nn (zs.getD 12 0) (zs.getD 13 0))=A8
  generalize (qe8 (nn (zs.getD 4 0) (zs.getD 5 0)) 1073741824&&qe8 (nn (zs.getD 6 0) (zs.getD 7 0)) 1073741824)=A9
  generalize qi_ zs=A10
  generalize (decide (0≤zs.getD 18 0)&&decide (zs.getD 18 0≤100))=A11
  generalize (decide (0≤zs.getD 19 0)&&decide (zs.getD 19 0≤65535))=A12
  simp only [Bool.and_comm,Bool.and_left_comm]
 rw [g,fin];unfold tr90
 refine qx2 (qiz ?_) fun hm=>qx2 (qiz ?_) fun _=>qx2 (qiz ?_) fun hf=>qx2 (qiz ?_) fun _=>qx2 (qiz ?_) fun _=>qx2 (qiz ?_) fun _=>qx2 (qiz ?_) fun _=> ?_
 ·simp only [qab,qad]
  rw [qgy h 0 (by decide) rfl,qhn h 1 (by decide) rfl,qai,qai,qai,qai,e88]
  exact f88 (bi h 0 (by decide) rfl) (bu h 1 (by decide) rfl) k0 ul km u0
 ·simp only [qab,qad]
  rw [qgy h 2 (by decide) rfl,qhn h 3 (by decide) rfl,qai,e54]
  exact f54 (bi h 2 (by decide) rfl) (bu h 3 (by decide) rfl) ⟨by decide,by decide⟩
 ·simp only [qab,qad]
  rw [qgy h 12 (by decide) rfl,qhn h 13 (by decide) rfl,qgy h 0 (by decide) rfl,qhn h 1 (by decide) rfl,qai,qai,e88]
  exact f88 (bi h 12 (by decide) rfl) (bu h 13 (by decide) rfl) k0 u0 (bi h 0 (by decide) rfl) (bu h 1 (by decide) rfl)
 ·simp only [qab,qad]
  rw [qgy h 14 (by decide) rfl,qhn h 15 (by decide) rfl,qai,e54]
  exact f54 (bi h 14 (by decide) rfl) (bu h 15 (by decide) rfl) ⟨by decide,by decide⟩
 ·simp only [qab,qad]
  rw [qgy h 16 (by decide) rfl,qhn h 17 (by decide) rfl,qai,e54]
  exact f54 (bi h 16 (by decide) rfl) (bu h 17 (by decide) rfl) ⟨by decide,by decide⟩
 ·simp only [qab,qad]
  rw [qgy h 4 (by decide) rfl,qhn h 5 (by decide) rfl,qgy h 6 (by decide) rfl,qhn h 7 (by decide) rfl,e55]
  exact f55 (bi h 4 (by decide) rfl) (bu h 5 (by decide) rfl) (bi h 6 (by decide) rfl) (bu h 7 (by decide) rfl)
 ·simp only [qab,qad]
  rw [qgy h 8 (by decide) rfl,qhn h 9 (by decide) rfl,qgy h 10 (by decide) rfl,qhn h 11 (by decide) rfl,e55]
  exact f55 (bi h 8 (by decide) rfl) (bu h 9 (by decide) rfl) (bi h 10 (by decide) rfl) (bu h 11 (by decide) rfl)
 ·have b1:=qtg (bu h 1 (by decide) rfl)
  have b13:=qtg (bu h 13 (by decide) rfl)
  unfold inF at hm hf
  simp only [Bool.and_eq_true,decide_eq_true_eq] at hm hf
  have p0:0≤zs.getD 0 0∧zs.getD 0 0<9223372036854775808:=by have:=hm.2;unfold nn at this;omega
  have p12:0≤zs.getD 12 0∧zs.getD 12 0<9223372036854775808:=by have h1:=hf.2;have h2:=hm.2;unfold nn at h1 h2;omega
  have hmm:0≤nn (zs.getD 0 0) (zs.getD 1 0)∧nn (zs.getD 0 0) (zs.getD 1 0)<170141183460469231731687303715884105728:=by
   have h2:=hm.2
   have e:nn 1048576 0=19342813113834066795298816:=rfl
   rw [e] at h2;omega
  have a0:(al zs).getD 0 0=zs.getD 0 0:=rfl
  have a1:(al zs).getD 1 0=zs.getD 1 0:=rfl
  obtain ⟨er,h107⟩:=f107n (zj_ h) (by rw [a0,a1];exact hmm)
  rw [q54] at h107
  have h107':FT qdj 71 (aB.vals (qaa (FT qdj) zs))=[b2i (qi_ zs),er]:=by rw [z9v h,e107];exact h107
  have h108:=f108p p0 (bu h 1 (by decide) rfl) p12 (bu h 13 (by decide) rfl)
  have ho:=qpy (nn (zs.getD 0 0) (zs.getD 1 0) - nn (zs.getD 12 0) (zs.getD 13 0))
  have hon:nn (Fx.of (nn (zs.getD 0 0) (zs.getD 1 0) - nn (zs.getD 12 0) (zs.getD 13 0))).hi (Fx.of (nn (zs.getD 0 0) (zs.getD 1 0) - nn (zs.getD 12 0) (zs.getD 13 0))).lo=nn (zs.getD 0 0) (zs.getD 1 0) - nn (zs.getD 12 0) (zs.getD 13 0):=
   Fx.of_n _ (by have h1:=hf.2;have h2:=hm.2;unfold nn at h1 h2 ⊢;omega)
  generalize Fx.of (nn (zs.getD 0 0) (zs.getD 1 0) - nn (zs.getD 12 0) (zs.getD 13 0))=D at *
  have v108:FT qdj 72 ((SE.cons (.ivar .i64 0) (.cons (.ivar .u64 1) (.cons (.ivar .i64 12) (.cons (.ivar .u64 13) .nil)))).vals (qaa (FT qdj) zs))=[D.hi,D.lo,0]:=by
   simp only [qab,qad]
   rw [qgy h 0 (by decide) rfl,qhn h 1 (by decide) rfl,qgy h 12 (by decide) rfl,qhn h 13 (by decide) rfl,e108]
   exact h108
  refine qk0 ?_ fun _=>qk0 (qk2 ?_) fun _=>qk0 (q:=qi_ zs) ?_ fun _=>qk0 (qk2 ?_) fun _=>q0p (qy7 ?_)
  ·rw [qce,qig,qfi (i:=0) (k:= .i64) (v:=qe_ D.hi D.lo 0 281474976710656) (l:=[qe_ D.hi D.lo 0 281474976710656]) (by
    rw [qab,qab,qab,qab,qad,qfi (i:=0) v108 (gd0 _ _ _) ho.1,qfi (i:=1) v108 (gd1 _ _ _ _) ho.2,qai,qai,e106]
    exact f106 ho.1 ho.2 k0 ul) rfl (qm3 _ _ _ _)]
   have hc4:=qj4 (a0:=D.hi) (b0:=0) ho.2 ul
   have e2:nn 0 281474976710656=281474976710656:=rfl
   rw [hon,e2] at hc4
   rw [←hc4];rfl
  ·simp only [qab,qad]
   rw [qgy h 4 (by decide) rfl,qhn h 5 (by decide) rfl,qgy h 6 (by decide) rfl,qhn h 7 (by decide) rfl]
   exact f109 (bi h 4 (by decide) rfl) (bu h 5 (by decide) rfl) (bi h 6 (by decide) rfl) (bu h 7 (by decide) rfl)
  ·show ((SE.app 71 0 none aB).val (qaa (FT qdj) zs) !=0)=qi_ zs
   rw [qgk,h107',List.getD_cons_zero,wrb,qas]
  ·simp only [qab,qad]
   rw [qgy h 18 (by decide) rfl,qai,qai,e53]
   exact f53 (bi h 18 (by decide) rfl) k0 rfl
  ·simp only [qab,qad]
   rw [qgy h 19 (by decide) rfl,qai,qai,e53]
   exact f53 (bi h 19 (by decide) rfl) k0 rfl
end
end Go.Proofs.YtilkebpcjklmfaaGreat.Own
