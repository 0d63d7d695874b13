/- A walk by reckoning: regions, code, functions. A walk by reckoning: what is reckoned is what the program does. -/
import Derived.Test.YtilkebpcjklmfaaGreatFv4
set_option linter.unusedVariables false
set_option linter.unusedSimpArgs false
namespace Go.Proofs.YtilkebpcjklmfaaGreat.Own
open Go Go.RowKit
set_option maxRecDepth 100000
set_option maxHeartbeats 40000000
def XOK (c:Cfg) (e:Vl) (σ0:List (Nat×Nat×Nat)):Prop:=∀(σ:List (Nat×Nat×Nat)),Ext σ0 σ→∀(f:Nat) (vs:List V) (v:V) (us:List Value),c.X f vs=some v→RelVs e σ vs us→∃u,RelV e σ v u∧∀w,(callFunc f (List.toArray us)).run c.P w= .ok (.value u) w
def HOK (c:Cfg) (e:Vl) (σ0:List (Nat×Nat×Nat)):Prop:=∀(σ:List (Nat×Nat×Nat)),Ext σ0 σ→∀(f:Nat) (vs:List V) (v:V) (us:List Value),c.H f vs=some v→RelVs e σ vs us→isFn c.P f=true∧∃u,RelV e σ v u∧Pure c.P f (List.toArray us) u
def qoe (P:Program) (f:Nat) (a:Code):Prop:=∃fn b,P.funcs[f]? =some fn∧fn.body=some b∧a∈qdq b
def ex:Ex→Exit
 | .normal=> .normal
 | .ret=> .ret
 | .exit id=> .exit id
def LOK (c:Cfg) (e:Vl) (σ0:List (Nat×Nat×Nat)):Prop:=∀(f:Nat) (a:Code),qoe c.P f a→∀(fr:Tr) (M:MB) (F:List MB) (nx:Nat) (x:Ex) (fr':Tr) (M':MB) (nx':Nat),c.L f (fid a) c.D fr M F nx=some (x,fr',M',nx')→
 ∀(n:Nat),(∃fn,c.P.funcs[f]? =some fn∧fn.ntmps=n)→∀(w0:World) (σ:List (Nat×Nat×Nat)) (l:List (Nat×Value)) (LM:List Blk) (Q:Exit→Act→World→Prop),σ.length=nx→Ext σ0 σ→RF e σ fr l→RM c.P e σ M LM→FR c.P e σ F w0→
  (∀σ' l' LM',Ext σ σ'→σ'.length=nx'→RF e σ' fr' l'→RM c.P e σ' M' LM'→X w0 Q (ex x) (frm n l') LM')→H c.P w0 a Q (frm n l) LM
def qjz (c:Cfg) (e:Vl) (σ0:List (Nat×Nat×Nat)) (call:qru):Prop:=∀(f:Nat) (vs:List V) (M:MB) (F:List MB) (nx:Nat) (v:V) (M':MB) (nx':Nat),call f vs M F nx=some (v,M',nx')→isFn c.P f=true∧
 ∀(w0:World) (σ:List (Nat×Nat×Nat)) (us:List Value) (LM:List Blk),σ.length=nx→Ext σ0 σ→RelVs e σ vs us→RM c.P e σ M LM→FR c.P e σ F w0→∀w,Own w0 LM w→
  Calls c.P f (List.toArray us) w fun en w'=>∃u σ' LM',en= .returned u∧Ext σ σ'∧σ'.length=nx'∧RelV e σ' v u∧RM c.P e σ' M' LM'∧Own w0 LM' w'
def BOK (c:Cfg) (e:Vl) (σ0:List (Nat×Nat×Nat)):Prop:=qjz c e σ0 (c.B c.D)
structure OK (c:Cfg) (e:Vl) (σ0:List (Nat×Nat×Nat)):Prop where
 he:(∀i,oneC (e.s i)=true)∧∀i,oneC (e.v i)=true
 x:XOK c e σ0
 h:HOK c e σ0
 g:GOK c e σ0
 d:DOK c e
 l:LOK c e σ0
 b:BOK c e σ0
 mixed:c.P.follows .mixedOrders=true
section
variable {c:Cfg} {e:Vl} {σ σ0:List (Nat×Nat×Nat)} {w0:World} {ρ':Operand→Option V} {ρ:Operand→Value} {o:Oper} {call:qru}
def q50 (c:Cfg) (e:Vl) (σ:List (Nat×Nat×Nat)) (nx':Nat) (v:V) (M':MB) (LX:List Blk):Value→List Blk→Prop:=fun u L'=>∃σ' LM',Ext σ σ'∧σ'.length=nx'∧RelV e σ' v u∧RM c.P e σ' M' LM'∧L'=LM'++LX
theorem qnt {P:Program} {L:List Blk} {u:Value} {R:Value→List Blk→Prop} (h:QV P w0 o ρ L u) (hR:R u L):EV P w0 o ρ L R:=fun w hw=>by
 have h1:=h w hw
 generalize (execOp ρ o).run P w=r at *
 cases r with
 |ok x w'=>
  cases x<;>simp only [qhf] at h1<;>simp only [qir]
  case value u=>obtain ⟨rfl,rfl⟩:=h1;exact ⟨L,hR,hw⟩
  case skip=>obtain ⟨rfl,rfl⟩:=h1;exact ⟨L,hR,hw⟩
  case enter f args=>obtain ⟨rfl,hc⟩:=h1;exact hc.mono fun e w'' ⟨he,hb⟩=>⟨u,L,he,hR,hw.ext hb⟩
 |halt x w'=>simp only [qhf] at h1
theorem qhp (hρ:∀x v,ρ' x=some v→RelV e σ v (ρ x)) {cl:Call} {f:Nat} {vs:List V} (h:callee ρ' cl=some (f,vs)) (ho:o.op= .call cl):
  ∃us,RelVs e σ vs us∧∀w,(execOp ρ o).run c.P w=(callFunc f (List.toArray us)).run c.P w:=by
 unfold callee at h
 split at h
 ·rename_i x hc
  split at h
  ·rename_i f' cap a9s hx ha
   cases h
   obtain ⟨cv,h1,h2⟩:=iv_fn (hρ _ _ hx)
   refine ⟨cl.args.toList.map ρ++cv,(qle hρ ha).app h1.ofOnes,fun w=> ?_⟩
   rw [qmp ho hc h2 w]
   congr 2
   apply Array.ext';simp
  ·cases h
 ·cases h
theorem qjh (ok:OK c e σ0) (hc:qjz c e σ0 call) (hx0:Ext σ0 σ) (hρ:∀x v,ρ' x=some v→RelV e σ v (ρ x)) {F:List MB} (hm:FS c.P e σ F) {nx:Nat} (hn:σ.length=nx) {v:V} (h:qtp c call ρ' o F nx=some v):
  ∃u,RelV e σ v u∧∀L,(∀w,Own w0 L w→FR c.P e σ F w)→QV c.P w0 o ρ L u:=by
 have val:∀v,evQ c ρ' F o=some v→∃u,RelV e σ v u∧∀L,(∀w,Own w0 L w→FR c.P e σ F w)→QV c.P w0 o ρ L u:=fun v h=>qt2 hρ ok.d ok.g hx0 hm h
 unfold qtp at h
 split at h
 ·rename_i cl ho
  split at h
  ·rename_i f vs hcl
   obtain ⟨us,hus,hrun⟩:=qhp (c:=c) hρ hcl ho
   split at h
   ·rename_i v' hx;cases h
    obtain ⟨u,h1,h2⟩:=ok.x σ hx0 f vs _ us hx hus
    exact ⟨u,h1,fun L _=>q_of fun w _=>by rw [hrun w];exact h2 w⟩
   ·split at h
    ·rename_i v' hh;cases h
     obtain ⟨hf,u,h1,h2⟩:=ok.h σ hx0 f vs _ us hh hus
     exact ⟨u,h1,fun L _ w hw=>by rw [hrun w,qbk hf];exact ⟨rfl,h2 w⟩⟩
    ·split at h
     ·rename_i v' M' nx' hcc
      cases hl:v'.lt nx with
      |false=>simp only [hl,cond_false] at h;cases h
      |true=>
       simp only [hl,cond_true,Option.some.injEq] at h
       subst h
       obtain ⟨hf,h1⟩:=hc f vs [] F nx v' M' nx' hcc
       obtain ⟨u,hu⟩:=V.ex (σ:=σ) ok.he v' (by rw [hn];exact hl)
       refine ⟨u,hu,fun L hL w hw=> ?_⟩
       rw [hrun w,qbk hf]
       refine ⟨rfl,(h1 w σ us [] hn hx0 hus .nil (hL w hw) w (Own.start w)).mono ?_⟩
       rintro en w' ⟨u',σ',LM',h2,h3,h4,h5,h6,h7⟩
       rw [h2,(hu.mono h3).det h5]
       exact ⟨rfl,h7.below⟩
     ·cases h
  ·exact val _ h
 ·exact val _ h
theorem SetB.left {L L':List Blk} {g:Nat} {cs cs':List Value} {T:TypeId} (h:SetB L g cs T cs' L') (X:List Blk):SetB (L++X) g cs T cs' (L'++X):=by
 induction h with
 |here=>exact .here
 |next _ ih=>exact .next ih
theorem SetB.right {L L':List Blk} {g:Nat} {cs cs':List Value} {T:TypeId} (h:SetB L g cs T cs' L'):∀(X:List Blk),SetB (X++L) g cs T cs' (X++L')
 |[]=>h
 |b::X=> .next (SetB.right h X)
theorem qou:∀{M:MB} {LM:List Blk},RM c.P e σ M LM→∀{k:Nat} {cs cs':List C} {T:TypeId} {op:Bool} {M':MB},lkB M k=some (cs,T,op)→stB M k cs'=some M'→cs'.length=cs.length→
  ∃g gc vs rest,σ[k]? =some (g,0,gc)∧RelCs e σ cs vs∧∀vs',RelCs e σ cs' vs'→∃LM',SetB LM g (vs++rest) T (vs'++rest) LM'∧RM c.P e σ M' LM'
 |_,_,.nil,k,cs,cs',T,op,M',hk,_,_=>by cases hk
 |_,_,.big (k:=k') hk' hc hi hn hr t,k,cs,cs',T,op,M',hk,hs,hl=>by
  simp only [lkB,qjx,cond_true] at hk
  simp only [stB] at hs
  cases hb:Nat.beq k' k with
  |true=>simp only [hb,cond_true] at hk;cases hk
  |false=>
   simp only [hb,cond_false] at hk hs
   split at hs
   ·rename_i r' hr'
    cases hs
    obtain ⟨g,gc,vs,rest,a1,a2,a3⟩:=qou t hk hr' hl
    refine ⟨g,gc,vs,rest,a1,a2,fun vs' hv=> ?_⟩
    obtain ⟨LM',b1,b2⟩:=a3 vs' hv
    exact ⟨_,.next b1,.big hk' hc hi hn hr b2⟩
   ·cases hs
 |_,_,.big0 (k:=k') hk' he t,k,cs,cs',T,op,M',hk,hs,hl=>by
  simp only [lkB,qjx,cond_true] at hk
  simp only [stB] at hs
  cases hb:Nat.beq k' k with
  |true=>simp only [hb,cond_true] at hk;cases hk
  |false=>
   simp only [hb,cond_false] at hk hs
   split at hs
   ·rename_i r' hr'
    cases hs
    obtain ⟨g,gc,vs,rest,a1,a2,a3⟩:=qou t hk hr' hl
    refine ⟨g,gc,vs,rest,a1,a2,fun vs' hv=> ?_⟩
    obtain ⟨LM',b1,b2⟩:=a3 vs' hv
    exact ⟨_,b1,.big0 hk' he b2⟩
   ·cases hs
 |_,_,.frm (k:=k') t,k,cs,cs',T,op,M',hk,hs,hl=>by
  simp only [lkB,qjx,cond_true] at hk
  simp only [stB] at hs
  cases hb:Nat.beq k' k with
  |true=>simp only [hb,cond_true] at hk;cases hk
  |false=>
   simp only [hb,cond_false] at hk hs
   split at hs
   ·rename_i r' hr'
    cases hs
    obtain ⟨g,gc,vs,rest,a1,a2,a3⟩:=qou t hk hr' hl
    refine ⟨g,gc,vs,rest,a1,a2,fun vs' hv=> ?_⟩
    obtain ⟨LM',b1,b2⟩:=a3 vs' hv
    exact ⟨_,b1.right _,.frm b2⟩
   ·cases hs
 |_,_,.cons (k:=k') (T:=T') (o:=o') hk' hc ho hr t,k,cs,cs',T,op,M',hk,hs,hl=>by
  simp only [lkB,hc.notBig,cond_false] at hk
  simp only [stB] at hs
  cases hb:Nat.beq k' k with
  |true=>
   simp only [hb,cond_true,Option.some.injEq,Prod.mk.injEq] at hk hs
   obtain ⟨rfl,rfl,rfl⟩:=hk
   subst hs
   rw [←Nat.eq_of_beq_eq_true hb]
   refine ⟨_,_,_,_,hk',hc,fun vs' hv=>⟨_,.here,.cons hk' hv ho (fun hq=> ?_) t⟩⟩
   obtain ⟨h0,i,h1,h2⟩:=hr hq
   exact ⟨h0,i,h1,by rw [hv.len,hl,←hc.len];exact h2⟩
  |false=>
   simp only [hb,cond_false] at hk hs
   split at hs
   ·rename_i r' hr'
    cases hs
    obtain ⟨g,gc,vs,rest,a1,a2,a3⟩:=qou t hk hr' hl
    refine ⟨g,gc,vs,rest,a1,a2,fun vs' hv=> ?_⟩
    obtain ⟨LM',b1,b2⟩:=a3 vs' hv
    exact ⟨_,.next b1,.cons hk' hc ho hr b2⟩
   ·cases hs
theorem qom:∀{M:MB} {LM:List Blk},RM c.P e σ M LM→∀{k:Nat} {z x':SE} {ks:Ks} {T:TypeId} {M':MB},lkL M k=some (z,ks,T)→stL M k x'=some M'→(x'.lst e).length=(z.lst e).length→z.lst e≠[]→
  ∃g gc rest,σ[k]? =some (g,0,gc)∧∃LM',SetB LM g (qbh ks (z.lst e)++rest) T (qbh ks (x'.lst e)++rest) LM'∧RM c.P e σ M' LM'
 |_,_,.nil,_,_,_,_,_,_,hk,_,_,_=>by cases hk
 |_,_,.cons (k:=k') (cs:=cs') hk' hc ho hr t,k,z,x',ks,T,M',hk,hs,hl,hne=>by
  have hnb:∀w zs,(match cs' with |[.big x ks]=>some (x,ks,(w:TypeId)) |_=>none)≠some zs:=fun w zs q=>by
   have:=hc.notBig
   split at q
   ·cases this
   ·cases q
  simp only [lkL] at hk
  simp only [stL] at hs
  cases hb:Nat.beq k' k with
  |true=>simp only [hb,cond_true] at hk;exact absurd hk (hnb _ _)
  |false=>
   simp only [hb,cond_false] at hk hs
   split at hs
   ·rename_i r' hr'
    cases hs
    obtain ⟨g,gc,rest,a1,LM',b1,b2⟩:=qom t hk hr' hl hne
    exact ⟨g,gc,rest,a1,_,.next b1,.cons hk' hc ho hr b2⟩
   ·cases hs
 |_,_,.big (k:=k') hk' hc hi hn hr t,k,z,x',ks,T,M',hk,hs,hl,hne=>by
  simp only [lkL] at hk
  simp only [stL] at hs
  cases hb:Nat.beq k' k with
  |true=>
   simp only [hb,cond_true,Option.some.injEq,Prod.mk.injEq] at hk hs
   obtain ⟨rfl,rfl,rfl⟩:=hk
   subst hs
   rw [←Nat.eq_of_beq_eq_true hb]
   exact ⟨_,_,_,hk',_,.here,.big hk' hc hi (by rw [hl];exact hn) (by rw [qdi,hl,←qdi];exact hr) t⟩
  |false=>
   simp only [hb,cond_false] at hk hs
   split at hs
   ·rename_i r' hr'
    cases hs
    obtain ⟨g,gc,rest,a1,LM',b1,b2⟩:=qom t hk hr' hl hne
    exact ⟨g,gc,rest,a1,_,.next b1,.big hk' hc hi hn hr b2⟩
   ·cases hs
 |_,_,.big0 (k:=k') hk' he t,k,z,x',ks,T,M',hk,hs,hl,hne=>by
  simp only [lkL] at hk
  simp only [stL] at hs
  cases hb:Nat.beq k' k with
  |true=>
   simp only [hb,cond_true,Option.some.injEq,Prod.mk.injEq] at hk hs
   obtain ⟨rfl,rfl,rfl⟩:=hk
   exact absurd he hne
  |false=>
   simp only [hb,cond_false] at hk hs
   split at hs
   ·rename_i r' hr'
    cases hs
    obtain ⟨g,gc,rest,a1,LM',b1,b2⟩:=qom t hk hr' hl hne
    exact ⟨g,gc,rest,a1,_,b1,.big0 hk' he b2⟩
   ·cases hs
 |_,_,.frm (k:=k') t,k,z,x',ks,T,M',hk,hs,hl,hne=>by
  simp only [lkL] at hk
  simp only [stL] at hs
  cases hb:Nat.beq k' k with
  |true=>simp only [hb,cond_true] at hk;cases hk
  |false=>
   simp only [hb,cond_false] at hk hs
   split at hs
   ·rename_i r' hr'
    cases hs
    obtain ⟨g,gc,rest,a1,LM',b1,b2⟩:=qom t hk hr' hl hne
    exact ⟨g,gc,rest,a1,_,b1.right _,.frm b2⟩
   ·cases hs
theorem qp8 {vs rest us:List Value} {off:Nat} (h:off+us.length≤vs.length):qdy (vs++rest) off us=qdy vs off us++rest:=by
 unfold qdy
 rw [List.take_append_of_le_length (by omega),List.drop_append_of_le_length (by omega)]
 simp
theorem qxj {cs us:List C} {off:Nat} (h:off+us.length≤cs.length):(qm1 cs off us).length=cs.length:=by
 unfold qm1;simp;omega
theorem ziz {t:TypeId} {x y:Operand} {L LX LM':List Blk} {M':MB} {nx:Nat} (hn:σ.length=nx) (b2:RM c.P e σ M' LM') (this:EV1 c.P w0 o ρ L undef (LM'++LX)):EV c.P w0 o ρ L (q50 c e σ nx (.tup []) M' LX):=by
 intro w hw
 have h1:=this w hw
 have key:∀u L',u=undef∧L'=LM'++LX→q50 c e σ nx (.tup []) M' LX u L':=fun u L' ⟨h1,h2⟩=>⟨σ,LM',Ext.refl σ,hn,by rw [h1];exact .tup .nil,b2,h2⟩
 generalize (execOp ρ o).run c.P w=r at *
 cases r with
 |ok x w'=>
  cases x<;>simp only [qir] at h1 ⊢
  case value u=>obtain ⟨L',h2,h3⟩:=h1;exact ⟨L',key _ _ h2,h3⟩
  case skip=>obtain ⟨L',h2,h3⟩:=h1;exact ⟨L',key _ _ ⟨rfl,h2.2⟩,h3⟩
  case enter f args=>exact h1.mono fun en w'' ⟨v,L',h2,h3,h4⟩=>⟨v,L',h2,key _ _ h3,h4⟩
 |halt x w'=>simp only [qir] at h1
theorem qlx (hd:DOK c e) (hρ:∀x v,ρ' x=some v→RelV e σ v (ρ x)) {t:TypeId} {x y:Operand} (ho:o.op= .store t x y) {M:MB} {LM:List Blk} (hm:RM c.P e σ M LM) {F:List MB} {nx:Nat} (hn:σ.length=nx) {v:V} {M':MB} {nx':Nat}
  (h:evE c call ρ' o M F nx=some (v,M',nx')) (LX:List Blk):EV c.P w0 o ρ (LM++LX) (q50 c e σ nx' v M' LX):=by
 unfold evE at h
 simp only [ho] at h
 split at h
 ·rename_i k ix sz off xv b n hx hy hi
  obtain ⟨g,gb,gc,hg,hx'⟩:=q0j (hρ _ _ hx)
  split at h
  ·rename_i z ks T us hl hus
   cases hb:(Nat.beq ks.length sz&&inB c ix z&&Nat.beq us.length n&&Nat.ble (off+n) sz) with
   |false=>simp only [hb,cond_false] at h;cases h
   |true=>
    simp only [hb,cond_true] at h
    simp only [Bool.and_eq_true] at hb
    obtain ⟨⟨⟨hb1,hb2⟩,hb3⟩,hb4⟩:=hb
    have hsz:=Nat.eq_of_beq_eq_true hb1
    subst hsz
    have hun:=Nat.eq_of_beq_eq_true hb3
    have hle:=Nat.le_of_ble_eq_true hb4
    obtain ⟨i1,i2⟩:=qln hd hb2
    have i3:=Nat.lt_of_lt_of_le i2 (qm6 _)
    split at h
    ·rename_i l hml
     split at h
     ·rename_i M1 hs
      cases h
      have hu:=qh2 hus (hρ _ _ hy)
      have hlen:(seL l).vals e=l.map (SE.val e):=qhl l
      obtain ⟨r1,r2⟩:=qh6 (j:=off) (el:=qb1 ((z.lst e).getD (ix.val e).toNat []) off (l.map (SE.val e))) hml hu fun i hi=>by
       rw [qdu,if_pos (by rw [List.length_map];omega),show off+i - off=i by omega]
      have hln:l.length=n:=by rw [r2,List.length_take,List.length_drop];omega
      have hsp:=qu6 (ks:=ks) (l:=z.lst e) (i:=(ix.val e).toNat) (off:=off) (n:=n) (a9s:=l.map (SE.val e)) i3 (by rw [List.length_map];exact hln) hle
      rw [←r1] at hsp
      obtain ⟨g',gc',rest,a1,LM',b1,b2⟩:=qom hm hl hs (by rw [qvi,qgi,q24]) (by intro q;rw [q] at i3;simp at i3)
      rw [hg] at a1;cases a1
      rw [Nat.zero_add] at hx'
      have hfl:(qbh ks (z.lst e)).length=(z.lst e).length * ks.length:=qdi _ _
      have hmul:((ix.val e).toNat+1) * ks.length≤(z.lst e).length * ks.length:=Nat.mul_le_mul_right _ i3
      rw [Nat.add_mul] at hmul
      have hun2:(ρ y).cells.toList.length=n:=by rw [hu.len];exact hun
      have hl2:(ix.val e).toNat * ks.length+off+(ρ y).cells.toList.length≤(qbh ks (z.lst e)).length:=by rw [hun2];omega
      have hcs:qdy (qbh ks (z.lst e)++rest) ((ix.val e).toNat * ks.length+off) (ρ y).cells.toList=qbh ks ((zj6 z ix off (seL l)).lst e)++rest:=by
       rw [qp8 hl2,qvi,qgi,hlen,hsp]
       unfold qdy
       rw [hun2]
      exact ziz (t:=t) (x:=x) (y:=y) hn b2 (qxo (w0:=w0) (hi:=hi) ho hx' rfl (b1.left LX) (by rw [hun2];exact Nat.beq_refl n) hu.ones (by rw [Nat.ble_eq];simp only [List.length_append];omega) hcs)
     ·cases h
    ·cases h
  ·cases h
 ·rename_i k off xv b n hx hy hi
  obtain ⟨g,gb,gc,hg,hx'⟩:=qks (hρ _ _ hx)
  split at h
  ·rename_i cs T op us hl hus
   cases hb:(Nat.beq us.length n&&Nat.ble (off+us.length) cs.length) with
   |false=>simp only [hb,cond_false] at h;cases h
   |true=>
    simp only [hb,cond_true,qp4] at h
    simp only [Bool.and_eq_true] at hb
    have hle:=Nat.le_of_ble_eq_true hb.2
    split at h
    ·rename_i M1 hs
     cases h
     obtain ⟨g',gc',vs,rest,a1,a2,a3⟩:=qou hm hl hs (qxj hle)
     rw [hg] at a1;cases a1
     rw [Nat.zero_add] at hx'
     have hu:=qh2 hus (hρ _ _ hy)
     obtain ⟨LM',b1,b2⟩:=a3 _ (qn9 a2 hu off)
     have hl2:off+(ρ y).cells.toList.length≤vs.length:=by rw [hu.len,a2.len];exact hle
     have:=qxo (w0:=w0) (hi:=hi) ho hx' rfl (b1.left LX) (by rw [hu.len];exact hb.1) hu.ones (by rw [Nat.ble_eq];simp only [List.length_append];omega) (qp8 hl2)
     intro w hw
     have h1:=this w hw
     have key:∀u L',u=undef∧L'=LM'++LX→q50 c e σ nx (.tup []) M' LX u L':=fun u L' ⟨h1,h2⟩=>⟨σ,LM',Ext.refl σ,hn,by rw [h1];exact .tup .nil,b2,h2⟩
     generalize (execOp ρ o).run c.P w=r at *
     cases r with
     |ok x w'=>
      cases x<;>simp only [qir] at h1 ⊢
      case value u=>obtain ⟨L',h2,h3⟩:=h1;exact ⟨L',key _ _ h2,h3⟩
      case skip=>obtain ⟨L',h2,h3⟩:=h1;exact ⟨L',key _ _ ⟨rfl,h2.2⟩,h3⟩
      case enter f args=>exact h1.mono fun en w'' ⟨v,L',h2,h3,h4⟩=>⟨v,L',h2,key _ _ h3,h4⟩
     |halt x w'=>simp only [qir] at h1
    ·cases h
  ·cases h
 ·cases h
theorem qnu {P:Program} {t:TypeId} {size bytes:Nat} {zc:List C} (h:isz P t=some (size,bytes,zc)):∃i z,P.info? t=some i∧i.zero=some z∧i.size=size∧i.bytes=bytes∧z.cells.size=size∧0<size∧RelCs e σ zc z.cells.toList:=by
 unfold isz at h
 split at h
 ·rename_i i hi
  split at h
  ·rename_i z hz
   split at h
   ·rename_i zc' hzc
    cases hb:(Nat.beq zc'.length i.size&&Nat.blt 0 i.size) with
    |false=>rw [hb,cond_false] at h;cases h
    |true=>
     rw [hb,cond_true] at h;cases h
     simp only [Bool.and_eq_true] at hb
     have h1:=Nat.eq_of_beq_eq_true hb.1
     have h2:0<i.size:=by simpa [Nat.blt_eq] using hb.2
     have hr:=qlz (e:=e) (σ:=σ) hzc
     exact ⟨i,z,hi,hz,rfl,rfl,by rw [←h1,←hr.len];simp,h2,hr⟩
   ·cases h
  ·cases h
 ·cases h
theorem q2p {zc:List C} {z:Array Value} {size:Nat} (h:RelCs e σ zc z.toList) (hs:z.size=size) (h0:0<size):∀(l:List Nat),RelCs e σ (l.map fun i=>zc.getD (i % size) .nils) (l.map fun i=>z[i % z.size]!)
 |[]=> .nil
 |i::l=>by
  have hlen:zc.length=size:=by rw [←h.len];simpa using hs
  have hi:i % size<size:=Nat.mod_lt _ h0
  have hg:zc[i % size]? =some (zc[i % size]'(by omega)):=List.getElem?_eq_getElem _
  obtain ⟨v,h1,h2⟩:=h.get hg
  have e1:zc.getD (i % size) .nils=zc[i % size]'(by omega):=by rw [List.getD_eq_getElem?_getD,hg];rfl
  have e2:z[i % z.size]! =v:=by
   rw [hs]
   have:z[i % size]? =some v:=by simpa using h1
   simp [getElem!_def,this]
  refine .cons ?_ (q2p h hs h0 l)
  show RelC e σ (zc.getD (i % size) .nils) (z[i % z.size]!)
  rw [e1,e2];exact h2
theorem zqr {P:Program} {s:Sem Value} {v:Value} {w w':World} (h:s.run P w= .ok v w'):(do pure (Next.value (←s)):Sem Next).run P w= .ok (.value v) w':=by
 simp only [Sem.run_bind,h,Result.andThen_ok];rfl
theorem zbg (hd:DOK c e) {a:SE} (h:le6 c a=true):a.val e≤1000000:=by
 have:=qr2 hd h
 have h0:(SE.lit .i64 1000000).val e=1000000:=by simp only [SE.val];rfl
 rw [h0] at this
 exact of_decide_eq_true this
theorem qnz:∀{zc:List C} {ks:Ks},z3n zc=some ks→ks.length=zc.length
 |[],_,h=>by cases h;rfl
 | .int k n::r,ks,h=>by
  simp only [z3n] at h
  split at h
  ·rename_i l hl;cases h;simp [qnz hl]
  ·cases h
 | .bool b::r,ks,h=>by
  simp only [z3n] at h
  split at h
  ·rename_i l hl;cases h;simp [qnz hl]
  ·cases h
 | .ptr _ _::_,_,h=>by cases h
 | .nilp::_,_,h=>by cases h
 | .nili::_,_,h=>by cases h
 | .sl _ _ _ _::_,_,h=>by cases h
 | .slo _ _::_,_,h=>by cases h
 | .slt _ _ _ _::_,_,h=>by cases h
 | .nils::_,_,h=>by cases h
 | .str _::_,_,h=>by cases h
 | .fn _ _::_,_,h=>by cases h
 | .opq _::_,_,h=>by cases h
 | .val _::_,_,h=>by cases h
 | .sli _ _::_,_,h=>by cases h
 | .pel _ _ _ _::_,_,h=>by cases h
 | .sts _::_,_,h=>by cases h
 | .big _ _::_,_,h=>by cases h
 | .frm::_,_,h=>by cases h
def qn5 (M:MB) (ok:Option Nat):MB:=match ok with |some k=>(match qjc M k with |some (_,M1)=>M1 |none=>M) |none=>M
theorem zd_ {ks:Ks} {z:List Value} {el:List Int} (hz:z=qgh ks 0 el) (hp:0<ks.length) (m:Nat):(madeCells z.toArray (m * ks.length)).toList=qbh ks (List.replicate m el):=by
 apply List.ext_getElem
 ·simp [madeCells,qdi]
 ·intro j h1 h2
  have hj:j<m * ks.length:=by simpa [madeCells] using h1
  have hd:j=(j / ks.length) * ks.length+j % ks.length:=by rw [Nat.mul_comm];exact (Nat.div_add_mod j ks.length).symm
  have hq:j / ks.length<m:=Nat.div_lt_of_lt_mul (by rw [Nat.mul_comm];exact hj)
  have hr:j % ks.length<ks.length:=Nat.mod_lt _ hp
  have g:=qpt (ks:=ks) (l:=List.replicate m el) (i:=j / ks.length) (r:=j % ks.length) (by rw [List.length_replicate];exact hq) hr
  rw [←hd] at g
  have e1:(List.replicate m el).getD (j / ks.length) []=el:=by
   rw [List.getD_eq_getElem?_getD,List.getElem?_replicate,if_pos hq];rfl
  rw [e1,←hz] at g
  have hzl:z.length=ks.length:=by rw [hz,qeq]
  have g2:=g
  rw [List.getElem?_eq_getElem h2,List.getElem?_eq_getElem (by rw [hzl];exact hr)] at g2
  have g3:=Option.some.inj g2
  rw [g3]
  simp only [madeCells,Array.toList_map,List.getElem_map,Array.toList_range,List.getElem_range,List.size_toArray,hzl]
  rw [Array.getElem!_eq_getD,Array.getD_eq_getD_getElem?,List.getElem?_toArray,List.getElem?_eq_getElem (by rw [hzl];exact hr)]
  rfl
theorem quk (hd:DOK c e) (hρ:∀x v,ρ' x=some v→RelV e σ v (ρ x)) {t:TypeId} {x y:Operand} (ho:o.op= .makeSlice t x y) {M:MB} {LM:List Blk} (hm:RM c.P e σ M LM) {nx:Nat} (hn:σ.length=nx) {v:V} {M':MB} {nx':Nat}
  (h:q85 c ρ' t x y M nx=some (v,M',nx')):EV c.P w0 o ρ LM (q50 c e σ nx' v M' []):=by
 unfold q85 at h
 split at h
 ·rename_i k1 l k2 l' el hx hy hu
  split at h
  ·rename_i size bytes zc hz
   obtain ⟨i,z,hi,hzr,hsz,hby,hzs,h0,hrel⟩:=qnu (e:=e) (σ:=σ) hz
   cases hb:(Nat.beq l l'&&Nat.ble (bytes * l) 140737488355328&&Nat.ble l 4294967296) with
   |false=>rw [hb,cond_false] at h;cases h
   |true=>
    rw [hb,cond_true] at h
    simp only [qp4,Option.some.injEq,Prod.mk.injEq] at h
    obtain ⟨rfl,rfl,rfl⟩:=h
    simp only [Bool.and_eq_true] at hb
    have hll:=Nat.eq_of_beq_eq_true hb.1.1
    subst hll
    have hb1:=Nat.le_of_ble_eq_true hb.1.2
    have hb2:=Nat.le_of_ble_eq_true hb.2
    intro w hw
    have hx':=qdo (hρ _ _ hx)
    have hy':=qdo (hρ _ _ hy)
    have hbl:(i.bytes:Int) * (Int.ofNat l)≤281474976710656:=by
     have q:((bytes * l:Nat):Int)≤140737488355328:=by omega
     rw [Int.natCast_mul] at q
     rw [hby]
     show (bytes:Int) * (l:Int)≤_
     omega
    have hl63:Int.ofNat l≤9223372036854775807:=by
     show (l:Int)≤_
     omega
    have hr:=run_make (P:=c.P) w t el i z hu hi hzr k1 k2 (Int.ofNat l) (Int.ofNat l) (Int.natCast_nonneg l) (Int.le_refl _) hbl hl63
    have hrun:(execOp ρ o).run c.P w= .ok (.value (.slice (some ⟨w.heap.size,0,none⟩) l l)) (w.alloc (.cells (madeCells z.cells (l * i.size)) el)):=by
     simp only [execOp,ho,hx',hy']
     exact zqr hr
    rw [hrun]
    have hcells:madeCells z.cells (l * i.size)=List.toArray ((List.range (l * size)).map fun j=>z.cells[j % z.cells.size]!):=by
     unfold madeCells;rw [hsz];apply Array.ext';simp
    rw [hcells]
    have hxt:Ext σ (σ++[(w.heap.size,0,l)]):=Ext.snoc σ _
    have hget:(σ++[(w.heap.size,0,l)])[nx]? =some (w.heap.size,0,l):=by rw [←hn];simp
    have hnew:=hw.new ((List.range (l * size)).map fun j=>z.cells[j % z.cells.size]!) el
    refine ⟨_,⟨σ++[(w.heap.size,0,l)],(w.heap.size,(List.range (l * size)).map (fun j=>z.cells[j % z.cells.size]!),el)::LM,hxt,by simp [hn],.one (.sl (off:=0) hget),?_,by simp⟩,hnew⟩
    have:=RM.cons (P:=c.P) (T:=el) (o:=false) hget ((q2p hrel hzs h0 (List.range (l * size))).mono hxt) (rest:=[]) (fun _=>rfl) (fun hq=>by cases hq) (hm.mono hxt)
    simpa using this
  ·cases h
 ·rename_i a b el hx hy hu
  split at h
  ·rename_i size bytes zc hz
   obtain ⟨i,z,hi,hzr,hsz,hby,hzs,h0,hrel⟩:=qnu (e:=e) (σ:=σ) hz
   split at h
   ·rename_i ks hks0
    have hks:ks.length=size:=by rw [qnz hks0,←hrel.len,←hzs];simp
    split at h
    ·rename_i l hl
     cases hb:((decide (a=b)&&q4q a)&&((geB c a&&le6 c a)&&Nat.ble bytes 1000000)) with
     |false=>rw [hb,cond_false] at h;cases h
     |true=>
      rw [hb,cond_true] at h
      simp only [Option.some.injEq,Prod.mk.injEq] at h
      obtain ⟨rfl,rfl,rfl⟩:=h
      simp only [Bool.and_eq_true] at hb
      obtain ⟨⟨hab,hty⟩,⟨hge,hle⟩,hbb⟩:=hb
      have hab:=of_decide_eq_true hab
      subst hab
      have hty:a.ty=some (some .i64):=by
       unfold q4q at hty
       split at hty
       ·assumption
       ·cases hty
      have g0:=qul hd hge
      have g1:=zbg hd hle
      have hbb:=Nat.le_of_ble_eq_true hbb
      obtain ⟨m,hm0⟩:∃m:Nat,a.val e=(m:Int):=⟨(a.val e).toNat,by omega⟩
      have val:∀x,ρ' x=some (.one (.opq a))→ρ x= .int .i64 (m:Int):=fun x hx=>by
       have h1:=qd0 (hρ _ _ hx)
       have h2:=qbu (e:=e) (σ:=σ) a
       rw [qne hty,hm0] at h2
       exact h1.det h2
      have hx':=val _ hx
      have hy':=val _ hy
      intro w hw
      have hbl:(i.bytes:Int) * (m:Int)≤281474976710656:=by
       have q:(bytes * m:Nat)≤1000000 * 1000000:=Nat.mul_le_mul hbb (by omega)
       rw [hby,←Int.natCast_mul];omega
      have hr:=run_make (P:=c.P) w t el i z hu hi hzr .i64 .i64 (m:Int) (m:Int) (Int.natCast_nonneg m) (Int.le_refl _) hbl (by omega)
      have hrun:(execOp ρ o).run c.P w= .ok (.value (.slice (some ⟨w.heap.size,0,none⟩) m m)) (w.alloc (.cells (madeCells z.cells (m * i.size)) el)):=by
       simp only [execOp,ho,hx',hy']
       exact zqr hr
      rw [hrun]
      obtain ⟨r1,r2⟩:=qh6 (j:=0) (el:=l.map (SE.val e)) hl hrel fun k hk=>by rw [Nat.zero_add]
      have hcells:madeCells z.cells (m * i.size)=List.toArray (qbh ks (List.replicate m (l.map (SE.val e)))):=by
       apply Array.ext'
       have:=zd_ r1 (by rw [hks];exact h0) m
       rw [hsz,←hks]
       simpa using this
      rw [hcells]
      have hlst:(SE.lrep a (seL l)).lst e=List.replicate m (l.map (SE.val e)):=by
       simp only [SE.lst,SE.val,qan,qhl,hm0,Int.toNat_natCast]
      have hxt:Ext σ (σ++[(w.heap.size,0,2 * m+1)]):=Ext.snoc σ _
      have hget:(σ++[(w.heap.size,0,2 * m+1)])[nx]? =some (w.heap.size,0,2 * m+1):=by rw [←hn];simp
      have hnew:=hw.new (qbh ks (List.replicate m (l.map (SE.val e)))) el
      refine ⟨_,⟨σ++[(w.heap.size,0,2 * m+1)],(w.heap.size,qbh ks (List.replicate m (l.map (SE.val e))),el)::LM,hxt,by simp [hn],?_,?_,by simp⟩,hnew⟩
      ·have:=RelC.sli (e:=e) (x:= .lrep a (seL l)) hget
       rw [hlst,List.length_replicate,qcz (by unfold maxLen;omega)] at this
       unfold slV at this
       rw [if_neg (by omega),show (2 * m+1) / 2=m by omega] at this
       exact .one this
      ·have:=RM.big (P:=c.P) (e:=e) (x:= .lrep a (seL l)) (ks:=ks) (T:=el) (o:=true) (rest:=[]) hget (by unfold maxLen;omega) ⟨i,hi,by rw [hsz,hks]⟩ (by rw [hlst,List.length_replicate];exact Nat.le_refl _) (by rw [hlst,qdi,List.length_replicate];simp) (hm.mono hxt)
       rw [hlst,List.append_nil] at this
       exact this
    ·cases h
   ·cases h
  ·cases h
 ·cases h
theorem qjf {w w':World} {L1:List Blk} {row:Option Nat} {g':Nat} {cs:List Value} {T:TypeId} (hw:Own w0 L1 w) (hg:w.grownBy w' row) (hrow:∀k,row=some k→w0.heap.size≤k) (hne:∀b∈L1,some b.1≠row) (hb:w0.heap.size≤g')
  (hg':w'.heap[g']? =some (.cells (List.toArray cs) T (0,0))) (hn:∀b∈L1,b.1≠g'):Own w0 ((g',cs,T)::L1) w':=by
 refine ⟨hw.below.trans ⟨hg.os,hg.tape,hg.output,by have:=hg.size;have:=hw.below.size;omega,fun k hk=>hg.block k (Nat.lt_of_lt_of_le hk hw.below.size) (fun q=>by have:=hrow k q.symm;omega)⟩,?_,?_,?_⟩
 ·intro b hm
  rcases List.mem_cons.1 hm with rfl |hm
  ·exact hb
  ·exact hw.base b hm
 ·intro b hm
  rcases List.mem_cons.1 hm with rfl |hm
  ·exact hg'
  ·rw [hg.block b.1 (hw.lt hm) (hne b hm)];exact hw.held b hm
 ·exact List.pairwise_cons.2 ⟨fun b hm=>(hn b hm).symm,hw.apart⟩
theorem qtt:∀{M:MB} {k:Nat},qjc M k=none→lkB M k=none
 |[],_,_=>rfl
 |(k',x)::r,k,h=>by
  simp only [qjc] at h
  simp only [lkB]
  cases hb:Nat.beq k' k with
  |true=>rw [hb,cond_true] at h;cases h
  |false=>
   simp only [hb,cond_false] at h ⊢
   split at h
   ·cases h
   ·rename_i hr;exact qtt hr
theorem q6r {M:MB} {el size n k:Nat} {a:C} {old:List C} (h:qt9 M el size a=some (some k,n,old)) (ho:qjc M k=none):False:=by
 have hn:=qtt ho
 unfold qt9 at h
 split at h
 ·cases h
 ·split at h
  ·rename_i cs T hl
   cases hb:(Nat.beq T el&&Nat.beq cs.length (_ * size)) with
   |false=>rw [hb,cond_false] at h;cases h
   |true=>rw [hb,cond_true] at h;cases h;rw [hn] at hl;cases hl
  ·cases h
 ·split at h
  ·rename_i n' cap _ cs T hl
   cases hb:(Nat.beq T el&&Nat.beq cs.length (cap * size)&&Nat.ble n' cap&&Nat.ble cap 4294967296) with
   |false=>rw [hb,cond_false] at h;cases h
   |true=>rw [hb,cond_true] at h;cases h;rw [hn] at hl;cases hl
  ·cases h
 ·cases h
theorem qnk {M:MB} {LM:List Blk} (hm:RM c.P e σ M LM) {el size:Nat} (h0:0<size) {i:TypeInfo} (hi:c.P.info? el=some i) (hs:i.size=size) {a:C} {ok:Option Nat} {n:Nat} {old:List C} (h:qt9 M el size a=some (ok,n,old)) {u:Value} (hu:RelC e σ a u):
  ∃xs,RelCs e σ old xs∧(∀w,Own w0 LM w→w.ownsRow w0.heap.size el size u n xs)∧
   ((ok=none∧u.ownBlock=none)∨∃k g,ok=some k∧u.ownBlock=some g∧(∃cs,(g,cs,el)∈LM)∧∀b M',qjc M k=some (b,M')→∃L' cs',RM c.P e σ M' L'∧LM.Perm ((g,cs',el)::L')):=by
 unfold qt9 at h
 split at h
 ·cases h
  cases hu
  exact ⟨[],.nil,fun w _=>World.ownsRow_nil w _ _ _,.inl ⟨rfl,rfl⟩⟩
 ·rename_i k n'
  split at h
  ·rename_i cs T hl
   cases hb:(Nat.beq T el&&Nat.beq cs.length (n' * size)) with
   |false=>rw [hb,cond_false] at h;cases h
   |true=>
    rw [hb,cond_true] at h;cases h
    simp only [Bool.and_eq_true] at hb
    have hT:=Nat.eq_of_beq_eq_true hb.1
    have hn:=Nat.eq_of_beq_eq_true hb.2
    subst hT
    obtain ⟨g,gc,vs,rest,a1,a2,a3,a4,a5,a6⟩:=hm.look2 hl
    obtain ⟨h63,i',hi',hlen⟩:=a4 rfl
    rw [hi] at hi';cases hi'
    rw [hs] at hlen
    cases hu with |slo hk=>
    rw [a1] at hk;cases hk
    have hvs:vs.length=n * size:=by rw [a2.len,hn]
    have hle:n≤gc:=by
     have:n * size≤gc * size:=by omega
     exact Nat.le_of_mul_le_mul_right this h0
    refine ⟨vs,a2,fun w hw=>⟨hvs,.inr ⟨g,gc,(vs++rest).toArray,rfl,hw.base _ a5,hw.held _ a5,hle,h63,by simp [hlen],?_⟩⟩,.inr ⟨k,g,rfl,rfl,⟨_,a5⟩,fun b M' hout=> ?_⟩⟩
    ·show (vs++rest).take (n * size)=vs
     rw [←hvs];exact List.take_left
    ·obtain ⟨L',b1,b2⟩:=a6 _ _ hout
     exact ⟨L',_,b1,b2⟩
  ·cases h
 ·rename_i k n' cap
  split at h
  ·rename_i cs T hl
   cases hb:(Nat.beq T el&&Nat.beq cs.length (cap * size)&&Nat.ble n' cap&&Nat.ble cap 4294967296) with
   |false=>rw [hb,cond_false] at h;cases h
   |true=>
    rw [hb,cond_true] at h;cases h
    simp only [Bool.and_eq_true] at hb
    obtain ⟨⟨⟨hT,hn⟩,hnc⟩,hc4⟩:=hb
    have hT:=Nat.eq_of_beq_eq_true hT
    have hn:=Nat.eq_of_beq_eq_true hn
    have hnc:=Nat.le_of_ble_eq_true hnc
    have hc4:=Nat.le_of_ble_eq_true hc4
    subst hT
    obtain ⟨g,gc,vs,rest,a1,a2,a3,a4,a5,a6⟩:=hm.look2 hl
    have hr:=a3 rfl
    subst hr
    rw [List.append_nil] at a5 a6
    cases hu with |sl hk=>
    rw [a1] at hk;cases hk
    have hvs:vs.length=cap * size:=by rw [a2.len,hn]
    have hle:n * size≤cap * size:=Nat.mul_le_mul_right _ hnc
    refine ⟨vs.take (n * size),a2.take _,fun w hw=>⟨by rw [List.length_take];omega,.inr ⟨g,cap,vs.toArray,rfl,hw.base _ a5,hw.held _ a5,hnc,by unfold maxLen;omega,by simp [hvs],rfl⟩⟩,.inr ⟨k,g,rfl,rfl,⟨_,a5⟩,fun b M' hout=> ?_⟩⟩
    obtain ⟨L',b1,b2⟩:=a6 _ _ hout
    exact ⟨L',_,b1,b2⟩
  ·cases h
 ·cases h
theorem qn8 {M:MB} {LM:List Blk} (hm:RM c.P e σ M LM) {size:Nat} (h0:0<size) {m:List MB} (hS:FS c.P e σ m) (hMm:∀k x,lkB M k=some x→lkM m k=some x) {b:C} {n:Nat} {news:List C} (h:q4z c.P M m size b=some (n,news)) (hn0:n≠0) {u:Value} (hu:RelC e σ b u):
  ∃(ad:Addr) (cp:Nat) (ys:List Value),u= .slice (some ad) n cp∧RelCs e σ news ys∧ys.length=n * size∧∀w,FR c.P e σ m w→∀j v,ys[j]? =some v→w.cell? (ad.add j)=some v:=by
 unfold q4z at h
 split at h
 ·cases h;exact absurd rfl hn0
 ·rename_i k l sz n'
  split at h
  ·rename_i cs T hl
   simp only at h
   cases hb:(Nat.beq ((cs.drop (l * size)).take (n' * size)).length (n' * size)&&Nat.beq sz size&&decide ((c.P.info? T).map (·.size)=some size)) with
   |false=>rw [hb,cond_false] at h;cases h
   |true=>
    rw [hb,cond_true] at h;cases h
    simp only [Bool.and_eq_true] at hb
    have hb1:=Nat.eq_of_beq_eq_true hb.1.1
    have hb2:=Nat.eq_of_beq_eq_true hb.1.2
    have hb3:=hb.2
    subst hb2
    obtain ⟨g,gb,gc,vs,a1,a2,a4⟩:=hS.n _ _ _ _ hl
    obtain ⟨i',hi',hlen⟩:=a4 rfl
    have hs2:=of_decide_eq_true hb3
    rw [hi'] at hs2
    have hs2:i'.size=sz:=by simpa using hs2
    rw [hs2] at hlen
    cases hu with |slt hk=>
    rw [a1] at hk;cases hk
    have hr:=(a2.drop (l * sz)).take (n * sz)
    have hne:¬gc=l:=by
     intro q
     have h1:((cs.drop (l * sz)).take (n * sz)).length≤cs.length - l * sz:=by simp;omega
     rw [hb1] at h1
     have h2:=a2.len
     have h3:0<n * sz:=Nat.mul_pos (Nat.pos_of_ne_zero hn0) h0
     subst q
     omega
    rw [if_neg hne]
    refine ⟨_,_,_,rfl,hr,by rw [hr.len];exact hb1,fun w hw j v hj=> ?_⟩
    obtain ⟨g2,gb2,gc2,vs2,c1,c2,c3,c4,_⟩:=hw.n _ _ _ _ hl
    rw [a1] at c1;cases c1
    rw [a2.det c2] at hj
    rw [qds,Nat.add_assoc]
    exact c4 _ _ (qc2 rfl j v hj)
  ·cases h
 ·rename_i k off n' cap
  split at h
  ·rename_i cs T op hl
   simp only at h
   cases hb:Nat.beq ((cs.drop off).take (n' * size)).length (n' * size) with
   |false=>rw [hb,cond_false] at h;cases h
   |true=>
    rw [hb,cond_true] at h;cases h
    have hb:=Nat.eq_of_beq_eq_true hb
    obtain ⟨g,gb,gc,vs,a1,a2,_⟩:=hS.n _ _ _ _ hl
    cases hu with |sl hk=>
    rw [a1] at hk;cases hk
    have hr:=(a2.drop off).take (n * size)
    refine ⟨_,_,_,rfl,hr,by rw [hr.len];exact hb,fun w hw j v hj=> ?_⟩
    obtain ⟨g2,gb2,gc2,vs2,c1,c2,c3,c4,_⟩:=hw.n _ _ _ _ hl
    rw [a1] at c1;cases c1
    rw [a2.det c2] at hj
    rw [qds,Nat.add_assoc]
    exact c4 _ _ (qc2 rfl j v hj)
  ·cases h
 ·rename_i k n'
  split at h
  ·rename_i cs T op hl
   simp only at h
   cases hb:Nat.beq (cs.take (n' * size)).length (n' * size) with
   |false=>rw [hb,cond_false] at h;cases h
   |true=>
    rw [hb,cond_true] at h;cases h
    have hb:=Nat.eq_of_beq_eq_true hb
    obtain ⟨g,gb,gc,vs,a1,a2,_⟩:=hS.n _ _ _ _ hl
    cases hu with |slo hk=>
    rw [a1] at hk;cases hk
    have hr:=a2.take (n * size)
    refine ⟨_,_,_,rfl,hr,by rw [hr.len];exact hb,fun w hw j v hj=> ?_⟩
    obtain ⟨g2,gb2,gc2,vs2,c1,c2,c3,c4,_⟩:=hw.n _ _ _ _ hl
    rw [a1] at c1;cases c1
    rw [a2.det c2] at hj
    rw [qds]
    have:vs2[0+j]? =some v:=qc2 (off:=0) (n:=n * size) rfl j v (by simpa using hj)
    rw [Nat.zero_add] at this
    exact c4 _ _ this
  ·cases h
 ·cases h
theorem qsh {α:Type} {b:Bool} {x y:α} (h:(bif b then some x else none)=some y):x=y:=by cases b<;>cases h;rfl
theorem zk6 {m:List MB} {M:MB} {size n:Nat} {b:C} {news:List C} (h:q4z c.P M m size b=some (n,news)) {u:Value} (hu:RelC e σ b u):∃xa cp,u= .slice xa n cp:=by
 unfold q4z at h
 split at h
 ·cases h;cases hu;exact ⟨_,_,rfl⟩
 ·split at h
  ·dsimp only at h
   have hq:=qsh h
   cases hq;cases hu;exact ⟨_,_,rfl⟩
  ·cases h
 ·split at h
  ·dsimp only at h
   have hq:=qsh h
   cases hq;cases hu;exact ⟨_,_,rfl⟩
  ·cases h
 ·split at h
  ·dsimp only at h
   have hq:=qsh h
   cases hq;cases hu;exact ⟨_,_,rfl⟩
  ·cases h
 ·cases h
theorem qpx (hρ:∀x v,ρ' x=some v→RelV e σ v (ρ x)) {cl:Call} {t:TypeId} {x y:Operand} (ho:o.op= .call cl) (hcl:cl.callee= .builtin .append) (hca:cl.args=#[x,y]) (hct:cl.argTypes=#[t,t]) {M:MB} {LM:List Blk} (hm:RM c.P e σ M LM) {F:List MB} (hF:FR c.P e σ F w0) {nx:Nat} (hn:σ.length=nx) {v:V} {M':MB} {nx':Nat}
  (h:qrq c ρ' t x y M F nx=some (v,M',nx')):EV c.P w0 o ρ LM (q50 c e σ nx' v M' []):=by
 unfold qrq at h
 split at h
 ·rename_i a b el hx hy hu
  split at h
  ·rename_i size bytes zc hz
   obtain ⟨i,z,hi,hzr,hsz,hby,hzs,h0,hrel⟩:=qnu (e:=e) (σ:=σ) hz
   split at h
   ·rename_i okk n old m news hrow hnews
    have hxv:=qd0 (hρ _ _ hx)
    have hyv:=qd0 (hρ _ _ hy)
    cases hm00:Nat.beq m 0 with
    |true=>
     rw [hm00,cond_true] at h
     simp only [Option.some.injEq,Prod.mk.injEq] at h
     obtain ⟨rfl,rfl,rfl⟩:=h
     have hm0:=Nat.eq_of_beq_eq_true hm00
     subst hm0
     obtain ⟨xs,r1,r2,r3⟩:=qnk (w0:=w0) hm h0 hi hsz hrow hxv
     obtain ⟨xa,cp,hyu⟩:=zk6 hnews hyv
     intro w hw
     have hown:=(r2 w hw).2
     have hrun:(execOp ρ o).run c.P w= .ok (.value (ρ x)) w:=by
      have q1:(Builtin.append_ #[t,t] o.type #[ρ x,.slice xa 0 cp]).run c.P w= .ok (ρ x) w:=by
       rcases hown with ⟨hv,_⟩ |⟨g,cap,cur,hv,_,_,hnc,_⟩
       ·rw [hv]
        cases xa<;>simp [Builtin.append_,run_underlying hu,sizeOf,typeInfo,hi,Builtin.lenOf,Builtin.firstCells,loadCells,loadCellsFrom]
       ·rw [hv]
        cases xa<;>simp [Builtin.append_,run_underlying hu,sizeOf,typeInfo,hi,Builtin.lenOf,Builtin.firstCells,loadCells,loadCellsFrom,storeCells,hnc]
      rw [←hyu] at q1
      simp [execOp,ho,resolve,hcl,hca,hct,Sem.run_bind,invoke,builtin,q1]
     rw [hrun]
     exact ⟨LM,⟨σ,LM,Ext.refl σ,hn,hρ _ _ hx,hm,by simp⟩,hw⟩
    |false=>
    rw [hm00,cond_false] at h
    cases hb:(Nat.blt 0 m&&Nat.ble (n+m) 4294967296&&Nat.ble ((n+m) * bytes) 140737488355328) with
    |false=>rw [hb,cond_false] at h;cases h
    |true=>
     rw [hb,cond_true] at h
     simp only [qp4,Option.some.injEq,Prod.mk.injEq] at h
     obtain ⟨rfl,rfl,rfl⟩:=h
     simp only [Bool.and_eq_true] at hb
     have hm0:0<m:=by simpa [Nat.blt_eq] using hb.1.1
     have hb1:=Nat.le_of_ble_eq_true hb.1.2
     have hb2:=Nat.le_of_ble_eq_true hb.2
     obtain ⟨xs,r1,r2,r3⟩:=qnk (w0:=w0) hm h0 hi hsz hrow hxv
     obtain ⟨ad,cp,ys,hyu,s1,s2,s3⟩:=qn8 hm h0 (m:=M::F) (FS.cons hm hF.fs) (fun k x hk=>by simp only [lkM,hk]) hnews (by omega) hyv
     intro w hw
     have hF':FR c.P e σ (M::F) w:=FR.cons hm hw (fun b hb=>hb) (hF.later hw.below (Nat.le_refl _))
     have h1c:∀u∈ys,u.oneCell'=true:=fun u hu'=>by
      have:=List.all_eq_true.1 s1.ones u hu'
      cases u<;>simp [oneC] at this<;>rfl
     obtain ⟨v',w',q1,q2,q3,q4,q5⟩:=run_append_own_at (P:=c.P) w w0.heap.size t o.type el i z size bytes hu hi hzr hsz hby hzs h0 (ρ x) n xs (r2 w hw) ad m cp ys s2 (s3 w hF') h1c (by unfold maxLen;omega) hb2 hw.below.size
     have hrun:(execOp ρ o).run c.P w= .ok (.value v') w':=by
      rw [←hyu] at q1
      simp [execOp,ho,resolve,hcl,hca,hct,Sem.run_bind,invoke,builtin,q1]
     rw [hrun]
     obtain ⟨ql,⟨qn,_⟩ |⟨g',cap',cur,rfl,qb,qg,qnc,qcm,qcs,qt⟩⟩:=q2
     ·exfalso
      have:=(q4.1 qn).2
      omega
     ·have hxt:Ext σ (σ++[(g',0,cap')]):=Ext.snoc σ _
      have hget:(σ++[(g',0,cap')])[nx]? =some (g',0,cap'):=by rw [←hn];simp
      have hcur:cur.toList=(xs++ys)++cur.toList.drop ((n+m) * size):=by
       rw [←qt];exact (List.take_append_drop _ _).symm
      have hlen2:(xs++ys).length+(cur.toList.drop ((n+m) * size)).length=cap' * size:=by
       rw [←List.length_append,←hcur];simpa using qcs
      have hRM:∀(M1:MB) (L1:List Blk),RM c.P e σ M1 L1→RM c.P e (σ++[(g',0,cap')]) ((nx,old++news,el,true)::M1) ((g',cur.toList,el)::L1):=fun M1 L1 h1=>by
       have:=RM.cons (P:=c.P) (T:=el) (o:=true) hget (((r1.app s1)).mono hxt) (rest:=cur.toList.drop ((n+m) * size)) (fun hq=>by cases hq) (fun _=>⟨qcm,i,hi,by rw [hsz];exact hlen2⟩) (h1.mono hxt)
       rw [←hcur] at this
       exact this
      have fin:∀(M1:MB) (L1:List Blk),RM c.P e σ M1 L1→Own w0 ((g',cur.toList,el)::L1) w'→∃L',q50 c e σ (nx+1) (.one (.slo nx (n+m))) ((nx,old++news,el,true)::M1) [] (.slice (some ⟨g',0,none⟩) (n+m) cap') L'∧Own w0 L' w':=fun M1 L1 h1 h2=>
       ⟨_,⟨σ++[(g',0,cap')],_,hxt,by simp [hn],.one (.slo hget),hRM M1 L1 h1,by simp⟩,h2⟩
      rcases r3 with ⟨rfl,hnone⟩ |⟨k,g,rfl,hsome,⟨cs0,hin⟩,hout⟩
      ·have hg':g'=w.heap.size:=by
        rcases q5 with q5 |q5
        ·rw [hnone] at q5;cases q5
        ·simpa [Value.ownBlock] using q5
       exact fin M LM hm (qjf hw q3 (fun k hk=>by rw [hnone] at hk;cases hk) (fun b hb=>by rw [hnone];simp) qb qg (fun b hb=>by have:=hw.lt hb;omega))
      ·have hgb:w0.heap.size≤g:=hw.base _ hin
       have hcase:∀(L1:List Blk) (cs':List Value),LM.Perm ((g,cs',el)::L1)→Own w0 ((g',cur.toList,el)::L1) w':=fun L1 cs' hp=>by
        have hw1:=hw.perm hp
        have hap:=(List.pairwise_cons.1 hw1.apart).1
        refine qjf hw1.tail q3 (fun k hk=>by rw [hsome] at hk;cases hk;exact hgb) (fun b hb=>by rw [hsome];intro q;exact hap b hb (by simpa using q.symm)) qb qg (fun b hb=> ?_)
        rcases q5 with q5 |q5
        ·rw [hsome] at q5
         have:g'=g:=by simpa [Value.ownBlock] using q5
         rw [this];exact (hap b hb).symm
        ·have:g'=w.heap.size:=by simpa [Value.ownBlock] using q5
         have:=hw1.tail.lt hb
         omega
       simp only
       cases hob:qjc M k with
       |none=>
        exfalso
        exact q6r hrow hob
       |some bm=>
        obtain ⟨b1,M1⟩:=bm
        obtain ⟨L1,cs',e1,e2⟩:=hout _ _ hob
        exact fin M1 L1 e1 (hcase L1 cs' e2)
   ·cases h
  ·cases h
 ·cases h
theorem zgy:∀{M:MB} {k:Nat} {x:SE×Ks×TypeId},lkL M k=some x→∃b M',qjc M k=some (b,M')
 |[],_,_,h=>by cases h
 |(k',cs,T,o)::r,k,x,h=>by
  simp only [lkL] at h
  simp only [qjc]
  cases hb:Nat.beq k' k with
  |true=>exact ⟨_,_,rfl⟩
  |false=>
   simp only [hb,cond_false] at h ⊢
   obtain ⟨b,M',h1⟩:=zgy h
   rw [h1];exact ⟨_,_,rfl⟩
theorem qw6:∀{M:MB} {k:Nat} {x:List C×TypeId×Bool},lkB M k=some x→∃b M',qjc M k=some (b,M')
 |[],_,_,h=>by cases h
 |(k',cs,T,o)::r,k,x,h=>by
  simp only [lkB] at h
  simp only [qjc]
  cases hb:Nat.beq k' k with
  |true=>exact ⟨_,_,rfl⟩
  |false=>
   simp only [hb,cond_false] at h ⊢
   obtain ⟨b,M',h1⟩:=qw6 h
   rw [h1];exact ⟨_,_,rfl⟩
theorem qm4 {ks:Ks}:∀{n:Nat} {cs:List C} {q:SE} {vs:List Value},qqz ks n cs=some q→RelCs e σ cs vs→vs=qbh ks (q.lst e)∧(q.lst e).length=n
 |0,[],q,vs,h,hr=>by cases h;cases hr;rw [qgf];exact ⟨rfl,rfl⟩
 |0,_::_,q,vs,h,hr=>by cases h
 |1,cs,q,vs,h,hr=>by
  simp only [qqz] at h
  split at h
  ·rename_i l hl;cases h
   obtain ⟨r1,r2⟩:=qh6 (j:=0) (el:=l.map (SE.val e)) hl hr fun i _=>by rw [Nat.zero_add]
   rw [qf3,qhl,qd6]
   exact ⟨by rw [r1];simp [qbh],rfl⟩
  ·cases h
 |n+2,cs,q,vs,h,hr=>by
  simp only [qqz] at h
  split at h
  ·rename_i l y hl hy;cases h
   obtain ⟨r1,r2⟩:=qh6 (j:=0) (el:=l.map (SE.val e)) hl (hr.take ks.length) fun i _=>by rw [Nat.zero_add]
   obtain ⟨r3,r4⟩:=qm4 hy (hr.drop ks.length)
   rw [qc3,qf3,qhl,qli,qd6]
   refine ⟨?_,by simp only [List.length_append,List.length_singleton,r4];omega⟩
   rw [←r1,←r3,show qbh ks []=[] from rfl,List.append_nil,List.take_append_drop]
  ·cases h
theorem q5r {M:MB} {LM:List Blk} (hm:RM c.P e σ M LM) {el size:Nat} {ks:Ks} (hks:ks.length=size) {i:TypeInfo} (hi:c.P.info? el=some i) (hs:i.size=size) {a:C} {ok:Option Nat} {p:SE} (h:rowL M el ks a=some (ok,p)) {u:Value} (hu:RelC e σ a u):
  (p.lst e).length≤maxLen∧(∀w,Own w0 LM w→w.ownsRow w0.heap.size el size u (p.lst e).length (qbh ks (p.lst e)))∧
   ((u= .slice none 0 0∧p.lst e=[]∧RM c.P e σ (qn5 M ok) LM)∨∃g cp rest L',u= .slice (some ⟨g,0,none⟩) (p.lst e).length cp∧cp≤maxLen∧(p.lst e).length≤cp∧(qbh ks (p.lst e)).length+rest.length=cp * size∧RM c.P e σ (qn5 M ok) L'∧LM.Perm ((g,qbh ks (p.lst e)++rest,el)::L')):=by
 unfold rowL at h
 split at h
 ·cases h
  cases hu
  rw [qgf]
  exact ⟨Nat.zero_le _,fun w _=>World.ownsRow_nil w _ _ _,.inl ⟨rfl,rfl,hm⟩⟩
 ·rename_i k
  split at h
  ·rename_i T hl
   cases hb:Nat.beq T el with
   |false=>rw [hb,cond_false] at h;cases h
   |true=>
    rw [hb,cond_true] at h;cases h
    have hT:=Nat.eq_of_beq_eq_true hb
    subst hT
    obtain ⟨g,gc,vs,rest,a1,a2,a3,a4,a5,a6⟩:=hm.look2 hl
    cases a2
    have hr:=a3 rfl
    subst hr
    cases hu with |sl hk=>
    rw [a1] at hk;cases hk
    rw [qgf]
    obtain ⟨b0,M1,ho⟩:=qw6 hl
    obtain ⟨L',b1,b2⟩:=a6 _ _ ho
    refine ⟨Nat.zero_le _,fun w hw=>⟨by simp [qbh],.inr ⟨g,0,#[],rfl,hw.base _ a5,hw.held _ a5,Nat.le_refl _,Nat.zero_le _,by simp,by simp [qbh]⟩⟩,.inr ⟨g,0,[],L',rfl,Nat.zero_le _,Nat.le_refl _,by simp [qbh],?_,?_⟩⟩
    ·simp only [qn5,ho];exact b1
    ·exact b2
  ·cases h
 ·rename_i k n cap
  split at h
  ·rename_i cs T hl
   cases hb:(Nat.beq T el&&Nat.beq (n+1) cap&&Nat.ble cap 1000000) with
   |false=>rw [hb,cond_false] at h;cases h
   |true=>
    rw [hb,cond_true] at h
    split at h
    ·rename_i q hq
     cases h
     simp only [Bool.and_eq_true] at hb
     have hT:=Nat.eq_of_beq_eq_true hb.1.1
     have hn:=Nat.eq_of_beq_eq_true hb.1.2
     have hc:=Nat.le_of_ble_eq_true hb.2
     subst hT
     obtain ⟨g,gc,vs,rest,a1,a2,a3,a4,a5,a6⟩:=hm.look2 hl
     have hr:=a3 rfl
     subst hr
     rw [List.append_nil] at a5 a6
     cases hu with |sl hk=>
     rw [a1] at hk;cases hk
     obtain ⟨r1,r2⟩:=qm4 hq a2
     obtain ⟨b0,M1,ho⟩:=qw6 hl
     obtain ⟨L',b1,b2⟩:=a6 _ _ ho
     have hl1:(p.lst e).length=n+1:=r2
     have hfl:(qbh ks (p.lst e)).length=(n+1) * size:=by rw [qdi,hks,hl1]
     have hml:maxLen=9223372036854775807:=rfl
     rw [←hn] at hc ⊢
     refine ⟨by rw [hl1];unfold maxLen;omega,fun w hw=>⟨by rw [hfl,hl1],.inr ⟨g,n+1,vs.toArray,by rw [hl1],hw.base _ a5,hw.held _ a5,by rw [hl1];exact Nat.le_refl _,by unfold maxLen;omega,by rw [r1];simp [hfl],by rw [hl1,r1,←hfl];simp⟩⟩,.inr ⟨g,n+1,[],L',by rw [hl1],by unfold maxLen;omega,by rw [hl1];exact Nat.le_refl _,by rw [List.length_nil,Nat.add_zero,hfl],?_,?_⟩⟩
     ·simp only [qn5,ho];exact b1
     ·rw [List.append_nil,←r1];exact b2
    ·cases h
  ·cases h
 ·rename_i k x
  split at h
  ·rename_i x' ks' T hl
   cases hb:(decide (x=x')&&decide (ks=ks')&&Nat.beq T el) with
   |false=>rw [hb,cond_false] at h;cases h
   |true=>
    rw [hb,cond_true] at h;cases h
    simp only [Bool.and_eq_true,decide_eq_true_eq] at hb
    obtain ⟨⟨rfl,rfl⟩,hT⟩:=hb
    have hT:=Nat.eq_of_beq_eq_true hT
    subst hT
    obtain ⟨b0,M1,ho⟩:=zgy hl
    cases hu with |sli hk=>
    rcases hm.lookL hl with ⟨g,b,a1,a2,a3⟩ |⟨g,cp,rest,a1,a2,a3,a4,a5,a6,a7⟩
    ·rw [a1] at hk;cases hk
     rw [a2]
     refine ⟨Nat.zero_le _,fun w hw=>World.ownsRow_nil w _ _ _,.inl ⟨rfl,rfl,?_⟩⟩
     simp only [qn5,ho];exact a3 _ _ ho
    ·rw [a1] at hk;cases hk
     have hsat:sat (p.lst e).length=(p.lst e).length:=qcz (by omega)
     have hv:∀g,slV (sat (p.lst e).length) g 0 (2 * cp+1)= .slice (some ⟨g,0,none⟩) (p.lst e).length cp:=fun g=>by
      unfold slV;rw [if_neg (by omega),hsat,show (2 * cp+1) / 2=cp by omega]
     rw [hv]
     obtain ⟨L',b1,b2⟩:=a7 _ _ ho
     rw [hks] at a5
     refine ⟨by omega,fun w hw=>⟨by rw [qdi,hks],.inr ⟨_,cp,(qbh ks (p.lst e)++rest).toArray,rfl,hw.base _ a6,hw.held _ a6,a4,a2,by simp [a5],?_⟩⟩,.inr ⟨_,cp,rest,L',rfl,a2,a4,a5,?_,b2⟩⟩
     ·show (qbh ks (p.lst e)++rest).take ((p.lst e).length * size)=qbh ks (p.lst e)
      rw [←hks,←qdi];exact List.take_left
     ·simp only [qn5,ho];exact b1
  ·cases h
 ·cases h
theorem qxt {M:MB} {LM:List Blk} (hm:RM c.P e σ M LM) {size:Nat} (h0:0<size) {ks:Ks} (hks:ks.length=size) {m:List MB} (hS:FS c.P e σ m) (hMm:∀k x,lkB M k=some x→lkM m k=some x) {b:C} {q:SE} (h:zrx c.P M m ks size b=some q) {u:Value} (hu:RelC e σ b u):
  ∃xa cp,u= .slice xa (q.lst e).length cp∧(0<(q.lst e).length→∃ad:Addr,xa=some ad∧∀w,FR c.P e σ m w→∀j v,(qbh ks (q.lst e))[j]? =some v→w.cell? (ad.add j)=some v):=by
 unfold zrx at h
 split at h
 ·rename_i k x
  split at h
  ·rename_i x' ks' T hl
   cases hb:(decide (x=x')&&decide (ks=ks')) with
   |false=>rw [hb,cond_false] at h;cases h
   |true=>
    rw [hb,cond_true] at h;cases h
    simp only [Bool.and_eq_true,decide_eq_true_eq] at hb
    obtain ⟨rfl,rfl⟩:=hb
    obtain ⟨g,gb,gc,a1,a2,a3⟩:=hS.l _ _ _ _ hl
    cases hu with |sli hk=>
    rw [a1] at hk;cases hk
    rw [qcz a2]
    refine ⟨_,_,rfl,fun hpos=> ?_⟩
    rw [if_neg (by omega)]
    refine ⟨_,rfl,fun w hw j v hj=> ?_⟩
    obtain ⟨g2,gb2,gc2,c1,c2,c3,c4⟩:=hw.l _ _ _ _ hl
    rw [a1] at c1;cases c1
    rw [qds]
    exact (c4 j v hj).2
  ·cases h
 ·split at h
  ·rename_i n cs hn
   cases hb:(Nat.blt 0 n&&Nat.ble n 1000000) with
   |false=>rw [hb,cond_false] at h;cases h
   |true=>
    rw [hb,cond_true] at h
    simp only [Bool.and_eq_true] at hb
    have hn0:0<n:=by simpa [Nat.blt_eq] using hb.1
    obtain ⟨ad,cp,ys,e1,e2,e3,e4⟩:=qn8 hm h0 hS hMm hn (by omega) hu
    obtain ⟨r1,r2⟩:=qm4 h e2
    refine ⟨_,cp,by rw [r2];exact e1,fun _=>⟨ad,rfl,fun w hw j v hj=> ?_⟩⟩
    rw [←r1] at hj
    exact e4 w hw j v hj
  ·cases h
theorem zij (p q:SE):(qud p q).lst e=p.lst e++q.lst e:=by
 unfold qud
 split
 ·rw [qgf];rfl
 ·exact qc3 _ _
theorem qtz (hd:DOK c e) (hρ:∀x v,ρ' x=some v→RelV e σ v (ρ x)) {cl:Call} {t:TypeId} {x y:Operand} (ho:o.op= .call cl) (hcl:cl.callee= .builtin .append) (hca:cl.args=#[x,y]) (hct:cl.argTypes=#[t,t]) {M:MB} {LM:List Blk} (hm:RM c.P e σ M LM) {F:List MB} (hF:FR c.P e σ F w0) {nx:Nat} (hn:σ.length=nx) {v:V} {M':MB} {nx':Nat}
  (h:zay c ρ' t x y M F nx=some (v,M',nx')):EV c.P w0 o ρ LM (q50 c e σ nx' v M' []):=by
 unfold zay at h
 split at h
 ·rename_i a b el hx hy hu
  split at h
  ·rename_i size bytes zc hz
   obtain ⟨i,z,hi,hzr,hsz,hby,hzs,h0,hrel⟩:=qnu (e:=e) (σ:=σ) hz
   split at h
   ·rename_i ks hks0
    have hks:ks.length=size:=by rw [qnz hks0,←hrel.len,←hzs];simp
    split at h
    ·rename_i okk p q hrow hnews
     have hxv:=qd0 (hρ _ _ hx)
     have hyv:=qd0 (hρ _ _ hy)
     cases hb:(smB c p&&smB c q&&Nat.ble bytes 1000000) with
     |false=>rw [hb,cond_false] at h;cases h
     |true=>
      rw [hb,cond_true] at h
      simp only [Option.some.injEq,Prod.mk.injEq] at h
      obtain ⟨rfl,hM',rfl⟩:=h
      change (nx,[C.big (qud p q) ks],el,true)::qn5 M okk=M' at hM'
      subst hM'
      simp only [Bool.and_eq_true] at hb
      have sp:=qgm hd hb.1.1
      have sq:=qgm hd hb.1.2
      have sb:=Nat.le_of_ble_eq_true hb.2
      obtain ⟨r0,r2,r3⟩:=q5r (w0:=w0) hm hks hi hsz hrow hxv
      obtain ⟨xa,cp,hyu,hys⟩:=qxt hm h0 hks (m:=M::F) (FS.cons hm hF.fs) (fun k x hk=>by simp only [lkM,hk]) hnews hyv
      have hcat:(qud p q).lst e=p.lst e++q.lst e:=zij p q
      by_cases hm0:(q.lst e).length=0
      ·have hq0:q.lst e=[]:=List.length_eq_zero_iff.1 hm0
       rw [hq0,List.append_nil] at hcat
       rw [hm0] at hyu
       intro w hw
       have hown:=(r2 w hw).2
       have hrun:(execOp ρ o).run c.P w= .ok (.value (ρ x)) w:=by
        have q1:(Builtin.append_ #[t,t] o.type #[ρ x,.slice xa 0 cp]).run c.P w= .ok (ρ x) w:=by
         rcases hown with ⟨hv,_⟩ |⟨g,cap,cur,hv,_,_,hnc,_⟩
         ·rw [hv]
          cases xa<;>simp [Builtin.append_,run_underlying hu,sizeOf,typeInfo,hi,Builtin.lenOf,Builtin.firstCells,loadCells,loadCellsFrom]
         ·rw [hv]
          cases xa<;>simp [Builtin.append_,run_underlying hu,sizeOf,typeInfo,hi,Builtin.lenOf,Builtin.firstCells,loadCells,loadCellsFrom,storeCells,hnc]
        rw [←hyu] at q1
        simp [execOp,ho,resolve,hcl,hca,hct,Sem.run_bind,invoke,builtin,q1]
       rw [hrun]
       rcases r3 with ⟨hxn,hp0,hR⟩ |⟨g,cap,rest,L',hxs,hc1,hc2,hc3,hR,hP⟩
       ·have hxt:Ext σ (σ++[(0,0,0)]):=Ext.snoc σ _
        have hget:(σ++[(0,0,0)])[nx]? =some (0,0,0):=by rw [←hn];simp
        refine ⟨LM,⟨σ++[(0,0,0)],LM,hxt,by simp [hn],?_,.big0 hget (by rw [hcat,hp0]) (hR.mono hxt),by simp⟩,hw⟩
        have:=RelC.sli (e:=e) (x:=qud p q) hget
        rw [hcat,hp0] at this
        rw [hxn];exact .one this
       ·have hxt:Ext σ (σ++[(g,0,2 * cap+1)]):=Ext.snoc σ _
        have hget:(σ++[(g,0,2 * cap+1)])[nx]? =some (g,0,2 * cap+1):=by rw [←hn];simp
        refine ⟨(g,qbh ks ((qud p q).lst e)++rest,el)::L',⟨σ++[(g,0,2 * cap+1)],(g,qbh ks ((qud p q).lst e)++rest,el)::L',hxt,by simp [hn],?_,.big hget hc1 ⟨i,hi,by rw [hsz,hks]⟩ (by rw [hcat];exact hc2) (by rw [hcat,hks];exact hc3) (hR.mono hxt),by simp⟩,?_⟩
        ·have:=RelC.sli (e:=e) (x:=qud p q) hget
         rw [hcat,qcz r0] at this
         unfold slV at this
         rw [if_neg (by omega),show (2 * cap+1) / 2=cap by omega] at this
         rw [hxs];exact .one this
        ·rw [hcat];exact hw.perm hP
      ·have hpos:0<(q.lst e).length:=by omega
       obtain ⟨ad,rfl,hcell⟩:=hys hpos
       intro w hw
       have hF':FR c.P e σ (M::F) w:=FR.cons hm hw (fun b hb=>hb) (hF.later hw.below (Nat.le_refl _))
       have h1c:∀u∈qbh ks (q.lst e),u.oneCell'=true:=fun u hu'=>by
        have:=List.all_eq_true.1 (q6c ks (q.lst e)) u hu'
        cases u<;>simp [oneC] at this<;>rfl
       have hbyt:((p.lst e).length+(q.lst e).length) * bytes≤140737488355328:=by
        have:((p.lst e).length+(q.lst e).length) * bytes≤2000000 * 1000000:=Nat.mul_le_mul (by omega) sb
        omega
       obtain ⟨v',w',q1,q2,q3,q4,q5⟩:=run_append_own_at (P:=c.P) w w0.heap.size t o.type el i z size bytes hu hi hzr hsz hby hzs h0 (ρ x) (p.lst e).length (qbh ks (p.lst e)) (r2 w hw) ad (q.lst e).length cp (qbh ks (q.lst e)) (by rw [qdi,hks]) (hcell w hF') h1c (by unfold maxLen;omega) hbyt hw.below.size
       have hrun:(execOp ρ o).run c.P w= .ok (.value v') w':=by
        rw [←hyu] at q1
        simp [execOp,ho,resolve,hcl,hca,hct,Sem.run_bind,invoke,builtin,q1]
       rw [hrun]
       obtain ⟨ql,⟨qn,_⟩ |⟨g',cap',cur,rfl,qb,qg,qnc,qcm,qcs,qt⟩⟩:=q2
       ·exfalso
        have:=(q4.1 qn).2
        omega
       ·have hxt:Ext σ (σ++[(g',0,2 * cap'+1)]):=Ext.snoc σ _
        have hget:(σ++[(g',0,2 * cap'+1)])[nx]? =some (g',0,2 * cap'+1):=by rw [←hn];simp
        have hcur:cur.toList=qbh ks ((qud p q).lst e)++cur.toList.drop (((p.lst e).length+(q.lst e).length) * size):=by
         rw [hcat,qli,←qt];exact (List.take_append_drop _ _).symm
        have hlen2:(qbh ks ((qud p q).lst e)).length+(cur.toList.drop (((p.lst e).length+(q.lst e).length) * size)).length=cap' * ks.length:=by
         rw [←List.length_append,←hcur,hks];simpa using qcs
        have hRM:∀(M1:MB) (L1:List Blk),RM c.P e σ M1 L1→RM c.P e (σ++[(g',0,2 * cap'+1)]) ((nx,[.big (qud p q) ks],el,true)::M1) ((g',cur.toList,el)::L1):=fun M1 L1 h1=>by
         have:=RM.big (P:=c.P) (e:=e) (x:=qud p q) (ks:=ks) (T:=el) (o:=true) hget qcm ⟨i,hi,by rw [hsz,hks]⟩ (by rw [hcat,List.length_append];exact qnc) hlen2 (h1.mono hxt)
         rw [←hcur] at this
         exact this
        have fin:∀(M1:MB) (L1:List Blk),RM c.P e σ M1 L1→Own w0 ((g',cur.toList,el)::L1) w'→∃L',q50 c e σ (nx+1) (.one (.sli nx (qud p q))) ((nx,[.big (qud p q) ks],el,true)::M1) [] (.slice (some ⟨g',0,none⟩) ((p.lst e).length+(q.lst e).length) cap') L'∧Own w0 L' w':=fun M1 L1 h1 h2=>by
         refine ⟨(g',cur.toList,el)::L1,⟨σ++[(g',0,2 * cap'+1)],_,hxt,by simp [hn],?_,hRM M1 L1 h1,by simp⟩,h2⟩
         have:=RelC.sli (e:=e) (x:=qud p q) hget
         rw [hcat,List.length_append,qcz (by unfold maxLen;omega)] at this
         unfold slV at this
         rw [if_neg (by omega),show (2 * cap'+1) / 2=cap' by omega] at this
         exact .one this
        rcases r3 with ⟨hxn,hp0,hR⟩ |⟨g,cap,rest,L1,hxs,hc1,hc2,hc3,hR,hP⟩
        ·have hnone:(ρ x).ownBlock=none:=by rw [hxn];rfl
         have hg':g'=w.heap.size:=by
          rcases q5 with q5 |q5
          ·rw [hnone] at q5;cases q5
          ·simpa [Value.ownBlock] using q5
         exact fin _ LM hR (qjf hw q3 (fun k hk=>by rw [hnone] at hk;cases hk) (fun b hb=>by rw [hnone];simp) qb qg (fun b hb=>by have:=hw.lt hb;omega))
        ·have hsome:(ρ x).ownBlock=some g:=by rw [hxs];rfl
         have hw1:=hw.perm hP
         have hgb:w0.heap.size≤g:=hw1.base _ (.head _)
         have hap:=(List.pairwise_cons.1 hw1.apart).1
         refine fin _ L1 hR (qjf hw1.tail q3 (fun k hk=>by rw [hsome] at hk;cases hk;exact hgb) (fun b hb=>by rw [hsome];intro q;exact hap b hb (by simpa using q.symm)) qb qg (fun b hb=> ?_))
         rcases q5 with q5 |q5
         ·rw [hsome] at q5
          have:g'=g:=by simpa [Value.ownBlock] using q5
          rw [this];exact (hap b hb).symm
         ·have:g'=w.heap.size:=by simpa [Value.ownBlock] using q5
          have:=hw1.tail.lt hb
          omega
    ·cases h
   ·cases h
  ·cases h
 ·cases h
theorem q8m (ok:OK c e σ0) (hc:qjz c e σ0 call) (hx0:Ext σ0 σ) (hρ:∀x v,ρ' x=some v→RelV e σ v (ρ x)) {M:MB} {LM:List Blk} (hm:RM c.P e σ M LM) {F:List MB} (hF:FR c.P e σ F w0) {nx:Nat} (hn:σ.length=nx) {v:V} {M':MB} {nx':Nat}
  (h:evE c call ρ' o M F nx=some (v,M',nx')):EV c.P w0 o ρ LM (q50 c e σ nx' v M' []):=by
 have hh:∀w,Own w0 LM w→FR c.P e σ (M::F) w:=fun w hw=>FR.cons hm hw (fun b hb=>hb) (hF.later hw.below (Nat.le_refl _))
 have val:∀v,evQ c ρ' (M::F) o=some v→EV c.P w0 o ρ LM (q50 c e σ nx v M []):=fun v h=>by
  obtain ⟨u,h1,h2⟩:=qt2 (w0:=w0) hρ ok.d ok.g hx0 (FS.cons hm hF.fs) h
  exact qnt (h2 _ hh) ⟨σ,LM,Ext.refl σ,hn,h1,hm,by simp⟩
 cases hop:o.op
 case store t x y=>
  have:=qlx (w0:=w0) ok.d hρ hop hm hn h []
  simpa using this
 case makeSlice t x y=>
  unfold evE at h
  simp only [hop] at h
  exact quk ok.d hρ hop hm hn h
 case call cl=>
  unfold evE at h
  simp only [hop] at h
  split at h
  ·rename_i heq;cases heq
  ·rename_i heq;cases heq
  ·rename_i x y t t' heq
   cases hb:Nat.beq t t' with
   |false=>rw [hb,cond_false] at h;cases h
   |true=>
    rw [hb,cond_true] at h
    have:=Nat.eq_of_beq_eq_true hb
    subst this
    cases heq
    split at h
    ·rename_i r hr;cases h;exact qpx hρ hop rfl rfl rfl hm hF hn hr
    ·exact qtz ok.d hρ hop rfl rfl rfl hm hF hn h
  rotate_left
  ·rename_i hne;exact absurd rfl (hne cl)
  rename_i cl' _ heq
  cases heq
  split at h
  ·rename_i f vs hcl
   obtain ⟨us,hus,hrun⟩:=qhp (c:=c) hρ hcl hop
   split at h
   ·rename_i v' hx;cases h
    obtain ⟨u,h1,h2⟩:=ok.x σ hx0 f vs _ us hx hus
    exact qnt (q_of fun w _=>by rw [hrun w];exact h2 w) ⟨σ,LM,Ext.refl σ,hn,h1,hm,by simp⟩
   ·split at h
    ·rename_i v' hh';cases h
     obtain ⟨hf,u,h1,h2⟩:=ok.h σ hx0 f vs _ us hh' hus
     exact qnt (fun w hw=>by rw [hrun w,qbk hf];exact ⟨rfl,h2 w⟩) ⟨σ,LM,Ext.refl σ,hn,h1,hm,by simp⟩
    ·cases hW:c.W f with
     |true=>
      rw [hW,cond_true] at h
      obtain ⟨hf,h1⟩:=hc f vs M F nx v M' nx' h
      intro w hw
      rw [hrun w,qbk hf]
      refine (h1 w0 σ us LM hn hx0 hus hm hF w hw).mono ?_
      rintro en w' ⟨u,σ',LM',h2,h3,h4,h5,h6,h7⟩
      exact ⟨u,LM',h2,⟨σ',LM',h3,h4,h5,h6,by simp⟩,h7⟩
     |false=>
      rw [hW,cond_false] at h
      split at h
      ·rename_i v1 M1 nx1 hcall
       cases h
       obtain ⟨hf,h1⟩:=hc f vs [] (M::F) nx _ M1 _ hcall
       intro w hw
       rw [hrun w,qbk hf]
       refine (h1 w σ us [] hn hx0 hus .nil (hh w hw) w (Own.start w)).mono ?_
       rintro en w' ⟨u,σ',LM',h2,h3,h4,h5,h6,h7⟩
       exact ⟨u,LM'++LM,h2,⟨σ',LM'++LM,h3,h4,h5,h6.app2 (hm.mono h3),by simp⟩,ql6 hw h7⟩
      ·cases h
  ·split at h
   ·rename_i v' hv;cases h;exact val _ hv
   ·cases h
 all_goals
  unfold evE at h
  simp only [hop] at h
  split at h
  ·rename_i v' hv;cases h;exact val _ hv
  ·cases h
theorem qsl (ok:OK c e σ0) (hc:qjz c e σ0 call) (hx0:Ext σ0 σ) (hρ:∀x v,ρ' x=some v→RelV e σ v (ρ x)) {L:List Blk} {F:List MB} (hL:∀w,Own w0 L w→FR c.P e σ F w) {nx:Nat} (hn:σ.length=nx) {v:V} {M':MB} {nx':Nat}
  (h:qmy c call ρ' o F nx=some (v,M',nx')):EV c.P w0 o ρ L (q50 c e σ nx' v M' L):=by
 unfold qmy at h
 split at h
 ·rename_i cl ho
  split at h
  ·rename_i f vs hcl
   obtain ⟨us,hus,hrun⟩:=qhp (c:=c) hρ hcl ho
   split at h
   ·rename_i v' hh';cases h
    obtain ⟨hf,u,h1,h2⟩:=ok.h σ hx0 f vs _ us hh' hus
    exact qnt (fun w hw=>by rw [hrun w,qbk hf];exact ⟨rfl,h2 w⟩) ⟨σ,[],Ext.refl σ,hn,h1,.nil,by simp⟩
   ·obtain ⟨hf,h1⟩:=hc f vs [] F nx v M' nx' h
    intro w hw
    rw [hrun w,qbk hf]
    refine (h1 w σ us [] hn hx0 hus .nil (hL w hw) w (Own.start w)).mono ?_
    rintro en w' ⟨u,σ',LM',h2,h3,h4,h5,h6,h7⟩
    exact ⟨u,LM'++L,h2,⟨σ',LM',h3,h4,h5,h6,rfl⟩,ql6 hw h7⟩
  ·cases h
 ·cases h
def yce (c:Cfg) (e:Vl) (σ:List (Nat×Nat×Nat)) (nx':Nat) (v:V) (M':MB):Value→List Blk→Prop:=fun u LN=>∃σ',Ext σ σ'∧σ'.length=nx'∧RelV e σ' v u∧RM c.P e σ' M' LN
theorem q7v {w w':World} (h:Below w.heap.size w w'):Own w [] w':=⟨h,by simp,by simp,by simp⟩
theorem q5g (ok:OK c e σ0) (hc:qjz c e σ0 call) (hx0:Ext σ0 σ) (hρ:∀x v,ρ' x=some v→RelV e σ v (ρ x)) {L:List Blk} {F:List MB} (hL:∀w,Own w0 L w→FR c.P e σ F w) {nx:Nat} (hn:σ.length=nx) {v:V} {M':MB} {nx':Nat}
  (h:qmy c call ρ' o F nx=some (v,M',nx')):FV c.P w0 o ρ L (yce c e σ nx' v M'):=by
 unfold qmy at h
 split at h
 ·rename_i cl ho
  split at h
  ·rename_i f vs hcl
   obtain ⟨us,hus,hrun⟩:=qhp (c:=c) hρ hcl ho
   split at h
   ·rename_i v' hh';cases h
    obtain ⟨hf,u,h1,h2⟩:=ok.h σ hx0 f vs _ us hh' hus
    intro w hw
    rw [hrun w,qbk hf]
    refine (h2 w).mono ?_
    rintro en w' ⟨h3,h4⟩
    exact ⟨u,[],h3,⟨σ,Ext.refl σ,hn,h1,.nil⟩,q7v h4⟩
   ·obtain ⟨hf,h1⟩:=hc f vs [] F nx v M' nx' h
    intro w hw
    rw [hrun w,qbk hf]
    refine (h1 w σ us [] hn hx0 hus .nil (hL w hw) w (Own.start w)).mono ?_
    rintro en w' ⟨u,σ',LM',h2,h3,h4,h5,h6,h7⟩
    exact ⟨u,LM',h2,⟨σ',h3,h4,h5,h6⟩,h7⟩
  ·cases h
 ·cases h
noncomputable def capE (c:Cfg) (e:Vl) (M:MB) (k:Nat):Nat:=match lkL M k with
 |some (x,_,_)=>2 * (x.lst e).length+1
 |none=>quh c.P M k
theorem z5_ (hd:DOK c e) (he:(∀i,oneC (e.s i)=true)∧∀i,oneC (e.v i)=true) {nx nx':Nat} {v:V} {M':MB} (h:witB c nx v M' nx'=true) (hn:σ.length=nx):∃u LN,yce c e σ nx' v M' u LN:=by
 simp only [witB,Bool.and_eq_true] at h
 obtain ⟨⟨h1,h2⟩,h3⟩:=h
 have h1:=Nat.le_of_ble_eq_true h1
 let σ':=σ++(List.range (nx' - nx)).map fun k=>(0,0,capE c e M' (nx+k))
 have hlen:σ'.length=nx':=by simp [σ',hn];omega
 have hx:Ext σ σ':=⟨_,rfl⟩
 obtain ⟨u,hu⟩:=V.ex (e:=e) (σ:=σ') he v (by rw [hlen];exact h2)
 have hgetE:∀k,nx≤k→k<nx'→σ'[k]? =some (0,0,capE c e M' k):=fun k b1 b2=>by
  simp only [σ']
  rw [List.getElem?_append_right (by omega),List.getElem?_map,List.getElem?_range (by omega)]
  simp only [Option.map_some,hn]
  rw [show nx+(k - nx)=k from by omega]
 have small:∀(k:Nat) (cs:List C) (T:TypeId) (op:Bool) (r:MB) (LN:List Blk),nx≤k→k<nx'→(match lkL M' k with |some _=>false |none=>true)=true→C.ltL nx' cs=true→
   (!op||(match c.P.info? T with |some i=>Nat.beq cs.length (quh c.P M' k * i.size)&&Nat.ble (quh c.P M' k) 4294967296 |none=>false))=true→RM c.P e σ' r LN→∃LN,RM c.P e σ' ((k,cs,T,op)::r) LN:=by
  intro k cs T op r LN b1 b2 bl b3 b4 hLN
  obtain ⟨vs,hvs⟩:=C.exL (e:=e) (σ:=σ') he cs (by rw [hlen];exact b3)
  have hget:σ'[k]? =some (0,0,quh c.P M' k):=by
   rw [hgetE k b1 b2]
   unfold capE
   split at bl
   ·cases bl
   ·rename_i hl;rw [hl]
  refine ⟨(0,vs++[],T)::LN,.cons hget hvs (fun _=>rfl) (fun ho=> ?_) hLN⟩
  subst ho
  simp only [Bool.not_true,Bool.false_or] at b4
  split at b4
  ·rename_i i hi
   simp only [Bool.and_eq_true] at b4
   have c1:=Nat.eq_of_beq_eq_true b4.1
   have c2:=Nat.le_of_ble_eq_true b4.2
   exact ⟨by unfold maxLen;omega,i,hi,by rw [hvs.len];simpa using c1⟩
  ·cases b4
 have key:∀(M:MB),(∀b∈M,(Nat.ble nx b.1&&Nat.blt b.1 nx'&&(match b.2.1 with
  |[.big x ks]=>smB c x&&((match lkL M' b.1 with |some (x',_,_)=>decide (x'=x) |none=>false)&&(match c.P.info? b.2.2.1 with |some i=>Nat.beq i.size ks.length |none=>false))
  |cs=>(match lkL M' b.1 with |some _=>false |none=>true)&&(C.ltL nx' cs&&(!b.2.2.2||(match c.P.info? b.2.2.1 with
   |some i=>Nat.beq cs.length (quh c.P M' b.1 * i.size)&&Nat.ble (quh c.P M' b.1) 4294967296
   |none=>false)))))=true)→∃LN,RM c.P e σ' M LN:=by
  intro M
  induction M with
  |nil=>intro _;exact ⟨[],.nil⟩
  |cons b r ih=>
   intro hq
   obtain ⟨LN,hLN⟩:=ih fun b hb=>hq b (.tail _ hb)
   have hb:=hq b (.head _)
   obtain ⟨k,cs,T,op⟩:=b
   rw [Bool.and_eq_true,Bool.and_eq_true] at hb
   obtain ⟨⟨c1,c2⟩,b3⟩:=hb
   have b1:nx≤k:=Nat.le_of_ble_eq_true c1
   have b2:k<nx':=by simpa [Nat.blt_eq] using c2
   clear c1 c2
   dsimp only at b3
   split at b3
   ·rename_i x ks
    rw [Bool.and_eq_true,Bool.and_eq_true] at b3
    obtain ⟨s1,s2,s3⟩:=b3
    have hs:=qgm hd s1
    have hget:σ'[k]? =some (0,0,2 * (x.lst e).length+1):=by
     rw [hgetE k b1 b2]
     unfold capE
     split at s2
     ·rename_i x' y z hl
      have:=of_decide_eq_true s2
      rw [this]
     ·cases s2
    split at s3
    ·rename_i i hi
     have hsz:=Nat.eq_of_beq_eq_true s3
     exact ⟨(0,qbh ks (x.lst e)++[],T)::LN,.big hget (by unfold maxLen;omega) ⟨i,hi,hsz⟩ (Nat.le_refl _) (by rw [qdi];simp) hLN⟩
    ·cases s3
   ·rw [Bool.and_eq_true,Bool.and_eq_true] at b3
    exact small k cs T op r LN b1 b2 b3.1 b3.2.1 b3.2.2 hLN
 obtain ⟨LN,hLN⟩:=key M' fun b hb=>by
  exact List.all_eq_true.1 h3 b hb
 exact ⟨u,LN,σ',hx,hlen,hu,hLN⟩
theorem q5n (hdk:DOK c e) {fr:Tr} {l:List (Nat×Value)} (h:RF e σ fr l) {n:Nat} {ops:List Oper} {b:Bool} (hw:want c n ops fr o=some b):qca ops n l o=b:=by
 unfold want at hw
 unfold qca
 split at hw
 ·rename_i hg;cases hw;simp [hg]
 ·rename_i j w hg
  simp only [hg]
  split at hw
  ·cases hw
  ·rename_i d hd
   simp only [hd]
   split at hw
   ·rename_i hb'
    cases hw
    obtain ⟨vs,h1,h2⟩:=zn6 (qu_ h hb')
    rw [h2]
   ·rename_i v hb'
    split at hw
    ·rename_i b' hb
     rw [qoc hdk hb (qu_ h hb')]
     simpa using hw
    ·cases hw
   ·cases hw
theorem qdm (ok:OK c e σ0) (hc:qjz c e σ0 call) {q:Bool} {E:List (Nat×Kind)} {n:Nat} {ops:List Oper} {F:List MB} {L0:List Blk} {Q:Exit→Act→World→Prop}:
  ∀(r:List Oper) (fr:Tr) (Mr M0:MB) (nx:Nat) (br:Bool) {fr':Tr} {M':MB} {nx':Nat},ql7 c call q E n ops F r fr Mr M0 nx br=some (fr',M',nx')→
  ∀(σ:List (Nat×Nat×Nat)) (l:List (Nat×Value)) (LMr LM0:List Blk),σ.length=nx→Ext σ0 σ→RF e σ fr l→RM c.P e σ Mr LMr→RM c.P e σ M0 LM0→FR c.P e σ F w0→(q=true→br=false→L0=LM0)→
   (∀σ' l' L',Ext σ σ'→σ'.length=nx'→RF e σ' fr' l'→RM c.P e σ' M' L'→X w0 Q .normal (frm n l') L')→
   lexO c.P w0 L0 ops q E (fun a' L'=>X w0 Q .normal a' L') r (frm n l) (LMr++LM0)
 |[],fr,Mr,M0,nx,br,fr',M',nx',h,σ,l,LMr,LM0,hn,hx0,hfr,hMr,hM0,hF,hL,hK=>by
  simp only [ql7,Option.some.injEq,Prod.mk.injEq] at h
  obtain ⟨rfl,rfl,rfl⟩:=h
  exact qeg (hK σ l _ (Ext.refl σ) hn hfr (hMr.app2 hM0))
 |o::r,fr,Mr,M0,nx,br,fr',M',nx',h,σ,l,LMr,LM0,hn,hx0,hfr,hMr,hM0,hF,hL,hK=>by
  have hρ:∀x v,gv n fr x=some v→RelV e σ v (evL n l x):=fun x v hx=>qu_ hfr hx
  simp only [ql7] at h
  cases hw:want c n ops fr o with
  |none=>simp only [hw] at h;cases h
  |some b=>
   have hwl:=q5n ok.d hfr hw
   cases b with
   |false=>
    simp only [hw] at h
    exact zav hwl (qdm ok hc r _ _ _ _ _ h σ _ LMr LM0 hn hx0 (hfr.put (.tup .nil)) hMr hM0 hF hL hK)
   |true=>
    simp only [hw] at h
    have hkq:q=false→kf q E o= .alloc∨kf q E o= .eff:=fun hq=>by
     subst hq
     by_cases ha:kf false E o= .alloc
     ·exact .inl ha
     ·exact .inr (zy5 ha)
    cases hk:kf q E o with
    |alloc=>
     simp only [hk] at h
     split at h
     ·rename_i k cs t ha
      simp only [zwu,qp4] at h
      obtain ⟨vs,h1,h2⟩:=qs5 hρ ha
      refine qtb hwl hk h2 fun g=> ?_
      have hx:Ext σ (σ++[(g,0,k.getD 0)]):=Ext.snoc σ _
      have hget:(σ++[(g,0,k.getD 0)])[nx]? =some (g,0,k.getD 0):=by rw [←hn];simp
      have hv:RelV e (σ++[(g,0,k.getD 0)]) (.one (zn_ k nx)) (q10 k g):=by
       cases k with
       |none=>exact .one (.ptr (off:=0) hget)
       |some m=>exact .one (.sl (off:=0) hget)
      have hM:RM c.P e (σ++[(g,0,k.getD 0)]) ((nx,cs,t,false)::Mr) ((g,vs,t)::LMr):=by
       have:=RM.cons (P:=c.P) (T:=t) (o:=false) hget (h1.mono hx) (rest:=[]) (fun _=>rfl) (fun hq=>by cases hq) (hMr.mono hx)
       simpa using this
      exact qdm ok hc r _ _ _ _ _ h _ _ ((g,vs,t)::LMr) LM0 (by simp [hn]) (hx0.trans hx) ((hfr.mono hx).put hv) hM (hM0.mono hx) (hF.mono hx) hL
       (fun σ' l' L' hx' h1 h2 h3=>hK σ' l' L' (hx.trans hx') h1 h2 h3)
     ·cases h
    |eff=>
     simp only [hk] at h
     split at h
     ·rename_i v M1 nx1 hE
      simp only [qwx] at h
      have hev:=q8m ok hc hx0 hρ (hMr.app2 hM0) hF hn hE
      refine zjw hwl (.inl hk) hev (fun hq=>by rw [hk] at hq;cases hq) ?_
      rintro u L' ⟨σ',LM',hx,hlen,hv,hM,rfl⟩
      have:=qdm (L0:=L0) ok hc r _ _ _ _ _ h σ' (putL o.dst u l) LM' [] hlen (hx0.trans hx) ((hfr.mono hx).put hv) hM .nil (hF.mono hx) (fun _ hq=>by cases hq) (fun σ2 l2 L2 hx' h1 h2 h3=>hK σ2 l2 L2 (hx.trans hx') h1 h2 h3)
      exact this
     ·cases h
    |eff0=>
     simp only [hk] at h
     have hq:q=true:=by
      cases q with
      |true=>rfl
      |false=>rcases hkq rfl with h1 |h1<;>rw [hk] at h1<;>cases h1
     cases br with
     |true=>simp only [cond_true] at h;cases h
     |false=>
      simp only [cond_false] at h
      have hL0:=hL hq rfl
      split at h
      ·rename_i v M1 nx1 hE
       simp only [qwx] at h
       have hho:∀w,Own w0 (LMr++LM0) w→FR c.P e σ (Mr::M0::F) w:=fun w hw=>FR.cons hMr hw (fun b hb=>List.mem_append_left _ hb) (FR.cons hM0 hw (fun b hb=>List.mem_append_right _ hb) (hF.later hw.below (Nat.le_refl _)))
       have hev:=qsl ok hc hx0 hρ hho hn hE
       refine zjw hwl (.inr hk) hev (fun _ u L' hr b hb=> ?_) ?_
       ·obtain ⟨σ',LM',_,_,_,_,rfl⟩:=hr
        rw [hL0] at hb
        exact List.mem_append_right _ (List.mem_append_right _ hb)
       ·rintro u L' ⟨σ',LM',hx,hlen,hv,hM,rfl⟩
        rw [←List.append_assoc]
        exact qdm ok hc r _ _ _ _ _ h σ' _ (LM'++LMr) LM0 hlen (hx0.trans hx) ((hfr.mono hx).put hv) (hM.app2 (hMr.mono hx)) (hM0.mono hx) (hF.mono hx) hL (fun σ2 l2 L2 hx' h1 h2 h3=>hK σ2 l2 L2 (hx.trans hx') h1 h2 h3)
      ·split at h
       ·rename_i v M1 nx1 t x y hE hop
        simp only [qwx] at h
        have hev:=qlx (w0:=w0) ok.d hρ hop hMr hn hE LM0
        refine zjw hwl (.inr hk) hev (fun _ u L' hr b hb=> ?_) ?_
        ·obtain ⟨σ',LM',_,_,_,_,rfl⟩:=hr
         rw [hL0] at hb
         exact List.mem_append_right _ hb
        ·rintro u L' ⟨σ',LM',hx,hlen,hv,hM,rfl⟩
         exact qdm ok hc r _ _ _ _ _ h σ' _ LM' LM0 hlen (hx0.trans hx) ((hfr.mono hx).put hv) hM (hM0.mono hx) (hF.mono hx) hL (fun σ2 l2 L2 hx' h1 h2 h3=>hK σ2 l2 L2 (hx.trans hx') h1 h2 h3)
       ·cases h
    |fresh=>
     simp only [hk] at h
     split at h
     ·rename_i v M1 nx1 hE
      cases hwb:witB c nx v M1 nx1 with
      |false=>rw [hwb,cond_false] at h;cases h
      |true=>
       rw [hwb,cond_true] at h
       simp only [qwx] at h
       have hho:∀w,Own w0 (LMr++LM0) w→FR c.P e σ (Mr::M0::F) w:=fun w hw=>FR.cons hMr hw (fun b hb=>List.mem_append_left _ hb) (FR.cons hM0 hw (fun b hb=>List.mem_append_right _ hb) (hF.later hw.below (Nat.le_refl _)))
       refine zzj hwl hk (q5g ok hc hx0 hρ hho hn hE) (z5_ ok.d ok.he hwb hn) ?_
       rintro u LN ⟨σ',hx,hlen,hv,hM⟩
       rw [←List.append_assoc]
       exact qdm ok hc r _ _ _ _ _ h σ' _ (LN++LMr) LM0 hlen (hx0.trans hx) ((hfr.mono hx).put hv) (hM.app2 (hMr.mono hx)) (hM0.mono hx) (hF.mono hx) hL (fun σ2 l2 L2 hx' h1 h2 h3=>hK σ2 l2 L2 (hx.trans hx') h1 h2 h3)
     ·cases h
    |base=>
     simp only [hk] at h
     have hq:q=true:=by
      cases q with
      |true=>rfl
      |false=>rcases hkq rfl with h1 |h1<;>rw [hk] at h1<;>cases h1
     cases br with
     |true=>simp only [cond_true] at h;cases h
     |false=>
      simp only [cond_false] at h
      have hL0:=hL hq rfl
      split at h
      ·rename_i v hE
       simp only [qwx] at h
       obtain ⟨u,hu,hqv⟩:=qjh (w0:=w0) ok hc hx0 hρ (FS.cons hM0 hF.fs) hn hE
       have hsub:∀b∈L0,b∈LMr++LM0:=fun b hb=>by rw [hL0] at hb;exact List.mem_append_right _ hb
       have hho:∀M,(∀b∈L0,b∈M)→∀w,Own w0 M w→FR c.P e σ (M0::F) w:=fun M hM w hw=>FR.cons hM0 hw (fun b hb=>hM b (by rw [hL0];exact hb)) (hF.later hw.below (Nat.le_refl _))
       exact qt0 hwl (.inl (by rw [hk];rfl)) (fun _=>by rw [hk];exact ⟨hsub,fun M hM=>hqv M (hho M hM)⟩) (hqv _ (hho _ hsub)) (qdm ok hc r _ _ _ _ _ h σ _ LMr LM0 hn hx0 (hfr.put hu) hMr hM0 hF hL hK)
      ·cases h
    |pure=>
     simp only [hk] at h
     split at h
     ·rename_i v hE
      simp only [qwx] at h
      obtain ⟨u,hu,hqv⟩:=qjh (w0:=w0) ok hc hx0 hρ FS.nil hn hE
      exact qt0 hwl (.inl (by rw [hk];rfl)) (fun _=>by rw [hk];exact fun L=>hqv L fun _ _=>FR.nil) (hqv _ fun _ _=>FR.nil) (qdm ok hc r _ _ _ _ _ h σ _ LMr LM0 hn hx0 (hfr.put hu) hMr hM0 hF hL hK)
     ·cases h
    |quiet=>
     simp only [hk] at h
     split at h
     ·rename_i v hE
      simp only [qwx] at h
      have hho:∀w,Own w0 (LMr++LM0) w→FR c.P e σ (Mr::M0::F) w:=fun w hw=>FR.cons hMr hw (fun b hb=>List.mem_append_left _ hb) (FR.cons hM0 hw (fun b hb=>List.mem_append_right _ hb) (hF.later hw.below (Nat.le_refl _)))
      obtain ⟨u,hu,hqv⟩:=qjh (w0:=w0) ok hc hx0 hρ (FS.cons hMr (FS.cons hM0 hF.fs)) hn hE
      exact qt0 hwl (.inl (by rw [hk];rfl)) (fun _=>by rw [hk];exact hqv _ hho) (hqv _ hho) (qdm ok hc r _ _ _ _ _ h σ _ LMr LM0 hn hx0 (hfr.put hu) hMr hM0 hF hL hK)
     ·cases h
end
section
variable {c:Cfg} {e:Vl} {σ σ0:List (Nat×Nat×Nat)} {w0:World}
theorem qkg:∀{M:MB} {LM:List Blk},RM c.P e σ M LM→∀{k:Nat} {b:Nat×List C×TypeId×Bool} {M':MB},qjc M k=some (b,M')→∃Lb LM',RM c.P e σ [b] Lb∧RM c.P e σ M' LM'∧LM.Perm (Lb++LM')
 |_,_,.nil,_,_,_,h=>by cases h
 |_,_,.cons (k:=k') hk hc ho hr t,k,b,M',h=>by
  simp only [qjc] at h
  cases hb:Nat.beq k' k with
  |true=>
   simp only [hb,cond_true,Option.some.injEq,Prod.mk.injEq] at h
   obtain ⟨rfl,rfl⟩:=h
   exact ⟨_,_,.cons hk hc ho hr .nil,t,List.Perm.refl _⟩
  |false=>
   simp only [hb,cond_false] at h
   split at h
   ·rename_i b' r' hr'
    cases h
    obtain ⟨Lb,LM',h1,h2,h3⟩:=qkg t hr'
    exact ⟨Lb,_,h1,.cons hk hc ho hr h2,(h3.cons _).trans List.perm_middle.symm⟩
   ·cases h
 |_,_,.big (k:=k') hk hc hi hn hr t,k,b,M',h=>by
  simp only [qjc] at h
  cases hb:Nat.beq k' k with
  |true=>
   simp only [hb,cond_true,Option.some.injEq,Prod.mk.injEq] at h
   obtain ⟨rfl,rfl⟩:=h
   exact ⟨_,_,.big hk hc hi hn hr .nil,t,List.Perm.refl _⟩
  |false=>
   simp only [hb,cond_false] at h
   split at h
   ·rename_i b' r' hr'
    cases h
    obtain ⟨Lb,LM',h1,h2,h3⟩:=qkg t hr'
    exact ⟨Lb,_,h1,.big hk hc hi hn hr h2,(h3.cons _).trans List.perm_middle.symm⟩
   ·cases h
 |_,_,.big0 (k:=k') hk he t,k,b,M',h=>by
  simp only [qjc] at h
  cases hb:Nat.beq k' k with
  |true=>
   simp only [hb,cond_true,Option.some.injEq,Prod.mk.injEq] at h
   obtain ⟨rfl,rfl⟩:=h
   exact ⟨[],_,.big0 hk he .nil,t,List.Perm.refl _⟩
  |false=>
   simp only [hb,cond_false] at h
   split at h
   ·rename_i b' r' hr'
    cases h
    obtain ⟨Lb,LM',h1,h2,h3⟩:=qkg t hr'
    exact ⟨Lb,_,h1,.big0 hk he h2,h3⟩
   ·cases h
 |_,_,.frm (k:=k') t,k,b,M',h=>by
  simp only [qjc] at h
  cases hb:Nat.beq k' k with
  |true=>
   simp only [hb,cond_true,Option.some.injEq,Prod.mk.injEq] at h
   obtain ⟨rfl,rfl⟩:=h
   exact ⟨e.fr++[],_,.frm .nil,t,by simp⟩
  |false=>
   simp only [hb,cond_false] at h
   split at h
   ·rename_i b' r' hr'
    cases h
    obtain ⟨Lb,LM',h1,h2,h3⟩:=qkg t hr'
    refine ⟨Lb,_,h1,.frm h2,(List.Perm.append_left e.fr h3).trans ?_⟩
    rw [←List.append_assoc,←List.append_assoc]
    exact List.perm_append_comm.append_right _
   ·cases h
theorem qi2 {fr:Tr}:∀(S:List Nat) {Mr M0 Mr' M0':MB} {LMr LM0:List Blk},qk4 fr S Mr M0=(Mr',M0')→RM c.P e σ Mr LMr→RM c.P e σ M0 LM0→∃LMr' LM0',RM c.P e σ Mr' LMr'∧RM c.P e σ M0' LM0'∧(LMr++LM0).Perm (LMr'++LM0')
 |[],_,_,_,_,LMr,LM0,h,h1,h2=>by cases h;exact ⟨LMr,LM0,h1,h2,List.Perm.refl _⟩
 |t::r,Mr,M0,Mr',M0',LMr,LM0,h,h1,h2=>by
  simp only [qk4] at h
  split at h
  ·split at h
   ·rename_i b M1 hb
    obtain ⟨Lb,LM',h3,h4,h5⟩:=qkg h2 hb
    have h6:RM c.P e σ (b::Mr) (Lb++LMr):=h3.app h1
    obtain ⟨a1,a2,a3,a4,a5⟩:=qi2 r h h6 h4
    refine ⟨a1,a2,a3,a4,List.Perm.trans ?_ a5⟩
    refine (List.Perm.append_left LMr h5).trans ?_
    rw [←List.append_assoc]
    exact List.perm_append_comm.append_right _
   ·exact qi2 r h h1 h2
  ·exact qi2 r h h1 h2
theorem yal {P:Program} {co:Code} {Q:Exit→Act→World→Prop} {a:Act} {L L':List Blk} (p:L.Perm L') (h:J P w0 co Q a L'):J P w0 co Q a L:=⟨fun w hw=>h.out w (hw.perm p)⟩
def zpy (c:Cfg) (e:Vl) (σ0:List (Nat×Nat×Nat)) (d:Nat):Prop:=∀(f n:Nat) (code:Code) (fr:Tr) (M:MB) (F:List MB) (nx:Nat) (x:Ex) (fr':Tr) (M':MB) (nx':Nat),evC c d f n code fr M F nx=some (x,fr',M',nx')→(∀a∈qdq code,qoe c.P f a)→(∃fn,c.P.funcs[f]? =some fn∧fn.ntmps=n)→
 ∀(w0:World) (σ:List (Nat×Nat×Nat)) (l:List (Nat×Value)) (LM:List Blk) (Q:Exit→Act→World→Prop),σ.length=nx→Ext σ0 σ→RF e σ fr l→RM c.P e σ M LM→FR c.P e σ F w0→
  (∀σ' l' LM',Ext σ σ'→σ'.length=nx'→RF e σ' fr' l'→RM c.P e σ' M' LM'→X w0 Q (ex x) (frm n l') LM')→
  J c.P w0 code Q (frm n l) LM∧∀a,code= .loop a→H c.P w0 a Q (frm n l) LM
theorem qq0 {n:Nat} {fr:Tr} {l:List (Nat×Value)} (hfr:RF e σ fr l) {m:List MB} {L:List Blk} (hm:FS c.P e σ m) (hh:∀w,Own w0 L w→FR c.P e σ m w):∀{rs:List ResultVar} {vs:List V},z3w c.P n fr m rs=some vs→
  ∃us,RelVs e σ vs us∧∀w,Own w0 L w→(rs.mapM (resF (frm n l).tmps)).run c.P w= .ok us w
 |[],vs,h=>by cases h;exact ⟨[],.nil,fun w _=>by simp⟩
 |r::rs,vs,h=>by
  have hρ:∀x v,gv n fr x=some v→RelV e σ v (evL n l x):=fun x v hx=>qu_ hfr hx
  simp only [z3w] at h
  split at h
  ·rename_i v vl hv hvl
   cases h
   obtain ⟨us,h1,h2⟩:=qq0 hfr hm hh hvl
   have key:∃u,RelV e σ v u∧RV c.P w0 n l L r u:=by
    split at hv
    ·rename_i t;exact ⟨_,hρ _ _ hv,yf5 rfl⟩
    ·rename_i a t
     split at hv
     ·rename_i k off hx
      obtain ⟨g,gb,gc,hg,hx'⟩:=qks (hρ _ _ hx)
      split at hv
      ·rename_i cs T op hl
       obtain ⟨g',gb',gc',vs,a1,a2,_⟩:=hm.n _ _ _ _ hl
       rw [hg] at a1;cases a1
       have rd:∀w,Own w0 L w→∀(j:Nat) (v:Value),vs[j]? =some v→w.cell? ⟨g,gb+j,none⟩=some v:=fun w hw j v hj=>by
        obtain ⟨g2,gb2,gc2,vs2,c1,c2,c3,c4,_⟩:=(hh w hw).n _ _ _ _ hl
        rw [hg] at c1;cases c1
        rw [a2.det c2] at hj
        exact c4 j v hj
       rcases qgl hv a2 with ⟨n',us',b1,b2,b3,b4,_⟩ |⟨n',u,b1,b2,b3,b4⟩
       ·exact ⟨_,b4,fun w hw=>⟨_,hx',qeh b1 b3 fun j v hj=>by rw [Nat.add_assoc];exact rd w hw _ _ (qc2 b2 j v hj)⟩⟩
       ·exact ⟨_,b3,fun w hw=>⟨_,hx',qed b1 (rd w hw _ _ b2)⟩⟩
      ·cases hv
     ·cases hv
   obtain ⟨u,hu,hrv⟩:=key
   refine ⟨u::us,.cons hu h1,fun w hw=> ?_⟩
   simp only [List.mapM_cons,Sem.run_bind,qh1 hrv hw,Result.andThen_ok,h2 w hw,Sem.run_pure]
  ·cases h
def zle:List Value→Value
 |[u]=>u
 |us=> .tuple (List.toArray us)
theorem qrj {vs:List V} {us:List Value} (h:RelVs e σ vs us):RelV e σ (yda vs) (zle us):=by
 match h with
 | .nil=>exact .tup .nil
 | .cons h .nil=>exact h
 | .cons h (.cons h' t)=>exact .tup (.cons h (.cons h' t))
theorem qpp {fn:Func} {n:Nat} {l:List (Nat×Value)} {us:List Value} {w:World} {P:Program} (h:(fn.results.toList.mapM (resF (frm n l).tmps)).run P w= .ok us w):(results fn (frm n l).tmps).run P w= .ok (zle us) w:=by
 rw [qer]
 simp only [Sem.run_bind]
 rw [Array.mapM_eq_mapM_toList]
 simp only [Sem.run_map,h]
 cases us with
 |nil=>rfl
 |cons u us=>cases us with
  |nil=>rfl
  |cons u' us=>rfl
theorem zk1 {P:Program} {f:FuncId} {fn:Func} {co:Code} {args:List Value} {w:World} {L:List Blk} {R:Ending→World→Prop} (hw:Own w0 L w) (hf:P.funcs[f]? =some fn) (hb:fn.body=some co) (hl:Nat.ble args.length fn.ntmps=true)
  (h:J P w0 co (bodyPost P fn R) (frm fn.ntmps (initL args)) L):Calls P f args.toArray w R:=by
 refine calls_of_wp hf hb ?_
 rw [qzd args _ hl]
 exact h.out w hw
theorem qll (ok:OK c e σ0) {d:Nat} (hs:zpy c e σ0 d):qjz c e σ0 (evF c d):=by
 intro f vs M F nx v M' nx' h
 unfold evF at h
 split at h
 ·rename_i fn hf
  cases hb:(isFn c.P f&&Nat.ble vs.length fn.ntmps) with
  |false=>simp only [hb,cond_false] at h;cases h
  |true=>
   simp only [hb,cond_true] at h
   simp only [Bool.and_eq_true] at hb
   refine ⟨hb.1,fun w0 σ us LM hn hx0 hus hM hF w hw=> ?_⟩
   split at h
   ·rename_i b hbody
    have fin:∀(x:Ex) (fr':Tr) (M1:MB) (nx1:Nat),(x= .ret∨x= .normal)→evC c d f fn.ntmps b (initT vs) M F nx=some (x,fr',M1,nx1)→
      (match z3w c.P fn.ntmps fr' (M1::F) fn.results.toList with |some vs=>some (yda vs,M1,nx1) |none=>none)=some (v,M',nx')→
      Calls c.P f (List.toArray us) w fun en w'=>∃u σ' LM',en= .returned u∧Ext σ σ'∧σ'.length=nx'∧RelV e σ' v u∧RM c.P e σ' M' LM'∧Own w0 LM' w':=by
     intro x fr' M1 nx1 hx hev hres
     split at hres
     ·rename_i rs hrs
      cases hres
      refine zk1 hw hf hbody (by rw [hus.len];exact hb.2) ?_
      refine (hs f fn.ntmps b _ M F nx x fr' M' nx' hev (fun a ha=>⟨fn,b,hf,hbody,ha⟩) ⟨fn,hf,rfl⟩ w0 σ _ LM _ hn hx0 (q1_ hus) hM hF ?_).1
      intro σ' l' LM' hxt hlen hfr' hM'
      have hh:∀w,Own w0 LM' w→FR c.P e σ' (M'::F) w:=fun w hw=>FR.cons hM' hw (fun b hb=>hb) ((hF.mono hxt).later hw.below (Nat.le_refl _))
      obtain ⟨us',h1,h2⟩:=qq0 hfr' (FS.cons hM' (hF.mono hxt).fs) hh hrs
      rcases hx with rfl |rfl
      ·exact ⟨fun w' hw'=>⟨rfl,zle us',qpp (h2 w' hw'),⟨zle us',σ',LM',rfl,hxt,hlen,qrj h1,hM',hw'⟩⟩⟩
      ·exact ⟨fun w' hw'=>⟨rfl,zle us',qpp (h2 w' hw'),⟨zle us',σ',LM',rfl,hxt,hlen,qrj h1,hM',hw'⟩⟩⟩
     ·cases hres
    split at h
    ·rename_i fr' M1 nx1 hev;exact fin _ _ _ _ (.inl rfl) hev h
    ·rename_i fr' M1 nx1 hev;exact fin _ _ _ _ (.inr rfl) hev h
    ·cases h
   ·cases h
 ·cases h
theorem qh9 (ok:OK c e σ0):∀d,zpy c e σ0 d
 |0=>fun _ _ _ _ _ _ _ _ _ _ _ h=>by cases h
 |d+1=>by
  have ih:=qh9 ok d
  have hcall:qjz c e σ0 (fun f vs M F nx=>match c.B c.D f vs M F nx with |some r=>some r |none=>evF c d f vs M F nx):=by
   intro f vs M F nx v M' nx' h
   cases hb:c.B c.D f vs M F nx with
   |some r=>simp only [hb,Option.some.injEq] at h;exact ok.b f vs M F nx _ _ _ (hb.trans (by rw [h]))
   |none=>simp only [hb] at h;exact qll ok ih f vs M F nx v M' nx' h
  intro f n code fr M F nx x fr' M' nx' h hlp hnf w0 σ l LM Q hn hx0 hfr hM hF hK
  unfold evC at h
  simp only at h
  split at h
  ·cases h
   exact ⟨qc6 (hK σ l LM (Ext.refl σ) hn hfr hM),fun a ha=>by cases ha⟩
  ·cases h
   exact ⟨qee (hK σ l LM (Ext.refl σ) hn hfr hM),fun a ha=>by cases ha⟩
  ·cases h
   exact ⟨qc5 (hK σ l LM (Ext.refl σ) hn hfr hM),fun a ha=>by cases ha⟩
  ·rename_i a b
   refine ⟨yb8 ?_,fun a ha=>by cases ha⟩
   split at h
   ·rename_i fr1 M1 nx1 h1
    refine (ih f n a fr M F nx _ fr1 M1 nx1 h1 (fun y hy=>hlp y (List.mem_append_left _ hy)) hnf w0 σ l LM _ hn hx0 hfr hM hF fun σ' l' LM' hx hlen hfr' hM'=> ?_).1
    exact zp_ (ih f n b fr1 M1 F nx1 _ _ _ _ h (fun y hy=>hlp y (List.mem_append_right _ hy)) hnf w0 σ' l' LM' Q hlen (hx0.trans hx) hfr' hM' (hF.mono hx) fun σ2 l2 L2 hx' a1 a2 a3=>hK σ2 l2 L2 (hx.trans hx') a1 a2 a3).1
   ·rename_i hne
    refine (ih f n a fr M F nx _ _ _ _ h (fun y hy=>hlp y (List.mem_append_left _ hy)) hnf w0 σ l LM _ hn hx0 hfr hM hF fun σ' l' LM' hx hlen hfr' hM'=> ?_).1
    cases x with
    |normal=>exact absurd h (hne _ _ _)
    |ret=>exact qa1 (hK σ' l' LM' hx hlen hfr' hM')
    |exit id=>exact qam (hK σ' l' LM' hx hlen hfr' hM')
  ·rename_i cx a b
   refine ⟨?_,fun a ha=>by cases ha⟩
   split at h
   ·rename_i xv hx
    split at h
    rotate_left
    ·cases h
    rename_i t ht
    have hv:=qoc ok.d ht (qu_ hfr hx)
    cases t with
    |true=>exact zpk hv (ih f n a fr M F nx _ _ _ _ h (fun y hy=>hlp y (List.mem_append_left _ hy)) hnf w0 σ l LM Q hn hx0 hfr hM hF hK).1
    |false=>exact zc0 hv (ih f n b fr M F nx _ _ _ _ h (fun y hy=>hlp y (List.mem_append_right _ hy)) hnf w0 σ l LM Q hn hx0 hfr hM hF hK).1
   ·cases h
  ·rename_i id a
   refine ⟨qb2 ?_,fun a ha=>by cases ha⟩
   split at h
   ·rename_i id' fr1 M1 nx1 h1
    refine (ih f n a fr M F nx _ fr1 M1 nx1 h1 hlp hnf w0 σ l LM _ hn hx0 hfr hM hF fun σ' l' LM' hx hlen hfr' hM'=> ?_).1
    cases hb:Nat.beq id' id with
    |true=>
     simp only [hb,cond_true,Option.some.injEq,Prod.mk.injEq] at h
     obtain ⟨rfl,rfl,rfl,rfl⟩:=h
     have:=Nat.eq_of_beq_eq_true hb
     subst this
     exact qar (hK σ' l' LM' hx hlen hfr' hM')
    |false=>
     simp only [hb,cond_false,Option.some.injEq,Prod.mk.injEq] at h
     obtain ⟨rfl,rfl,rfl,rfl⟩:=h
     exact qaj hb (hK σ' l' LM' hx hlen hfr' hM')
   ·rename_i hne
    refine (ih f n a fr M F nx _ _ _ _ h hlp hnf w0 σ l LM _ hn hx0 hfr hM hF fun σ' l' LM' hx hlen hfr' hM'=> ?_).1
    cases x with
    |normal=>exact qb3 (hK σ' l' LM' hx hlen hfr' hM')
    |ret=>exact qap (hK σ' l' LM' hx hlen hfr' hM')
    |exit id=>exact absurd h (hne _ _ _ _)
  ·rename_i a
   have key:H c.P w0 a Q (frm n l) LM:=by
    split at h
    ·rename_i r hr
     cases h
     exact ok.l f a (hlp a (.head _)) fr M F nx x fr' M' nx' hr n hnf w0 σ l LM Q hn hx0 hfr hM hF hK
    refine qlw fun N hN=> ?_
    split at h
    ·rename_i fr1 M1 nx1 h1
     refine (ih f n a fr M F nx _ fr1 M1 nx1 h1 (fun y hy=>hlp y (.tail _ hy)) hnf w0 σ l LM _ hn hx0 hfr hM hF fun σ' l' LM' hx hlen hfr' hM'=> ?_).1
     exact hN _ _ ((ih f n (.loop a) fr1 M1 F nx1 _ _ _ _ h hlp hnf w0 σ' l' LM' Q hlen (hx0.trans hx) hfr' hM' (hF.mono hx) fun σ2 l2 L2 hx' a1 a2 a3=>hK σ2 l2 L2 (hx.trans hx') a1 a2 a3).2 a rfl)
    ·rename_i hne
     refine (ih f n a fr M F nx _ _ _ _ h (fun y hy=>hlp y (.tail _ hy)) hnf w0 σ l LM _ hn hx0 hfr hM hF fun σ' l' LM' hx hlen hfr' hM'=> ?_).1
     cases x with
     |normal=>exact absurd h (hne _ _ _)
     |ret=>exact qa1 (hK σ' l' LM' hx hlen hfr' hM')
     |exit id=>exact qam (hK σ' l' LM' hx hlen hfr' hM')
   exact ⟨zgt key,fun a' ha=>by cases ha;exact key⟩
  ·rename_i id ops q
   refine ⟨?_,fun a ha=>by cases ha⟩
   obtain ⟨ol⟩:=ops
   cases q with
   |true=>
    simp only at h
    cases hd:q15 ol (c.E f id) with
    |false=>simp only [hd,cond_false] at h;cases h
    |true=>
     simp only [hd,cond_true] at h
     cases hmo:qk4 fr (c.S f id) [] M with
     |mk Mr M0=>
      simp only [hmo] at h
      split at h
      ·rename_i fr1 M1 nx1 h1
       cases h
       obtain ⟨LMr,LM0,a1,a2,a3⟩:=qi2 _ hmo (.nil:RM c.P e σ [] []) hM
       refine yal a3 (zbt (c.E f id) LM0 ok.mixed (qx1 hd) ?_)
       exact qdm ok hcall ol fr Mr M0 nx false h1 σ l LMr LM0 hn hx0 hfr a1 a2 hF (fun _ _=>rfl) hK
      ·cases h
   |false=>
    simp only at h
    split at h
    ·rename_i fr1 M1 nx1 h1
     cases h
     refine qc4 ?_
     have:=qdm (L0:=LM) ok hcall ol fr M [] nx false h1 σ l LM [] hn hx0 hfr hM .nil hF (fun hq=>by cases hq) hK
     simpa using this
    ·cases h
  ·cases h
theorem qmm (ok:OK c e []) {d f:Nat} {vs:List V} {us:List Value} {v:V} {u:Value} (h:(evF c d f vs [] [] 0).map (·.1)=some v) (hus:RelVs e [] vs us) (hu:RelV e [] v u):Pure c.P f (List.toArray us) u:=by
 intro w
 cases hf:evF c d f vs [] [] 0 with
 |none=>rw [hf] at h;cases h
 |some r=>
  obtain ⟨v',M',nx'⟩:=r
  rw [hf] at h
  cases h
  refine ((qll ok (qh9 ok d) f vs [] [] 0 _ M' nx' hf).2 w [] us [] rfl (Ext.refl _) hus .nil FR.nil w (Own.start w)).mono ?_
  rintro en w' ⟨u',σ',LM',h2,h3,h4,h5,h6,h7⟩
  rw [h2,(hu.mono h3).det h5]
  exact ⟨rfl,h7.below⟩
theorem qrx {σ0:List (Nat×Nat×Nat)} (ok:OK c e σ0) {d f nx:Nat} {F:List MB} {vs:List V} {us:List Value} {v:V} {u:Value} {w:World} (hn:σ0.length=nx) (hF:FR c.P e σ0 F w) (h:(evF c d f vs [] F nx).map (·.1)=some v) (hus:RelVs e σ0 vs us) (hu:RelV e σ0 v u):
  Calls c.P f (List.toArray us) w fun en w'=>en= .returned u∧Below w.heap.size w w':=by
 cases hf:evF c d f vs [] F nx with
 |none=>rw [hf] at h;cases h
 |some r=>
  obtain ⟨v',M',nx'⟩:=r
  rw [hf] at h
  cases h
  refine ((qll ok (qh9 ok d) f vs [] F nx _ M' nx' hf).2 w σ0 us [] hn (Ext.refl _) hus .nil hF w (Own.start w)).mono ?_
  rintro en w' ⟨u',σ',LM',h2,h3,h4,h5,h6,h7⟩
  rw [h2,(hu.mono h3).det h5]
  exact ⟨rfl,h7.below⟩
end
end Go.Proofs.YtilkebpcjklmfaaGreat.Own
