/- A walk by reckoning: loops, round by round, whatever lists they go through. A walk by reckoning: loops' contracts, and their use. A walk by reckoning: loops' contracts by their rounds; tables and loops together. A walk by reckoning: strings.Builder, where it is the first part of codec's coder. Plain laws of wide numbers: words, sums, products, shifts, lengths. DERIVED: THE SHELF's CONTRACTS AT THIS DUMP, IN PLAIN WORDS (tools/lay-plain.mjs out of 'TryShelf.lean', which tools/lay-shelf.mjs wrote): THE SAME DECLARATIONS UNDER THE SAME NAMES: 'import', 'namespace', 'open', 'def', 'theorem' AND NOTHING ELSE: no command of the shelf's: FOR A HAND-IN. Each laying: the table of numbers ('.._ren') and one theorem, a field a fact of the dump's own or the kernel's comparison; each contract: ONE APPLICATION. Sum and difference of wide numbers, and their words: what the code computes. strings.Builder as the first part of a struct of five cells: what its code does (walks after the shelf's ways). -/
import Derived.Test.YtilkebpcjklmfaaGreatFvP
import Derived.Lib.Builder
import Derived.Lib.AppendStr
import Derived.Lib.UnsafeStr
import Derived.Shelf.Strconv.Itoa0
import Derived.Test.YtilkebpcjklmfaaGreatProg
import Derived.Deep.Draws
import Derived.Deep.AppendLies
import Derived.OwnWalk
import Derived.Laws.BytesArg
import Derived.Laws.OwnMore
import Derived.Deep.OwnRows
import Derived.Tactics
import Derived.Lib.ConvBytes
import Derived.Laws.Slices
import Derived.WalkKit
import Derived.RowKit3
import Derived.Deep.LoopGhost
import Derived.Deep.QuietTactic
import Derived.BigQuiet
import Derived.WideLaws
import Derived.Deep.DeepCutAuto
import Derived.Deep.CutBlock
import Derived.Deep.RegionHeld3
import Derived.ArgAppend
import Derived.Laws.IdiomCopy
import Derived.OrdersHeld
import Derived.Laws.BitsLemmas
import Derived.RowKit
import Derived.Handy
import Derived.RegionTactic
import Derived.Lib.Hide
import Derived.Shelf.Spec.BitsCarry
import Derived.Lib.Strings
import Derived.Lib.Slices
import Derived.Lib.Walk
set_option linter.unusedVariables false
set_option linter.unusedSimpArgs false
namespace Go.Proofs.YtilkebpcjklmfaaGreat.Own
open Go Go.RowKit
set_option maxRecDepth 100000
set_option maxHeartbeats 40000000
def frmK:Nat:=999999937
def que:Nat×List C×TypeId×Bool:=(frmK,[.frm],0,false)
inductive RT where
 |next (ys:List SE)
 |out (e:Nat) (ys:List SE)
 |ask (x:SE) (t e:RT)
 |know (x:SE) (b:Bool) (t:RT)
noncomputable def RT.get (E:Env):RT→Option Nat×List Int
 | .next ys=>(none,ys.map (SE.val E))
 | .out e ys=>(some e,ys.map (SE.val E))
 | .ask x t e=>bif x.val E !=0 then t.get E else e.get E
 | .know _ _ t=>t.get E
def RT.ok (E:Env):RT→Prop
 | .next _=>True
 | .out _ _=>True
 | .ask x t e=>((x.val E !=0)=true→t.ok E)∧((x.val E !=0)=false→e.ok E)
 | .know x b t=>(x.val E !=0)=b∧t.ok E
theorem RT.get_env {F:Nat→List Int→List Int} {xs:List Int} {av:Nat→Value} {fr:List Blk}:∀(t:RT),t.get (qeo F xs av fr)=t.get (qaa F xs)
 | .next ys=>by simp only [RT.get];congr 1;exact List.map_congr_left fun x _=>qho x
 | .out e ys=>by simp only [RT.get];congr 1;exact List.map_congr_left fun x _=>qho x
 | .ask x t e=>by simp only [RT.get,qho,RT.get_env t,RT.get_env e]
 | .know x b t=>by simp only [RT.get,RT.get_env t]
theorem RT.ok_env {F:Nat→List Int→List Int} {xs:List Int} {av:Nat→Value} {fr:List Blk}:∀(t:RT),t.ok (qaa F xs)→t.ok (qeo F xs av fr)
 | .next ys,_=>trivial
 | .out e ys,_=>trivial
 | .ask x t e,h=>by
  simp only [RT.ok,qho] at h ⊢
  exact ⟨fun q=>RT.ok_env t (h.1 q),fun q=>RT.ok_env e (h.2 q)⟩
 | .know x b t,h=>by
  simp only [RT.ok,qho] at h ⊢
  exact ⟨h.1,RT.ok_env t h.2⟩
structure Out where
 x:Ex
 S:List (Nat×V)
 M:MB
 cv:List (Nat×Nat×Option (Option IntKind)):=[]
def qea (x:SE):Bool:=match x.ty with |some none=>true |_=>false
def exB:Ex→Ex→Bool
 | .ret,.ret=>true
 | .exit i,.exit j=>Nat.beq i j
 |_,_=>false
theorem ydj {x y:Ex} (h:exB x y=true):x=y∧x≠.normal:=by
 unfold exB at h
 split at h
 ·exact ⟨rfl,by simp⟩
 ·rw [Nat.eq_of_beq_eq_true h];exact ⟨rfl,by simp⟩
 ·cases h
def stQ (S:List (Nat×V)) (M F:MB) (nx:Nat) (kk:List Nat) (fr:Tr) (m:MB) (ys:List SE):Bool:=
 match mS false (S.filter soon) fr ⟨[],[]⟩ with
 |some b1=>(match mM M m b1 with
  |some (b2,rest)=>(match qjc rest frmK,mF F [F] b2 with
   |some ((_,[.frm],_),_),some b3=>(match mS false (S.filter late) fr b3 with
    |some b4=>decide (b4.ts=ys)&&(b4.ks.all (fun p=>Nat.blt p.1 nx)&&kk.all (fun k=>Nat.blt k nx&&(match qja b4.ks k with |some (some k')=>Nat.beq k k' |some none=>false |none=>true)))
    |none=>false)
   |_,_=>false)
  |none=>false)
 |none=>false
def qak (b:Cfg) (Tb:List Ent) (d f n:Nat) (a:Code) (S:List (Nat×V)) (M F:MB) (nx:Nat) (S':List (Nat×V)) (outs:List Out) (kk:List Nat):RT→List (SE×Bool)→Bool
 | .next ys,ds=>(match evC (cfT b Tb ds) d f n a (zsa S) (que::M) [F] nx with |some (.normal,fr,m,_)=>stQ S' M F nx kk fr m ys |_=>false)
 | .out e ys,ds=>(match outs[e]? with
  |some o=>(match evC (cfT b Tb ds) d f n a (zsa S) (que::M) [F] nx with |some (x,fr,m,_)=>exB x o.x&&stQ o.S o.M [] nx kk fr m ys |none=>false)
  |none=>false)
 | .ask x t e,ds=>qea x&&(qak b Tb d f n a S M F nx S' outs kk t ((x,true)::ds)&&qak b Tb d f n a S M F nx S' outs kk e ((x,false)::ds))
 | .know x v t,ds=>qea x&&qak b Tb d f n a S M F nx S' outs kk t ((x,v)::ds)
noncomputable def qkx (T:Nat→RT) (F:Nat→List Int→List Int):Nat→Nat→List Int→Option (Nat×List Int)
 |_,0,_=>none
 |j,k+1,xs=>match (T j).get (qaa F xs) with
  |(none,ys)=>qkx T F (j+1) k ys
  |(some e,ys)=>some (e,ys)
def qdn (T:Nat→RT) (F:Nat→List Int→List Int):Nat→Nat→List Int→Prop
 |_,0,_=>False
 |j,k+1,xs=>(T j).ok (qaa F xs)∧∀ys,(T j).get (qaa F xs)=(none,ys)→qdn T F (j+1) k ys
def rebase (σ:List (Nat×Nat×Nat)) (nx:Nat) (b:Bd):List (Nat×Nat×Nat):=
 (List.range nx).map fun k=>match qja b.ks k with
  |some (some ka)=>(σ[ka]?).getD (0,0,0)
  |some none=>(0,0,0)
  |none=>(σ[k]?).getD (0,0,0)
theorem qj0:∀{ks:List (Nat×Option Nat)} {k:Nat} {o:Option Nat},qja ks k=some o→(k,o)∈ks
 |[],_,_,h=>by cases h
 |(k',y)::r,k,o,h=>by
  simp only [qja] at h
  cases hb:Nat.beq k' k with
  |true=>rw [hb,cond_true] at h;cases h;rw [Nat.eq_of_beq_eq_true hb];exact .head _
  |false=>rw [hb,cond_false] at h;exact .tail _ (qj0 h)
section
variable {b:Cfg} {Tb:List Ent} {P:Program}
theorem q7s {w0:World} {c:Code} {Q:Exit→Act→World→Prop} {a:Act} {L L':List Blk} (p:L.Perm L') (h:H P w0 c Q a L'):H P w0 c Q a L:=⟨fun w hw=>h.out w (hw.perm p)⟩
theorem zox {w0:World} {e:Exit} {Q:Exit→Act→World→Prop} {a:Act} {L L':List Blk} (p:L.Perm L') (h:X w0 Q e a L'):X w0 Q e a L:=⟨fun w hw=>h.out w (hw.perm p)⟩
theorem Tgt.rebase {bd:Bd} {E:Env} {F:Nat→List Int→List Int} {σ:List (Nat×Nat×Nat)} {nx:Nat} {av:Nat→Value} {frs:List Blk} (hlt:(bd.ks.all fun p=>Nat.blt p.1 nx)=true):Tgt bd E (qeo F (bd.ts.map (SE.val E)) av frs) σ (Own.rebase σ nx bd):=by
 have get:∀j x,bd.ts[j]? =some x→(bd.ts.map (SE.val E)).getD j 0=x.val E:=fun j x hx=>by
  rw [List.getD_eq_getElem?_getD,List.getElem?_map,hx];rfl
 have lt:∀k o,qja bd.ks k=some o→k<nx:=fun k o hk=>by
  have:=List.all_eq_true.1 hlt _ (qj0 hk)
  simpa [Nat.blt_eq] using this
 refine ⟨get,fun j x hx=> ?_,fun kp ka hk y hy=> ?_,fun kp hk=> ?_⟩
 ·show ((bd.ts.map (SE.val E)).getD j 0 !=0)=_
  rw [get j x hx]
 ·unfold Own.rebase
  rw [List.getElem?_map,List.getElem?_range (lt _ _ hk)]
  simp only [Option.map_some,hk,hy,Option.getD_some]
 ·refine ⟨0,0,?_⟩
  unfold Own.rebase
  rw [List.getElem?_map,List.getElem?_range (lt _ _ hk)]
  simp only [Option.map_some,hk]
theorem zst {E:Env} {σ:List (Nat×Nat×Nat)} {k:Nat} {T:TypeId} {o:Bool} {Lb:List Blk} (h:RM P E σ [(k,[.frm],T,o)] Lb):Lb=E.fr:=by
 cases h with
 |cons hk hc ho hr t=>cases hc.notBig
 |frm t=>cases t;simp
theorem FR.none {E:Env} {σ:List (Nat×Nat×Nat)} (w:World):FR P E σ [[]] w:=⟨fun k cs T o hk=>(by cases hk),fun k x ks T hk=>(by cases hk)⟩
theorem qrm {E:Env} {Fy:Nat→List Int→List Int} {σ:List (Nat×Nat×Nat)} {S:List (Nat×V)} {M F:MB} {nx:Nat} {kk:List Nat} {fr:Tr} {m:MB} {ys:List SE} (h:stQ S M F nx kk fr m ys=true) {l:List (Nat×Value)} {L:List Blk} {w0:World} (hn:nx≤σ.length) (hf:RF E σ fr l) (hm:RM P E σ m L) (hF:FR P E σ [F] w0):
  ∃σ' L' rest,σ'.length=nx∧(∀k∈kk,k<nx∧σ'[k]? =σ[k]?)∧(∀p∈S,RelV (qeo Fy (ys.map (SE.val E)) E.av E.fr) σ' p.2 (look l p.1))∧RM P (qeo Fy (ys.map (SE.val E)) E.av E.fr) σ' (que::M) L'∧FR P (qeo Fy (ys.map (SE.val E)) E.av E.fr) σ' [F] w0∧L.Perm (L'++rest):=by
 unfold stQ at h
 split at h
 ·rename_i b1 h1
  split at h
  ·rename_i b2 rest h2
   split at h
   ·rename_i k' T r2 b3 h3 h4
    split at h
    rotate_left
    ·cases h
    rename_i b4 h5
    simp only [Bool.and_eq_true] at h
    obtain ⟨hys,hlt,hkk⟩:=h
    have hys:=of_decide_eq_true hys
    subst hys
    have g:=Tgt.rebase (E:=E) (F:=Fy) (σ:=σ) (av:=E.av) (frs:=E.fr) hlt
    have s3:=qvj h5
    have s2:=(qlv h4).trans s3
    have s1:=qo_ h2
    obtain ⟨Lp,Lr,c2,c3,c1⟩:=qvp h2 hm
    have c1:=c1 _ _ (g.sub s2)
    obtain ⟨Lb,L2,d1,d2,d3⟩:=qvx c2 h3
    have hLb:=zst d1
    subst hLb
    refine ⟨Own.rebase σ nx b4,E.fr++Lp,L2,by simp [Own.rebase],fun k hk=> ?_,qt_ (qqv h1 (g.sub (s1.trans s2)) (fun q=>by cases q) (fun q=>by cases q) (fun _=>rfl) hf) (qqv h5 g (fun q=>by cases q) (fun q=>by cases q) (fun _=>rfl) hf),.frm c1,qqw hF h4 (g.sub s3),?_⟩
    ·have:=List.all_eq_true.1 hkk k hk
     simp only [Bool.and_eq_true] at this
     have hlt':k<nx:=by simpa [Nat.blt_eq] using this.1
     refine ⟨hlt',?_⟩
     have hk2:=this.2
     unfold Own.rebase
     rw [List.getElem?_map,List.getElem?_range hlt',List.getElem?_eq_getElem (by omega:k<σ.length)]
     simp only [Option.map_some]
     split at hk2
     ·rename_i k2 hl
      have:=Nat.eq_of_beq_eq_true hk2
      subst this
      simp only [hl,List.getElem?_eq_getElem (by omega:k<σ.length),Option.getD_some]
     ·cases hk2
     ·rename_i hl
      simp only [hl,List.getElem?_eq_getElem (by omega:k<σ.length),Option.getD_some]
    ·refine c3.trans ?_
     refine (List.Perm.append_left Lp d3).trans ?_
     rw [←List.append_assoc]
     exact List.perm_append_comm.append_right _
   ·cases h
  ·cases h
 ·cases h
theorem q73 (hb:CfgOK b) (hlb:LB b Tb) (hT:qcd b.P Tb) {d f n nx N:Nat} {a:Code} {S:Nat→List (Nat×V)} {M F:MB} {T:Nat→RT} {outs:List Out} {kk:List Nat}
  (hround:∀j,j<N→qak b Tb d f n a (S j) M F nx (S (j+1)) outs kk (T j) []=true) (hsub:∀y∈qdq a,qoe b.P f y) (hnf:∃fn,b.P.funcs[f]? =some fn∧fn.ntmps=n) {w0:World} {av:Nat→Value} {frs:List Blk} {Q:Exit→Act→World→Prop}:
  ∀(k j:Nat) (xs:List Int) (σ:List (Nat×Nat×Nat)) (l:List (Nat×Value)) (L:List Blk),j+k≤N→σ.length=nx→(∀p∈S j,RelV (qeo (FT Tb) xs av frs) σ p.2 (look l p.1))→RM b.P (qeo (FT Tb) xs av frs) σ (que::M) L→FR b.P (qeo (FT Tb) xs av frs) σ [F] w0→qdn T (FT Tb) j k xs→
   (∀σ' l' L' e ys o,qkx T (FT Tb) j k xs=some (e,ys)→outs[e]? =some o→σ'.length=nx→(∀k∈kk,σ'[k]? =σ[k]?)→(∀p∈o.S,RelV (qeo (FT Tb) ys av frs) σ' p.2 (look l' p.1))→RM b.P (qeo (FT Tb) ys av frs) σ' (que::o.M) L'→X w0 Q (ex o.x) (frm n l') L')→H b.P w0 a Q (frm n l) L
 |0,_,_,_,_,_,_,_,_,_,_,h,_=>by cases h
 |k+1,j,xs,σ,l,L,hjk,hn,hS,hM,hF,hok,hK=>by
  refine qlw fun NN hN=> ?_
  have hE:(qeo (FT Tb) xs av frs).F=fun f i ys=>(FT Tb f ys).getD i 0:=rfl
  have hgo:qkx T (FT Tb) j (k+1) xs=(match (T j).get (qaa (FT Tb) xs) with |(none,ys)=>qkx T (FT Tb) (j+1) k ys |(some e,ys)=>some (e,ys)):=rfl
  obtain ⟨hok1,hok2⟩:=hok
  have key:∀(t:RT) (ds:List (SE×Bool)),qak b Tb d f n a (S j) M F nx (S (j+1)) outs kk t ds=true→Knows (qeo (FT Tb) xs av frs) ds→t.ok (qeo (FT Tb) xs av frs)→t.get (qeo (FT Tb) xs av frs)=(T j).get (qaa (FT Tb) xs)→J b.P w0 a (Exit.then NN Q) (frm n l) L:=by
   intro t
   induction t with
   |next zs=>
    intro ds hc hk _ heq
    simp only [qak] at hc
    split at hc
    ·rename_i fr m nx' hev
     refine (qh9 (okT hb hlb hT hE hk) d f n a _ _ [F] nx _ fr m nx' hev hsub hnf w0 σ l L _ hn (Ext.refl σ) (qo2 hS) hM hF fun σ1 l1 L1 hx hlen hfr hm=> ?_).1
     obtain ⟨σ',L',rest,q1,q2,q3,q4,q5,q6⟩:=qrm (Fy:=FT Tb) hc (show nx≤σ1.length by obtain ⟨τ,rfl⟩:=hx;rw [List.length_append];omega) hfr hm (hF.mono hx)
     simp only [RT.get] at heq
     have hys:=heq.symm
     rw [hys] at hgo
     refine hN _ _ (q7s q6 (yeg (List.sublist_append_left L' rest) ?_))
     refine q73 hb hlb hT hround hsub hnf k (j+1) _ σ' l1 L' (by omega) q1 q3 q4 q5 (hok2 _ hys) ?_
     intro σ2 l2 L2 e ys o hr ho hl2 hk2 hs2 hm2
     refine hK σ2 l2 L2 e ys o (by rw [hgo];exact hr) ho hl2 (fun k hk=> ?_) hs2 hm2
     obtain ⟨a1,a2⟩:=q2 k hk
     rw [hk2 k hk,a2,hx.back (by omega)]
    ·cases hc
   |out e zs=>
    intro ds hc hk _ heq
    simp only [qak] at hc
    split at hc
    ·rename_i o ho
     split at hc
     ·rename_i x fr m nx' hev
      simp only [Bool.and_eq_true] at hc
      obtain ⟨hxe,hxn⟩:=ydj hc.1
      refine (qh9 (okT hb hlb hT hE hk) d f n a _ _ [F] nx _ fr m nx' hev hsub hnf w0 σ l L _ hn (Ext.refl σ) (qo2 hS) hM hF fun σ1 l1 L1 hx hlen hfr hm=> ?_).1
      obtain ⟨σ',L',rest,q1,q2,q3,q4,q5,q6⟩:=qrm (Fy:=FT Tb) hc.2 (show nx≤σ1.length by obtain ⟨τ,rfl⟩:=hx;rw [List.length_append];omega) hfr hm (FR.none w0)
      simp only [RT.get] at heq
      have hys:=heq.symm
      rw [hys] at hgo
      have hX:=hK σ' l1 L' e _ o hgo ho q1 (fun k hk=>by
       obtain ⟨a1,a2⟩:=q2 k hk
       rw [a2,hx.back (by omega)]) q3 q4
      have hX2:=zox q6 (x_sub (List.sublist_append_left L' rest) hX)
      subst hxe
      cases hox:o.x with
      |normal=>exact absurd hox hxn
      |ret=>rw [hox] at hX2;exact qa1 hX2
      |exit id=>rw [hox] at hX2;exact qam hX2
     ·cases hc
    ·cases hc
   |ask q t e iht ihe=>
    intro ds hc hk hok heq
    simp only [qak,Bool.and_eq_true] at hc
    obtain ⟨h0,h1,h2⟩:=hc
    have hty:q.ty=some none:=by
     unfold qea at h0
     split at h0
     ·assumption
     ·cases h0
    have e0:eS (qeo (FT Tb) xs av frs) q= .bool (q.val (qeo (FT Tb) xs av frs) !=0):=by simp only [eS,hty]
    cases hb':(q.val (qeo (FT Tb) xs av frs) !=0) with
    |true=>exact iht _ h1 (.cons (by rw [e0,hb']) hk) (hok.1 hb') (by rw [←heq];simp only [RT.get,hb',cond_true])
    |false=>exact ihe _ h2 (.cons (by rw [e0,hb']) hk) (hok.2 hb') (by rw [←heq];simp only [RT.get,hb',cond_false])
   |know q v t iht=>
    intro ds hc hk hok heq
    simp only [qak,Bool.and_eq_true] at hc
    obtain ⟨h0,h1⟩:=hc
    have hty:q.ty=some none:=by
     unfold qea at h0
     split at h0
     ·assumption
     ·cases h0
    have e0:eS (qeo (FT Tb) xs av frs) q= .bool (q.val (qeo (FT Tb) xs av frs) !=0):=by simp only [eS,hty]
    exact iht _ h1 (.cons (by rw [e0,hok.1]) hk) hok.2 (by rw [←heq];rfl)
  exact key (T j) [] (hround j (by omega)) .nil (RT.ok_env _ hok1) (RT.get_env _)
end
structure LEnt where
 f:Nat
 id:Nat
 num:Nat
 nx:Nat
 S:List (Nat×V)
 M:MB
 F:MB
 kk:List Nat
 outs:List Out
 lv:List (Nat×Nat):=[]
 sm:List Nat:=[]
 pre:List (SE×Bool):=[]
def LCT (P:Program) (y:LEnt) (Fy:Nat→List Int→List Int) (g:List Int→List Int):Prop:=∀(a:Code),qoe P y.f a→fid a=y.id→∀(xs:List Int) (av:Nat→Value) (frs:List Blk) (n:Nat),(∃fn,P.funcs[y.f]? =some fn∧fn.ntmps=n)→
 ∀(w0:World) (σ:List (Nat×Nat×Nat)) (l:List (Nat×Value)) (L:List Blk) (Q:Exit→Act→World→Prop),σ.length=y.nx→(∀p∈y.S,RelV (qeo Fy xs av frs) σ p.2 (look l p.1))→RM P (qeo Fy xs av frs) σ (que::y.M) L→FR P (qeo Fy xs av frs) σ [y.F] w0→(∀j∈y.sm,(dec (xs.getD j 0)).length≤1000000)→(∀c∈y.pre,(c.1.val (qeo Fy xs av frs) !=0)=c.2)→
  (∀(σ':List (Nat×Nat×Nat)) (l':List (Nat×Value)) (L':List Blk) (e:Nat) (ys:List Int) (o:Out),g xs=(e:Int)::ys→y.outs[e]? =some o→σ'.length=y.nx→(∀k∈y.kk,σ'[k]? =σ[k]?)→(∀p∈o.S,RelV (qeo Fy ys av frs) σ' p.2 (look l' p.1))→RM P (qeo Fy ys av frs) σ' (que::o.M) L'→X w0 Q (ex o.x) (frm n l') L')→H P w0 a Q (frm n l) L
def eqK:Option (Option IntKind)→Int→Int→Prop
 |none,a,b=>a=b
 |some k,a,b=>wrK k a=wrK k b
def Cst (y:LEnt) (g:List Int→List Int):Prop:=∀(xs:List Int) (e:Nat) (ys:List Int) (o:Out),g xs=(e:Int)::ys→y.outs[e]? =some o→∀c∈o.cv,eqK c.2.2 (ys.getD c.1 0) (xs.getD c.2.1 0)
structure Fl where
 num:Nat
 a9s:SE
 ts:List SE
 cv:List (Nat×Nat×Option (Option IntKind))
 kk:List Nat
 ks:List (Nat×Option Nat)
 base:Nat
def Fl.key (q:Fl) (k:Nat):Nat:=bif q.kk.contains k then (match qja q.ks k with |some (some ka)=>ka |_=>q.base+k) else q.base+k
def zko:List (Nat×Nat×Option (Option IntKind))→Nat→Option (Option IntKind)→Option Nat
 |[],_,_=>none
 |(j',j0,κ')::r,j,κ=>bif Nat.beq j' j&&decide (κ'=κ) then some j0 else zko r j κ
def Fl.dflt (q:Fl) (κ:Option (Option IntKind)) (j:Nat):SE:=match κ with
 |none=> .lap q.num (j+1) q.a9s
 |some k=> .app q.num (j+1) k q.a9s
def Fl.var (q:Fl) (κ:Option (Option IntKind)) (j:Nat):SE:=
 match zko q.cv j κ with
 |some j0=>(match q.ts[j0]? with
  |some x=>bif (match κ with |none=>true |some k=>decide (x.ty=some k)) then x else q.dflt κ j
  |none=>q.dflt κ j)
 |none=>q.dflt κ j
mutual
def Fl.fillC (q:Fl):C→C
 | .opq (.ivar k j)=> .opq (q.var (some (some k)) j)
 | .opq (.bvar j)=> .opq (q.var (some none) j)
 | .opq (.len (.lvar j))=> .opq (qki (q.var none j))
 | .sli k (.lvar j)=> .sli (q.key k) (q.var none j)
 | .sts (.lvar j)=> .sts (q.var none j)
 | .ptr k o=> .ptr (q.key k) o
 | .sl k o l c=> .sl (q.key k) o l c
 | .slo k l=> .slo (q.key k) l
 | .fn f cs=> .fn f (q.fillCs cs)
 | .big (.lvar j) ks=> .big (q.var none j) ks
 |c=>c
def Fl.fillCs (q:Fl):List C→List C
 |[]=>[]
 |c::cs=>q.fillC c::q.fillCs cs
end
def Fl.fillV (q:Fl):V→V
 | .one c=> .one (q.fillC c)
 | .agg cs=> .agg (q.fillCs cs)
 |v=>v
def Fl.fillS (q:Fl) (fr:Tr):List (Nat×V)→List (Nat×V)
 |[]=>[]
 |(t,.any i)::r=>(match fr.get (i+1) with |some v=>(t,v)::q.fillS fr r |none=>q.fillS fr r)
 |(t,p)::r=>(t,q.fillV p)::q.fillS fr r
def Fl.fillM (q:Fl):MB→MB
 |[]=>[]
 |(k,cs,y)::r=>(q.key k,q.fillCs cs,y)::q.fillM r
mutual
def qv1:C→Bool
 | .opq (.ivar _ _) | .opq (.bvar _) | .opq (.len (.lvar _)) | .sli _ (.lvar _) | .sts (.lvar _) | .ptr _ _ | .sl _ _ _ _ | .slo _ _ | .int _ _ | .bool _ | .nilp | .nils | .str _=>true
 | .fn _ cs=>qpz cs
 |_=>false
def qpz:List C→Bool
 |[]=>true
 |c::cs=>qv1 c&&qpz cs
end
def zhg:V→Bool
 | .one c=>qv1 c
 | .agg cs=>qpz cs
 | .any _=>true
 |_=>false
def z84:MB→Bool
 |[]=>true
 |(_,cs,_)::r=>(match cs with |[.big (.lvar _) _]=>true |cs=>qpz cs)&&z84 r
structure FlOK (q:Fl) (E:Env) (ys:List Int) (σ' σo:List (Nat×Nat×Nat)):Prop where
 z:∀j,E.F q.num (j+1) (q.a9s.vals E)=ys.getD j 0
 c:∀c∈q.cv,eqK c.2.2 (ys.getD c.1 0) ((q.ts.map (SE.val E)).getD c.2.1 0)
 k:∀k v,σ'[k]? =some v→σo[q.key k]? =some v
theorem qo3:∀{cv:List (Nat×Nat×Option (Option IntKind))} {j:Nat} {κ:Option (Option IntKind)} {j0:Nat},zko cv j κ=some j0→(j,j0,κ)∈cv
 |[],_,_,_,h=>by cases h
 |(j',j1,κ')::r,j,κ,j0,h=>by
  simp only [zko] at h
  cases hb:(Nat.beq j' j&&decide (κ'=κ)) with
  |true=>
   rw [hb,cond_true] at h;cases h
   simp only [Bool.and_eq_true,decide_eq_true_eq] at hb
   rw [Nat.eq_of_beq_eq_true hb.1,hb.2];exact .head _
  |false=>rw [hb,cond_false] at h;exact .tail _ (qo3 h)
section
variable {P:Program} {q:Fl} {E:Env} {Fy:Nat→List Int→List Int} {ys:List Int} {av:Nat→Value} {frs:List Blk} {σ' σo:List (Nat×Nat×Nat)}
theorem Fl.var_lst (h:FlOK q E ys σ' σo) (j:Nat):(q.var none j).lst E=dec (ys.getD j 0):=by
 have d:(q.dflt none j).lst E=dec (ys.getD j 0):=by simp only [Fl.dflt,SE.lst,SE.val,h.z]
 unfold Fl.var
 split
 ·rename_i j0 hf
  split
  ·rename_i x hx
   simp only [cond_true]
   have hc:ys.getD j 0=(q.ts.map (SE.val E)).getD j0 0:=h.c _ (qo3 hf)
   rw [hc,List.getD_eq_getElem?_getD,List.getElem?_map,hx];rfl
  ·exact d
 ·exact d
theorem znt {x:SE} {k:Option IntKind} (h:x.ty=some k):wrK k (x.val E)=x.val E:=by
 cases k with
 |some k=>exact qbn E h
 |none=>rw [qi1 h];cases (x.val E !=0)<;>rfl
theorem Fl.var_eS (h:FlOK q E ys σ' σo) (k:Option IntKind) (j:Nat):eS E (q.var (some k) j)=qf2 k (wrK k (ys.getD j 0)):=by
 have d:eS E (q.dflt (some k) j)=qf2 k (wrK k (ys.getD j 0)):=by
  simp only [Fl.dflt]
  rw [qne (k:=k) rfl];simp only [SE.val,h.z]
 unfold Fl.var
 split
 ·rename_i j0 hf
  split
  ·rename_i x hx
   cases hb:decide (x.ty=some k) with
   |false=>simp only [hb,cond_false];exact d
   |true=>
    simp only [hb,cond_true]
    have hty:=of_decide_eq_true hb
    have hc:wrK k (ys.getD j 0)=wrK k ((q.ts.map (SE.val E)).getD j0 0):=h.c _ (qo3 hf)
    have e:(q.ts.map (SE.val E)).getD j0 0=x.val E:=by rw [List.getD_eq_getElem?_getD,List.getElem?_map,hx];rfl
    rw [hc,e,znt hty,qne hty]
  ·exact d
 ·exact d
mutual
theorem qwf (h:FlOK q E ys σ' σo):∀{p:C} {v:Value},qv1 p=true→RelC (qeo Fy ys av frs) σ' p v→RelC E σo (q.fillC p) v
 | .opq x,v,hp,hr=>by
  cases x<;>first |(exfalso;simp only [qv1,Bool.false_eq_true] at hp;done) |skip
  ·rename_i k j
   cases hr
   have:=qbu (e:=E) (σ:=σo) (q.var (some (some k)) j)
   rw [Fl.var_eS h] at this
   have e:eS (qeo Fy ys av frs) (.ivar k j)=qf2 (some k) (wrK (some k) (ys.getD j 0)):=by rw [qne (k:=some k) rfl];simp only [SE.val];rfl
   show RelC E σo (.opq (q.var (some (some k)) j)) (eS (qeo Fy ys av frs) (.ivar k j))
   rw [e];exact this
  ·rename_i j
   cases hr
   have:=qbu (e:=E) (σ:=σo) (q.var (some none) j)
   rw [Fl.var_eS h] at this
   have e:eS (qeo Fy ys av frs) (.bvar j)=qf2 none (wrK none (ys.getD j 0)):=by rw [qne (k:=none) rfl];simp only [SE.val];rfl
   show RelC E σo (.opq (q.var (some none) j)) (eS (qeo Fy ys av frs) (.bvar j))
   rw [e];exact this
  ·rename_i z
   cases z<;>first |(exfalso;simp only [qv1,Bool.false_eq_true] at hp;done) |skip
   rename_i j
   cases hr
   have:=qbu (e:=E) (σ:=σo) (qki (q.var none j))
   rw [qpc,Fl.var_lst h] at this
   have e:eS (qeo Fy ys av frs) (.len (.lvar j))= .int .i64 ((sat (dec (ys.getD j 0)).length:Nat):Int):=by
    have:=qpc (e:=qeo Fy ys av frs) (.lvar j)
    simp only [qki] at this
    rw [this]
    have e2:(SE.lvar j).lst (qeo Fy ys av frs)=dec (ys.getD j 0):=by simp only [SE.lst,SE.val];rfl
    rw [e2]
   show RelC E σo (.opq (qki (q.var none j))) (eS (qeo Fy ys av frs) (.len (.lvar j)))
   rw [e];exact this
 | .sli k x,v,hp,hr=>by
  cases x<;>simp only [qv1,Bool.false_eq_true] at hp
  rename_i j
  cases hr with |sli hg=>
  have:=RelC.sli (e:=E) (x:=q.var none j) (h.k _ _ hg)
  rw [Fl.var_lst h] at this
  exact this
 | .sts x,v,hp,hr=>by
  cases x<;>simp only [qv1,Bool.false_eq_true] at hp
  rename_i j
  cases hr
  have:=RelC.sts (e:=E) (σ:=σo) (x:=q.var none j)
  rw [Fl.var_lst h] at this
  exact this
 | .ptr k o,v,_,hr=>by cases hr with |ptr hg=>exact .ptr (h.k _ _ hg)
 | .sl k o l c,v,_,hr=>by cases hr with |sl hg=>exact .sl (h.k _ _ hg)
 | .slo k l,v,_,hr=>by cases hr with |slo hg=>exact .slo (h.k _ _ hg)
 | .int k n,v,_,hr=>by cases hr;exact .int
 | .bool b,v,_,hr=>by cases hr;exact .bool
 | .nilp,v,_,hr=>by cases hr;exact .nilp
 | .nils,v,_,hr=>by cases hr;exact .nils
 | .str s,v,_,hr=>by cases hr;exact .str
 | .fn f cs,v,hp,hr=>by cases hr with |fn hc=>exact .fn (qmd h (by simpa only [qv1] using hp) hc)
 | .slt _ _ _ _,v,hp,hr=>by simp only [qv1,Bool.false_eq_true] at hp
 | .val _,v,hp,hr=>by simp only [qv1,Bool.false_eq_true] at hp
 | .pel _ _ _ _,v,hp,hr=>by simp only [qv1,Bool.false_eq_true] at hp
 | .big _ _,v,hp,hr=>by simp only [qv1,Bool.false_eq_true] at hp
 | .frm,v,hp,hr=>by simp only [qv1,Bool.false_eq_true] at hp
theorem qmd (h:FlOK q E ys σ' σo):∀{ps:List C} {vs:List Value},qpz ps=true→RelCs (qeo Fy ys av frs) σ' ps vs→RelCs E σo (q.fillCs ps) vs
 |[],vs,_,hr=>by cases hr;exact .nil
 |p::ps,vs,hp,hr=>by
  simp only [qpz,Bool.and_eq_true] at hp
  cases hr with |cons r1 r2=>
  exact .cons (qwf h hp.1 r1) (qmd h hp.2 r2)
end
theorem qn_ (h:FlOK q E ys σ' σo):∀{M:MB} {L:List Blk},z84 M=true→RM P (qeo Fy ys av frs) σ' M L→RM P E σo (q.fillM M) L
 |[],_,_,hr=>by cases hr;exact .nil
 |(k,cs,T,o)::r,L,hp,hr=>by
  simp only [z84,Bool.and_eq_true] at hp
  obtain ⟨hp1,hp2⟩:=hp
  simp only [Fl.fillM]
  cases hr with
  |cons hk hc ho hr t=>
   have hpc:qpz cs=true:=by
    split at hp1
    ·cases hc.notBig
    ·exact hp1
   exact .cons (h.k _ _ hk) (qmd h hpc hc) ho hr (qn_ h hp2 t)
  |big hk hc hi hn hr t=>
   rename_i g c x ks rest L
   cases x<;>first |(exfalso;simp only [qpz,qv1,Bool.false_and,Bool.false_eq_true] at hp1;done) |skip
   rename_i j
   have hl:(q.var none j).lst E=(SE.lvar j).lst (qeo Fy ys av frs):=Fl.var_lst h j
   rw [←hl] at hn hr ⊢
   exact .big (h.k _ _ hk) hc hi hn hr (qn_ h hp2 t)
  |big0 hk he t=>
   rename_i g b x ks
   cases x<;>first |(exfalso;simp only [qpz,qv1,Bool.false_and,Bool.false_eq_true] at hp1;done) |skip
   rename_i j
   have hl:(q.var none j).lst E=(SE.lvar j).lst (qeo Fy ys av frs):=Fl.var_lst h j
   rw [←hl] at he
   exact .big0 (h.k _ _ hk) he (qn_ h hp2 t)
  |frm t=>simp only [qpz,qv1,Bool.false_and,Bool.false_eq_true] at hp1
theorem zfo (h:FlOK q E ys σ' σo) {σ:List (Nat×Nat×Nat)} (hx:Ext σ σo) {fr:Tr} {l l':List (Nat×Value)} (hfr:RF E σ fr l) (hav:∀t,av t=look l t):∀{S:List (Nat×V)},(S.all fun p=>zhg p.2)=true→(∀p∈S,RelV (qeo Fy ys av frs) σ' p.2 (look l' p.1))→∀p∈q.fillS fr S,RelV E σo p.2 (look l' p.1)
 |[],_,_,p,hp=>by cases hp
 |(t,v)::r,hpat,hS,p,hp=>by
  simp only [List.all_cons,Bool.and_eq_true] at hpat
  have ih:=zfo h hx hfr hav hpat.2 fun p hp=>hS p (.tail _ hp)
  have h0:=hS (t,v) (.head _)
  cases v with
  |any i=>
   simp only [Fl.fillS] at hp
   split at hp
   ·rename_i x hxv
    rcases List.mem_cons.1 hp with rfl |hp
    ·have e:look l' t=look l i:=by
      have h0:RelV (qeo Fy ys av frs) σ' (.any i) (look l' t):=h0
      generalize look l' t=u at h0
      cases h0
      exact hav i
     show RelV E σo x (look l' t)
     rw [e];exact (hfr i x hxv).mono hx
    ·exact ih p hp
   ·exact ih p hp
  |one c=>
   simp only [Fl.fillS] at hp
   rcases List.mem_cons.1 hp with rfl |hp
   ·exact .one (qwf h (by simpa only [zhg] using hpat.1) (qd0 h0))
   ·exact ih p hp
  |agg cs=>
   simp only [Fl.fillS] at hp
   rcases List.mem_cons.1 hp with rfl |hp
   ·obtain ⟨vs,h1,h2⟩:=qg2 h0
    have h2':look l' t= .agg (List.toArray vs):=h2
    show RelV E σo (.agg (q.fillCs cs)) (look l' t)
    rw [h2']
    exact .agg (qmd h (by simpa only [zhg] using hpat.1) h1)
   ·exact ih p hp
  |tup vs=>simp [zhg] at hpat
end
def smD (D:SE→Option Bool) (x:SE):Bool:=smX D x
def qo8 (D:SE→Option Bool) (num:Nat) (a9s:SE):List Out→Nat→Option (Nat×Out)
 |[],_=>none
 |[o],j=>some (j,o)
 |o::o2::r,j=>match D (.cmp .eql (.app num 0 (some .i64) a9s) (.lit .i64 (Int.ofNat j))) with
  |some true=>some (j,o)
  |some false=>qo8 D num a9s (o2::r) (j+1)
  |none=>none
def qv4 (ts:List SE):SE→Option SE
 | .ivar k j=>(match ts[j]? with |some x=>bif decide (x.ty=some (some k)) then some x else none |none=>none)
 | .bvar j=>(match ts[j]? with |some x=>bif decide (x.ty=some none) then some x else none |none=>none)
 | .lvar j=>ts[j]?
 | .lit k n=>some (.lit k n)
 | .len x=>(match qv4 ts x with |some y=>some (qki y) |none=>none)
 | .cmp op a b=>(match qv4 ts a,qv4 ts b with |some x,some y=>some (.cmp op x y) |_,_=>none)
 | .bin op k a b=>(match qv4 ts a,qv4 ts b with |some x,some y=>some (.bin op k x y) |_,_=>none)
 | .conv k a=>(match qv4 ts a with |some x=>some (.conv k x) |none=>none)
 |_=>none
theorem qyn {E:Env} {Fy:Nat→List Int→List Int} {av:Nat→Value} {frs:List Blk} {ts:List SE}:∀(x:SE) {y:SE},qv4 ts x=some y→y.val E=x.val (qeo Fy (ts.map (SE.val E)) av frs):=by
 have get:∀(j:Nat) (x:SE),ts[j]? =some x→(ts.map (SE.val E)).getD j 0=x.val E:=fun j x hx=>by rw [List.getD_eq_getElem?_getD,List.getElem?_map,hx];rfl
 intro x
 induction x with
 |ivar k j=>
  intro y h
  simp only [qv4] at h
  split at h
  ·rename_i z hz
   cases hb:decide (z.ty=some (some k)) with
   |false=>rw [hb,cond_false] at h;cases h
   |true=>
    rw [hb,cond_true] at h;cases h
    simp only [SE.val]
    show _=k.wrap ((ts.map (SE.val E)).getD j 0)
    rw [get j _ hz]
    exact (qbn E (of_decide_eq_true hb)).symm
  ·cases h
 |bvar j=>
  intro y h
  simp only [qv4] at h
  split at h
  ·rename_i z hz
   cases hb:decide (z.ty=some none) with
   |false=>rw [hb,cond_false] at h;cases h
   |true=>
    rw [hb,cond_true] at h;cases h
    simp only [SE.val]
    show _=b2i ((ts.map (SE.val E)).getD j 0 !=0)
    rw [get j _ hz]
    exact qi1 (of_decide_eq_true hb)
  ·cases h
 |lvar j=>intro y h;simp only [qv4] at h;simp only [SE.val];exact (get j _ h).symm
 |lit k n=>intro y h;cases h;simp only [SE.val]
 |len x ih=>
  intro y h
  simp only [qv4] at h
  split at h
  ·rename_i z hz
   cases h
   rw [(qfd z).1,qgn]
   simp only [SE.lst,ih hz]
  ·cases h
 |cmp op a b iha ihb=>
  intro y h
  simp only [qv4] at h
  split at h
  ·rename_i p q hp hq;cases h;simp only [SE.val,iha hp,ihb hq]
  ·cases h
 |bin op k a b iha ihb=>
  intro y h
  simp only [qv4] at h
  split at h
  ·rename_i p q hp hq;cases h;simp only [SE.val,iha hp,ihb hq]
  ·cases h
 |conv k a iha=>
  intro y h
  simp only [qv4] at h
  split at h
  ·rename_i p hp;cases h;simp only [SE.val,iha hp]
  ·cases h
 |_=>intro y h;cases h
def z39 (D:SE→Option Bool) (ts:List SE) (c:SE×Bool):Bool:=match qv4 ts c.1 with
 |some x=>qea x&&(match D x with |some b=>b==c.2 |none=>false)
 |none=>false
def lRun (y:LEnt):ztp:=fun D fr M F nx=>
 match mS true (y.S.filter soon) fr ⟨[],[]⟩ with
 |some b1=>(match mM y.M M b1 with
  |some (b2,rest)=>(match (match mF y.F F b2 with |some b3=>mS true (y.S.filter late) fr b3 |none=>none) with
   |some b=>bif b.ks.all (fun p=>Nat.blt p.1 y.nx)&&b.ks.all (fun p=>match p.2 with |some ka=>Nat.blt ka nx |none=>true)&&y.sm.all (fun j=>match b.ts[j]? with |some x=>smD D x |none=>false)&&y.pre.all (z39 D b.ts) then
     (match qo8 D y.num (seL b.ts) y.outs 0 with
     |some (_,o)=>some (o.x,zsa (Fl.fillS ⟨y.num,seL b.ts,b.ts,o.cv,y.kk,b.ks,nx⟩ fr o.S),Fl.fillM ⟨y.num,seL b.ts,b.ts,o.cv,y.kk,b.ks,nx⟩ o.M++rest,nx+y.nx)
     |none=>none) else none
   |none=>none)
  |none=>none)
 |none=>none
def q48:List LEnt→Nat→Nat→ztp
 |[],_,_=>fun _ _ _ _ _=>none
 |y::r,f,id=>fun D fr M F nx=>bif Nat.beq f y.f&&Nat.beq id y.id then (match lRun y D fr M F nx with |some x=>some x |none=>q48 r f id D fr M F nx) else q48 r f id D fr M F nx
theorem qmw:∀{Ls:List LEnt} {f id:Nat} {D:SE→Option Bool} {fr:Tr} {M:MB} {F:List MB} {nx:Nat} {r:Ex×Tr×MB×Nat},q48 Ls f id D fr M F nx=some r→∃y∈Ls,f=y.f∧id=y.id∧lRun y D fr M F nx=some r
 |[],_,_,_,_,_,_,_,_,h=>by cases h
 |y::Ls,f,id,D,fr,M,F,nx,r,h=>by
  simp only [q48] at h
  cases hb:(Nat.beq f y.f&&Nat.beq id y.id) with
  |true=>
   rw [hb,cond_true] at h
   simp only [Bool.and_eq_true] at hb
   split at h
   ·rename_i x hx;cases h
    exact ⟨y,.head _,Nat.eq_of_beq_eq_true hb.1,Nat.eq_of_beq_eq_true hb.2,hx⟩
   ·obtain ⟨z,h1,h2⟩:=qmw h
    exact ⟨z,.tail _ h1,h2⟩
  |false=>
   rw [hb,cond_false] at h
   obtain ⟨z,h1,h2⟩:=qmw h
   exact ⟨z,.tail _ h1,h2⟩
def anyOK (S:List (Nat×V)):Bool:=S.all fun p=>match p.2 with | .any i=>Nat.beq i p.1 |_=>true
def zmg (y:LEnt):Bool:=anyOK y.S&&(Nat.ble y.outs.length 1000&&y.outs.all fun o=>o.S.all (fun p=>zhg p.2)&&z84 o.M)
theorem qnd {E:Env} {D:SE→Option Bool} (hd:∀x b,D x=some b→eS E x= .bool b) {num:Nat} {a9s:SE} {ev:Nat} (hev:E.F num 0 (a9s.vals E)=(ev:Int)) (hb:ev≤1000):∀{outs:List Out} {j:Nat} {e:Nat} {o:Out},qo8 D num a9s outs j=some (e,o)→j≤ev→∀{o':Out},outs[ev - j]? =some o'→o'=o
 |[],j,e,o,h,_,o',ho=>by cases h
 |[o1],j,e,o,h,hj,o',ho=>by
  simp only [qo8,Option.some.injEq,Prod.mk.injEq] at h
  obtain ⟨rfl,rfl⟩:=h
  cases hz:ev - j with
  |zero=>rw [hz] at ho;simpa using ho.symm
  |succ k=>rw [hz] at ho;simp at ho
 |o1::o2::r,j,e,o,h,hj,o',ho=>by
  have hval:(SE.app num 0 (some .i64) a9s).val E=(ev:Int):=by
   simp only [SE.val,hev,wrK]
   rw [IntKind.wrap_i64];omega
  have cmpv:∀v,eS E (.cmp .eql (.app num 0 (some .i64) a9s) (.lit .i64 (Int.ofNat j)))= .bool v→v=decide (ev=j):=fun v hh=>by
   rw [qf5,hval] at hh
   have hl:(SE.lit .i64 (Int.ofNat j)).val E=(j:Int):=by
    simp only [SE.val]
    rw [IntKind.wrap_i64,Int.ofNat_eq_natCast];omega
   rw [hl] at hh
   simp only [qa8,Value.bool.injEq] at hh
   rw [←hh]
   have:((ev:Int)==(j:Int))=decide (ev=j):=by
    by_cases hq:ev=j
    ·subst hq;simp
    ·simp [hq];omega
   exact this
  simp only [qo8] at h
  split at h
  ·rename_i ht
   simp only [Option.some.injEq,Prod.mk.injEq] at h
   obtain ⟨rfl,rfl⟩:=h
   have:=cmpv true (hd _ _ ht)
   have hq:ev=j:=of_decide_eq_true this.symm
   subst hq
   rw [Nat.sub_self] at ho
   simpa using ho.symm
  ·rename_i ht
   have:=cmpv false (hd _ _ ht)
   have hq:ev≠j:=of_decide_eq_false this.symm
   have h1:ev - j=(ev - (j+1))+1:=by omega
   rw [h1,List.getElem?_cons_succ] at ho
   exact qnd hd hev hb h (by omega) ho
  ·cases h
theorem qvn {E:Env} {D:SE→Option Bool} (hd:∀x b,D x=some b→eS E x= .bool b) {x:SE} (h:smD D x=true):(x.lst E).length≤1000000:=by
 exact qn0 (e:=eV E) hd h
theorem zis {b:Cfg} {Ls:List LEnt} (hL:b.L=q48 Ls) {Tb:List Ent} (h:∀y∈Ls,zmg y=true∧∃Fy,LCT b.P y Fy (FT Tb y.num)∧Cst y (FT Tb y.num)):LB b Tb:=by
 intro E hE ds hk0 σ0 f a hla fr M F nx x fr' M' nx' hr n hnf w0 σ l LM Q hn hx0 hfr hM hF hK
 have hr:b.L f (fid a) (dS ds) fr M F nx=some (x,fr',M',nx'):=hr
 rw [hL] at hr
 obtain ⟨y,hy,rfl,hid,hrun⟩:=qmw hr
 obtain ⟨hp,Fy,hc,hcst⟩:=h y hy
 simp only [zmg,Bool.and_eq_true] at hp
 obtain ⟨hany,hle,hpo⟩:=hp
 have hle:=Nat.le_of_ble_eq_true hle
 have hd:∀x b,dS ds x=some b→eS E x= .bool b:=qwe hk0
 unfold lRun at hrun
 split at hrun
 ·rename_i b1 h1
  split at hrun
  ·rename_i b2 rest h2
   split at hrun
   ·rename_i bd h30
    split at h30
    rotate_left
    ·cases h30
    rename_i b3 h3
    have h5:=h30
    cases hb:(bd.ks.all (fun p=>Nat.blt p.1 y.nx)&&bd.ks.all (fun p=>match p.2 with |some ka=>Nat.blt ka nx |none=>true)&&y.sm.all (fun j=>match bd.ts[j]? with |some x=>smD (dS ds) x |none=>false)&&y.pre.all (z39 (dS ds) bd.ts)) with
    |false=>rw [hb,cond_false] at hrun;cases hrun
    |true=>
     rw [hb,cond_true] at hrun
     simp only [Bool.and_eq_true] at hb
     obtain ⟨⟨⟨hlt,hltk⟩,hsm⟩,hpre⟩:=hb
     split at hrun
     ·rename_i e0 o ho
      simp only [Option.some.injEq,Prod.mk.injEq] at hrun
      obtain ⟨rfl,rfl,rfl,rfl⟩:=hrun
      have s3:=qvj h5
      have s2:=(qlv h3).trans s3
      have s1:=qo_ h2
      obtain ⟨Lp,Lr,c2,c3,c1⟩:=qvp h2 hM
      have g:=Tgt.rebase (E:=E) (F:=Fy) (σ:=σ) (av:=fun t=>look l t) (frs:=Lr) hlt
      have c1:=c1 _ _ (g.sub s2)
      have anyK:∀t i,(t,V.any i)∈y.S→i=t:=fun t i hm=>by
       have:=List.all_eq_true.1 hany _ hm
       exact Nat.eq_of_beq_eq_true this
      refine q7s (c3.trans List.perm_append_comm) ?_
      refine hc a hla hid.symm.symm (bd.ts.map (SE.val E)) (fun t=>look l t) Lr n hnf w0 (rebase σ y.nx bd) l (Lr++Lp) Q (by simp [rebase]) (qt_ (qqv h1 (g.sub (s1.trans s2)) (fun _ _=>rfl) (fun _ t i hm=>anyK t i (List.mem_filter.1 hm).1) (fun q=>by cases q) hfr) (qqv h5 g (fun _ _=>rfl) (fun _ t i hm=>anyK t i (List.mem_filter.1 hm).1) (fun q=>by cases q) hfr)) (.frm c1) (qqw hF h3 (g.sub s3)) (fun j hj=> ?_) (fun c hc=> ?_) fun σ' l' L' e ys o' hg ho' hl' hk' hS' hM'=> ?_
      ·have:=List.all_eq_true.1 hsm j hj
       split at this
       ·rename_i x hx
        have e:(bd.ts.map (SE.val E)).getD j 0=x.val E:=by rw [List.getD_eq_getElem?_getD,List.getElem?_map,hx];rfl
        rw [e];exact qvn hd this
       ·cases this
      ·have:=List.all_eq_true.1 hpre c hc
       unfold z39 at this
       split at this
       ·rename_i x hx
        simp only [Bool.and_eq_true] at this
        obtain ⟨hty,this⟩:=this
        have hty:x.ty=some none:=by
         unfold qea at hty
         split at hty
         ·assumption
         ·cases hty
        split at this
        ·rename_i bv hbv
         have hbv2:=hd _ _ hbv
         rw [beq_iff_eq.1 this,qne hty] at hbv2
         rw [←qyn (E:=E) c.1 hx]
         simpa [qf2] using hbv2
        ·cases this
       ·cases this
      ·have hFE:∀i,E.F y.num i ((seL bd.ts).vals E)=((e:Int)::ys).getD i 0:=fun i=>by rw [hE,qhl];show (FT Tb y.num (bd.ts.map (SE.val E))).getD i 0=_;rw [hg]
       have helt:e<y.outs.length:=(List.getElem?_eq_some_iff.1 ho').1
       have hoo:o'=o:=qnd hd (hFE 0) (by omega) ho (Nat.zero_le _) (by simpa using ho')
       subst hoo
       have hmem:o'∈y.outs:=List.mem_of_getElem? ho'
       have hpo':=List.all_eq_true.1 hpo _ hmem
       simp only [Bool.and_eq_true] at hpo'
       have fok:FlOK ⟨y.num,seL bd.ts,bd.ts,o'.cv,y.kk,bd.ks,nx⟩ E ys σ' (σ++σ'):=by
        refine ⟨fun j=>by rw [hFE];simp,fun c hc=>hcst _ e ys o' hg ho' c hc,fun k v hkv=> ?_⟩
        have hklt:k<y.nx:=by have:=(List.getElem?_eq_some_iff.1 hkv).1;omega
        have hdef:(σ++σ')[nx+k]? =some v:=by rw [List.getElem?_append_right (by omega),hn,show nx+k - nx=k by omega];exact hkv
        unfold Fl.key
        cases hcon:y.kk.contains k with
        |false=>simp only [hcon,cond_false];exact hdef
        |true=>
         simp only [hcon,cond_true]
         split
         ·rename_i ka hlk
          have hmk:k∈y.kk:=List.contains_iff_mem.1 hcon
          have h5:=hk' k hmk
          rw [hkv] at h5
          unfold rebase at h5
          rw [List.getElem?_map,List.getElem?_range hklt] at h5
          simp only [Option.map_some,hlk] at h5
          cases hka:σ[ka]? with
          |none=>
           have h6:=List.all_eq_true.1 hltk _ (qj0 hlk)
           have h6:ka<nx:=by simpa [Nat.blt_eq] using h6
           rw [List.getElem?_eq_none_iff] at hka
           omega
          |some z=>
           rw [hka] at h5
           simp only [Option.getD_some,Option.some.injEq] at h5
           rw [h5]
           exact Ext.get ⟨σ',rfl⟩ hka
         ·exact hdef
       cases hM' with
       |frm t=>
        have hX:=hK (σ++σ') l' _ ⟨σ',rfl⟩ (by simp [hn,hl']) (qo2 (zfo fok ⟨σ',rfl⟩ hfr (fun _=>rfl) hpo'.1 hS')) ((qn_ fok hpo'.2 t).app (c2.mono ⟨σ',rfl⟩))
        exact zox List.perm_append_comm hX
       |cons hk1 hc1 ho1 hr1 t=>cases hc1.notBig
     ·cases hrun
   ·cases hrun
  ·cases hrun
 ·cases hrun
def qa3 (P:Program) (f id:Nat):Code:=match P.funcs[f]? with
 |some fn=>(match fn.body with |some b=>((qdq b).find? fun a=>Nat.beq (fid a) id).getD .skip |none=> .skip)
 |none=> .skip
def oneB (P:Program) (f id:Nat):Bool:=match P.funcs[f]? with
 |some fn=>(match fn.body with |some b=>Nat.beq ((qdq b).filter fun a=>Nat.beq (fid a) id).length 1 |none=>false)
 |none=>false
theorem z1_ {P:Program} {f id:Nat} (h:oneB P f id=true) {a:Code} (ha:qoe P f a) (hid:fid a=id):a=qa3 P f id:=by
 obtain ⟨fn,b,hf,hb,hm⟩:=ha
 simp only [oneB,hf,hb] at h
 simp only [qa3,hf,hb]
 have hlen:=Nat.eq_of_beq_eq_true h
 have hma:a∈(qdq b).filter fun a=>Nat.beq (fid a) id:=List.mem_filter.2 ⟨hm,by rw [hid];exact Nat.beq_refl id⟩
 have hfind:(qdq b).find? (fun a=>Nat.beq (fid a) id)=((qdq b).filter fun a=>Nat.beq (fid a) id).head? :=by rw [List.head?_filter]
 rw [hfind]
 match hl:(qdq b).filter (fun a=>Nat.beq (fid a) id) with
 |[]=>rw [hl] at hma;cases hma
 |[x]=>
  rw [hl] at hma
  simp only [List.mem_singleton] at hma
  rw [hma];rfl
 |x::y::r=>rw [hl] at hlen;simp at hlen
theorem zfl {P:Program} {f:Nat} {a:Code} (h:qoe P f a):∀y∈qdq a,qoe P f y:=by
 obtain ⟨fn,b,hf,hb,hm⟩:=h
 have key:∀(b:Code),a∈qdq b→∀y∈qdq a,y∈qdq b:=by
  intro b
  induction b with
  |seq x y ihx ihy=>
   intro hm z hz
   simp only [qdq,List.mem_append] at hm ⊢
   rcases hm with hm |hm
   ·exact .inl (ihx hm z hz)
   ·exact .inr (ihy hm z hz)
  |cond c x y ihx ihy=>
   intro hm z hz
   simp only [qdq,List.mem_append] at hm ⊢
   rcases hm with hm |hm
   ·exact .inl (ihx hm z hz)
   ·exact .inr (ihy hm z hz)
  |block id x ih=>intro hm z hz;exact ih hm z hz
  |loop x ih=>
   intro hm z hz
   simp only [qdq,List.mem_cons] at hm ⊢
   rcases hm with rfl |hm
   ·exact .inr hz
   ·exact .inr (ih hm z hz)
  |_=>intro hm;cases hm
 exact fun y hy=>⟨fn,b,hf,hb,key b hm y hy⟩
noncomputable def qfv (init:List SE) (T:Nat→RT) (fuel:List Int→Nat) (F:Nat→List Int→List Int) (xs:List Int):List Int:=
 match qkx T F 0 (fuel xs) (init.map (SE.val (qaa F xs))) with
 |some (e,ys)=>(e:Int)::ys
 |none=>[]
def lvB (y:LEnt):Bool:=y.lv.all fun c=>match lkL y.F c.1 with
 |some (.lvar j,_,_)=>Nat.beq j c.2
 |_=>(match lkL y.M c.1 with |some (.lvar j,_,_)=>Nat.beq j c.2&& !(Nat.beq frmK c.1) |_=>false)
structure Pre (y:LEnt) (F:Nat→List Int→List Int) (xs:List Int):Prop where
 lv:∀c∈y.lv,(dec (xs.getD c.2 0)).length≤maxLen
 sm:∀j∈y.sm,(dec (xs.getD j 0)).length≤1000000
 pre:∀c∈y.pre,(c.1.val (qaa F xs) !=0)=c.2
def ntB (P:Program) (f n:Nat):Bool:=match P.funcs[f]? with |some fn=>Nat.beq fn.ntmps n |none=>false
section
variable {b:Cfg} {Tb:List Ent}
theorem qc8 (hb:CfgOK b) (hlb:LB b Tb) (hT:qcd b.P Tb) {y:LEnt} {d n:Nat} {S:Nat→List (Nat×V)} {M:MB} {T:Nat→RT} {init:List SE} {fuel:List Int→Nat}
  (h1:oneB b.P y.f y.id=true) (hnt:ntB b.P y.f n=true) (hlv:lvB y=true) (hinit:stQ (S 0) M y.F y.nx y.kk (zsa y.S) (que::y.M) init=true)
  (hround:∀xs j,j<fuel xs→qak b Tb d y.f n (qa3 b.P y.f y.id) (S j) M y.F y.nx (S (j+1)) y.outs y.kk (T j) []=true)
  (hok:∀xs,Pre y (FT Tb) xs→qdn T (FT Tb) 0 (fuel xs) (init.map (SE.val (qaa (FT Tb) xs)))):LCT b.P y (FT Tb) (qfv init T fuel (FT Tb)):=by
 intro a ha hid xs av frs n' hnf w0 σ l L Q hn hS hM hF hsm hpr hK
 have hbody:=z1_ h1 ha hid
 subst hbody
 have hnn:n'=n:=by
  obtain ⟨fn,hf,hfn⟩:=hnf
  simp only [ntB,hf] at hnt
  rw [←hfn];exact Nat.eq_of_beq_eq_true hnt
 subst hnn
 have hlen:∀c∈y.lv,(dec (xs.getD c.2 0)).length≤maxLen:=fun c hc=>by
  have hq:=List.all_eq_true.1 hlv c hc
  have len:∀j,(SE.lvar j).lst (qeo (FT Tb) xs av frs)=dec (xs.getD j 0):=fun j=>by simp only [SE.lst,SE.val];rfl
  split at hq
  ·rename_i j ks T hl
   have:=Nat.eq_of_beq_eq_true hq
   subst this
   obtain ⟨g,bb,cc,_,f2,_⟩:=hF.l c.1 (.lvar c.2) ks T (by simp only [qtf,hl])
   rw [len] at f2;exact f2
  ·split at hq
   ·rename_i j ks T hl
    simp only [Bool.and_eq_true,Bool.not_eq_true'] at hq
    have:=Nat.eq_of_beq_eq_true hq.1
    subst this
    have hl2:lkL (que::y.M) c.1=some (.lvar c.2,ks,T):=by
     simp only [que,lkL,hq.2,cond_false];exact hl
    rcases hM.lookL hl2 with ⟨g,bb,a1,a2,_⟩ |⟨g,cc,rest,a1,a2,a3,a4,_⟩
    ·rw [len] at a2;rw [a2];exact Nat.zero_le _
    ·rw [len] at a4;omega
   ·cases hq
 have hpre:Pre y (FT Tb) xs:=⟨hlen,hsm,fun c hc=>by rw [←qho];exact hpr c hc⟩
 obtain ⟨σ',L',rest,q1,q2,q3,q4,q5,q6⟩:=qrm (Fy:=FT Tb) hinit (by omega) (qo2 hS) hM hF
 have hmap:init.map (SE.val (qeo (FT Tb) xs av frs))=init.map (SE.val (qaa (FT Tb) xs)):=List.map_congr_left fun x _=>qho x
 rw [hmap] at q3 q4 q5
 refine q7s q6 (yeg (List.sublist_append_left L' rest) ?_)
 refine q73 hb hlb hT (N:=fuel xs) (fun j hj=>hround xs j hj) (zfl ha) hnf (fuel xs) 0 _ σ' l L' (by omega) q1 q3 q4 q5 (hok xs hpre) ?_
 intro σ2 l2 L2 e ys o hr ho hl2 hk2 hs2 hm2
 refine hK σ2 l2 L2 e ys o (by simp only [qfv,hr]) ho hl2 (fun k hk=> ?_) hs2 hm2
 rw [hk2 k hk,(q2 k hk).2]
def zsi (κ:Option (Option IntKind)) (j:Nat):SE→Bool
 | .lvar i=>(match κ with |none=>Nat.beq i j |_=>false)
 | .ivar k i=>(match κ with |some (some k')=>decide (k=k')&&Nat.beq i j |_=>false)
 | .bvar i=>(match κ with |some none=>Nat.beq i j |_=>false)
 |_=>false
def zdp (κ:Option (Option IntKind)) (j:Nat) (ys:List SE) (h:Nat):Bool:=match ys[h]? with |some x=>zsi κ j x |none=>false
def RT.cB (hc:List (Nat×Nat×Option (Option IntKind))) (outs:List Out):RT→Bool
 | .next ys=>hc.all fun c=>zdp c.2.2 c.1 ys c.1
 | .out e ys=>(match outs[e]? with |some o=>o.cv.all (fun c=>hc.any fun h=>Nat.beq h.2.1 c.2.1&&decide (h.2.2=c.2.2)&&zdp c.2.2 h.1 ys c.1) |none=>true)
 | .ask _ t e=>t.cB hc outs&&e.cB hc outs
 | .know _ _ t=>t.cB hc outs
theorem q59 {κ:Option (Option IntKind)} {j:Nat} {x:SE} (h:zsi κ j x=true) (F:Nat→List Int→List Int) (xs:List Int):eqK κ (x.val (qaa F xs)) (xs.getD j 0):=by
 unfold zsi at h
 split at h
 ·split at h
  ·rw [Nat.eq_of_beq_eq_true h];show (SE.lvar j).val _=_;simp only [SE.val];rfl
  ·cases h
 ·split at h
  ·rename_i k i _ k'
   simp only [Bool.and_eq_true,decide_eq_true_eq] at h
   obtain ⟨rfl,h2⟩:=h
   rw [Nat.eq_of_beq_eq_true h2]
   show wrK (some k) ((SE.ivar k j).val _)=wrK (some k) (xs.getD j 0)
   simp only [SE.val,wrK]
   exact qaq k _
  ·cases h
 ·split at h
  ·rw [Nat.eq_of_beq_eq_true h]
   show wrK none ((SE.bvar j).val _)=wrK none (xs.getD j 0)
   simp only [SE.val,wrK,qas];rfl
  ·cases h
 ·cases h
theorem eqK.trans {κ:Option (Option IntKind)} {a b c:Int} (h:eqK κ a b) (h':eqK κ b c):eqK κ a c:=by
 cases κ with
 |none=>exact Eq.trans h h'
 |some k=>exact Eq.trans h h'
theorem qop {κ:Option (Option IntKind)} {j h:Nat} {ys:List SE} (hv:zdp κ j ys h=true) (F:Nat→List Int→List Int) (xs:List Int):eqK κ ((ys.map (SE.val (qaa F xs))).getD h 0) (xs.getD j 0):=by
 unfold zdp at hv
 split at hv
 ·rename_i x hx
  rw [List.getD_eq_getElem?_getD,List.getElem?_map,hx]
  exact q59 hv F xs
 ·cases hv
theorem qi8 {hc:List (Nat×Nat×Option (Option IntKind))} {outs:List Out} {F:Nat→List Int→List Int} {xs:List Int}:∀{t:RT},t.cB hc outs=true→
  (∀ys,t.get (qaa F xs)=(none,ys)→∀c∈hc,eqK c.2.2 (ys.getD c.1 0) (xs.getD c.1 0))∧(∀e ys o,t.get (qaa F xs)=(some e,ys)→outs[e]? =some o→∀c∈o.cv,∃h∈hc,h.2.1=c.2.1∧h.2.2=c.2.2∧eqK c.2.2 (ys.getD c.1 0) (xs.getD h.1 0))
 | .next zs,h=>by
  refine ⟨fun ys hy c hc=> ?_,fun e ys o hy=>by simp [RT.get] at hy⟩
  simp only [RT.get,Prod.mk.injEq,true_and] at hy
  rw [←hy]
  exact qop (List.all_eq_true.1 h c hc) F xs
 | .out e zs,h=>by
  refine ⟨fun ys hy=>by simp [RT.get] at hy,fun e' ys o hy ho c hc=> ?_⟩
  simp only [RT.get,Prod.mk.injEq,Option.some.injEq] at hy
  obtain ⟨rfl,rfl⟩:=hy
  simp only [RT.cB,ho] at h
  have:=List.all_eq_true.1 h c hc
  obtain ⟨hh,hm,hp⟩:=List.any_eq_true.1 this
  simp only [Bool.and_eq_true,decide_eq_true_eq] at hp
  exact ⟨hh,hm,Nat.eq_of_beq_eq_true hp.1.1,hp.1.2,qop hp.2 F xs⟩
 | .ask x t e,h=>by
  simp only [RT.cB,Bool.and_eq_true] at h
  simp only [RT.get]
  cases (x.val (qaa F xs) !=0) with
  |true=>exact qi8 h.1
  |false=>exact qi8 h.2
 | .know x v t,h=>by simp only [RT.cB] at h;simp only [RT.get];exact qi8 h
theorem qdh {y:LEnt} {T:Nat→RT} {init:List SE} {fuel:List Int→Nat} {F:Nat→List Int→List Int} (hc:List (Nat×Nat×Option (Option IntKind)))
  (h0:(hc.all fun c=>zdp c.2.2 c.2.1 init c.1)=true) (h:∀xs j,j<fuel xs→(T j).cB hc y.outs=true):Cst y (qfv init T fuel F):=by
 intro xs e ys o hg ho c hcm
 have key:∀(k j:Nat) (cur:List Int),j+k≤fuel xs→(∀c∈hc,eqK c.2.2 (cur.getD c.1 0) (xs.getD c.2.1 0))→∀e ys o,qkx T F j k cur=some (e,ys)→y.outs[e]? =some o→∀c∈o.cv,eqK c.2.2 (ys.getD c.1 0) (xs.getD c.2.1 0):=by
  intro k
  induction k with
  |zero=>intro j cur _ _ e ys o hr;cases hr
  |succ k ih=>
   intro j cur hjk hinv e ys o hr ho c hcm
   simp only [qkx] at hr
   obtain ⟨g1,g2⟩:=qi8 (F:=F) (xs:=cur) (h xs j (by omega))
   split at hr
   ·rename_i zs hz
    exact ih (j+1) zs (by omega) (fun c hcc=>(g1 zs hz c hcc).trans (hinv c hcc)) e ys o hr ho c hcm
   ·rename_i e' zs hz
    cases hr
    obtain ⟨hh,hm,q1,q2,q3⟩:=g2 _ _ o hz ho c hcm
    have:=hinv hh hm
    rw [q1,q2] at this
    exact q3.trans this
 unfold qfv at hg
 split at hg
 ·rename_i e' ys' hr
  simp only [List.cons.injEq] at hg
  obtain ⟨he,rfl⟩:=hg
  have:e'=e:=by omega
  subst this
  exact key _ 0 _ (by omega) (fun c hcc=>qop (List.all_eq_true.1 h0 c hcc) F xs) _ _ o hr ho c hcm
 ·cases hg
def RT.free:RT→Bool
 | .next _=>true
 | .out _ _=>true
 | .ask _ t e=>t.free&&e.free
 | .know _ _ _=>false
def RT.ends:RT→Bool
 | .next _=>false
 | .out _ _=>true
 | .ask _ t e=>t.ends&&e.ends
 | .know _ _ t=>t.ends
theorem RT.free_ok {E:Env}:∀{t:RT},t.free=true→t.ok E
 | .next _,_=>trivial
 | .out _ _,_=>trivial
 | .ask x t e,h=>by
  simp only [RT.free,Bool.and_eq_true] at h
  exact ⟨fun _=>RT.free_ok h.1,fun _=>RT.free_ok h.2⟩
 | .know _ _ _,h=>by cases h
theorem RT.ends_get {E:Env}:∀{t:RT},t.ends=true→∀ys,t.get E≠(none,ys)
 | .next _,h,_=>by cases h
 | .out _ _,_,ys=>by simp [RT.get]
 | .ask x t e,h,ys=>by
  simp only [RT.ends,Bool.and_eq_true] at h
  simp only [RT.get]
  cases (x.val E !=0) with
  |true=>exact RT.ends_get h.1 ys
  |false=>exact RT.ends_get h.2 ys
 | .know _ _ t,h,ys=>by simp only [RT.ends] at h;simp only [RT.get];exact RT.ends_get h ys
theorem qpn {T:Nat→RT} {F:Nat→List Int→List Int} {N:Nat} (h:∀j,j≤N→(T j).free=true) (hN:(T N).ends=true):∀(k j:Nat) (xs:List Int),j+k=N+1→0<k→qdn T F j k xs
 |0,_,_,_,hk=>by omega
 |k+1,j,xs,hjk,_=>by
  refine ⟨RT.free_ok (h j (by omega)),fun ys hy=> ?_⟩
  by_cases hj:j=N
  ·subst hj;exact absurd hy (RT.ends_get hN ys)
  ·exact qpn h hN k (j+1) ys (by omega) (by omega)
def rgB (c lv:Nat) (ex:List (SE×Bool)):Bool→RT→Bool
 |g,.next ys=>g&&((match ys[c]? with |some y=>decide (y= .bin .add .i64 (.ivar .i64 c) (.lit .i64 1)) |none=>false)&&(match ys[lv]? with |some y=>decide (y= .lvar lv) |none=>false))
 |_,.out _ _=>true
 |g,.ask x t e=>rgB c lv ex (g||decide (x= .cmp .lss (.ivar .i64 c) (.len (.lvar lv)))) t&&rgB c lv ex g e
 |g,.know x b t=>((decide (x= .cmp .geq (.ivar .i64 c) (.lit .i64 0))&&b)||(g&&ex.any fun q=>decide (q=(x,b))))&&rgB c lv ex g t
section
variable {c lv:Nat} {ex:List (SE×Bool)} {F:Nat→List Int→List Int} {xs:List Int} {i:Nat}
theorem qlj (hc:xs.getD c 0=(i:Int)) (hl:(dec (xs.getD lv 0)).length≤maxLen) (hi:i≤(dec (xs.getD lv 0)).length):((SE.cmp .lss (.ivar .i64 c) (.len (.lvar lv))).val (qaa F xs) !=0)=decide (i<(dec (xs.getD lv 0)).length):=by
 have e1:(qaa F xs).iv c=(i:Int):=hc
 have e2:(qaa F xs).iv lv=xs.getD lv 0:=rfl
 simp only [SE.val,qas,qa8,e1,e2]
 rw [qck (by omega),qcz hl]
 apply decide_eq_decide.2
 omega
theorem zwj (hc:xs.getD c 0=(i:Int)) (hi:i≤maxLen):((SE.cmp .geq (.ivar .i64 c) (.lit .i64 0)).val (qaa F xs) !=0)=true:=by
 have e1:(qaa F xs).iv c=(i:Int):=hc
 have e0:IntKind.i64.wrap 0=0:=rfl
 simp only [SE.val,qas,qa8,e1,e0]
 rw [qck hi]
 apply decide_eq_true
 omega
theorem zi8 (hc:xs.getD c 0=(i:Int)) (hl:(dec (xs.getD lv 0)).length≤maxLen) (hi:i≤(dec (xs.getD lv 0)).length) (hex:i<(dec (xs.getD lv 0)).length→∀q∈ex,(q.1.val (qaa F xs) !=0)=q.2):∀{t:RT} {g:Bool},rgB c lv ex g t=true→(g=true→i<(dec (xs.getD lv 0)).length)→t.ok (qaa F xs)
 | .next _,_,_,_=>trivial
 | .out _ _,_,_,_=>trivial
 | .ask x t e,g,h,hg=>by
  simp only [rgB,Bool.and_eq_true] at h
  refine ⟨fun hx=>zi8 hc hl hi hex h.1 fun q=> ?_,fun _=>zi8 hc hl hi hex h.2 hg⟩
  simp only [Bool.or_eq_true,decide_eq_true_eq] at q
  rcases q with q |rfl
  ·exact hg q
  ·rw [qlj hc hl hi] at hx;exact of_decide_eq_true hx
 | .know x b t,g,h,hg=>by
  simp only [rgB,Bool.and_eq_true,Bool.or_eq_true,decide_eq_true_eq] at h
  refine ⟨?_,zi8 hc hl hi hex h.2 hg⟩
  rcases h.1 with ⟨rfl,rfl⟩ |⟨hg',hq⟩
  ·exact zwj hc (by omega)
  ·obtain ⟨q,hm,hq⟩:=List.any_eq_true.1 hq
   have:=of_decide_eq_true hq
   subst this
   exact hex (hg hg') _ hm
theorem qn3 (hc:xs.getD c 0=(i:Int)) (hl:(dec (xs.getD lv 0)).length≤maxLen) (hi:i≤(dec (xs.getD lv 0)).length):∀{t:RT} {g:Bool},rgB c lv ex g t=true→(g=true→i<(dec (xs.getD lv 0)).length)→∀ys,t.get (qaa F xs)=(none,ys)→i<(dec (xs.getD lv 0)).length∧ys.getD c 0=((i+1:Nat):Int)∧ys.getD lv 0=xs.getD lv 0
 | .next zs,g,h,hg,ys,hy=>by
  simp only [rgB,Bool.and_eq_true] at h
  have hlt:=hg h.1
  simp only [RT.get,Prod.mk.injEq,true_and] at hy
  subst hy
  have get:∀(j:Nat) (y:SE),zs[j]? =some y→(zs.map (SE.val (qaa F xs))).getD j 0=y.val (qaa F xs):=fun j y hj=>by rw [List.getD_eq_getElem?_getD,List.getElem?_map,hj];rfl
  obtain ⟨h1,h2⟩:=h.2
  refine ⟨hlt,?_,?_⟩
  ·split at h1
   ·rename_i y hy
    have:=of_decide_eq_true h1
    subst this
    rw [get _ _ hy]
    have e1:(qaa F xs).iv c=(i:Int):=hc
    have e0:IntKind.i64.wrap 1=1:=rfl
    simp only [SE.val,qbg,e1,e0]
    rw [qck (by omega),show ((i:Int)+1)=((i+1:Nat):Int) by omega,qck (by omega)]
   ·cases h1
  ·split at h2
   ·rename_i y hy
    have:=of_decide_eq_true h2
    subst this
    rw [get _ _ hy]
    simp only [SE.val];rfl
   ·cases h2
 | .out _ _,_,_,_,ys,hy=>by simp [RT.get] at hy
 | .ask x t e,g,h,hg,ys,hy=>by
  simp only [rgB,Bool.and_eq_true] at h
  simp only [RT.get] at hy
  cases hx:(x.val (qaa F xs) !=0) with
  |true=>
   rw [hx,cond_true] at hy
   refine qn3 hc hl hi h.1 (fun q=> ?_) ys hy
   simp only [Bool.or_eq_true,decide_eq_true_eq] at q
   rcases q with q |rfl
   ·exact hg q
   ·rw [qlj hc hl hi] at hx;exact of_decide_eq_true hx
  |false=>rw [hx,cond_false] at hy;exact qn3 hc hl hi h.2 hg ys hy
 | .know x b t,g,h,hg,ys,hy=>by
  simp only [rgB,Bool.and_eq_true] at h
  exact qn3 hc hl hi h.2 hg ys hy
end
theorem qfc {T:RT} {c lv:Nat} {ex:List (SE×Bool)} (h:rgB c lv ex false T=true) {F:Nat→List Int→List Int} (J:List Int→Prop) (hJ:∀xs ys,J xs→T.get (qaa F xs)=(none,ys)→J ys)
  (hex:∀xs i,J xs→xs.getD c 0=((i:Nat):Int)→(dec (xs.getD lv 0)).length≤maxLen→i<(dec (xs.getD lv 0)).length→∀q∈ex,(q.1.val (qaa F xs) !=0)=q.2):
  ∀(k i j:Nat) (xs:List Int),xs.getD c 0=(i:Int)→i+k=(dec (xs.getD lv 0)).length+1→0<k→(dec (xs.getD lv 0)).length≤maxLen→J xs→qdn (fun _=>T) F j k xs
 |0,_,_,_,_,_,hk,_,_=>by omega
 |k+1,i,j,xs,hc,hik,_,hl,hj=>by
  have hi:i≤(dec (xs.getD lv 0)).length:=by omega
  refine ⟨zi8 hc hl hi (fun hlt=>hex xs i hj hc hl hlt) h (fun q=>by cases q),fun ys hy=> ?_⟩
  obtain ⟨h1,h2,h3⟩:=qn3 hc hl hi h (fun q=>by cases q) ys hy
  exact qfc h J hJ hex k (i+1) (j+1) ys h2 (by rw [h3];omega) (by omega) (by rw [h3];exact hl) (hJ xs ys hj hy)
theorem qg8 {I:List SE} {c:Nat} {F:Nat→List Int→List Int} {xs:List Int} (h:(match I[c]? with |some x=>decide (x= .lit .i64 0) |none=>false)=true):(I.map (SE.val (qaa F xs))).getD c 0=((0:Nat):Int):=by
 split at h
 ·rename_i x hx
  have:=of_decide_eq_true h
  subst this
  rw [List.getD_eq_getElem?_getD,List.getElem?_map,hx]
  show (SE.lit .i64 0).val (qaa F xs)=_
  simp only [SE.val];rfl
 ·cases h
theorem qbq {I:List SE} {c j0:Nat} {F:Nat→List Int→List Int} {xs:List Int} (h:(match I[c]? with |some x=>decide (x= .lvar j0) |none=>false)=true):(I.map (SE.val (qaa F xs))).getD c 0=xs.getD j0 0:=by
 split at h
 ·rename_i x hx
  have:=of_decide_eq_true h
  subst this
  rw [List.getD_eq_getElem?_getD,List.getElem?_map,hx]
  show (SE.lvar j0).val (qaa F xs)=_
  simp only [SE.val];rfl
 ·cases h
def LBs (P:Program) (Ls:List LEnt) (Tb:List Ent):Prop:=∀y∈Ls,zmg y=true∧∃Fy,LCT P y Fy (FT Tb y.num)∧Cst y (FT Tb y.num)
def Cfg.loops (b:Cfg) (Ls:List LEnt):Cfg:={b with L:=q48 Ls}
theorem qag (hb:CfgOK b) (Ls:List LEnt):CfgOK (b.loops Ls):=⟨fun e σ0 σ hx f vs v us h1 h2=>hb.x e σ0 σ hx f vs v us h1 h2,hb.mixed,fun E σ0 D hD=>hb.b E σ0 D hD⟩
theorem qbj {Ls:List LEnt} (h:LBs b.P Ls Tb):LB (b.loops Ls) Tb:=zis (b:=b.loops Ls) rfl h
theorem qxe {P:Program}:LBs P [] Tb:=fun _ h=>by cases h
theorem qao {P:Program} {Ls:List LEnt} {x:Ent} (h:LBs P Ls Tb) (hx:(Ls.all fun y=> !Nat.beq y.num x.f)=true):LBs P Ls (x::Tb):=fun y hy=>by
 have hn:Nat.beq y.num x.f=false:=by have:=List.all_eq_true.1 hx y hy;simpa using this
 have e:FT (x::Tb) y.num=FT Tb y.num:=by funext xs;simp only [FT,hn,cond_false]
 rw [e];exact h y hy
theorem qbl {P:Program} {Ls:List LEnt} {x:Ent} {y:LEnt} (h:LBs P Ls Tb) (hx:(Ls.all fun y=> !Nat.beq y.num x.f)=true) (hy:Nat.beq y.num x.f=true) (he:zmg y=true) {Fy:Nat→List Int→List Int} (hl:LCT P y Fy (x.fn (FT Tb))) (hc:Cst y (x.fn (FT Tb))):LBs P (y::Ls) (x::Tb):=fun z hz=>by
 rcases List.mem_cons.1 hz with rfl |hz
 ·have e:FT (x::Tb) z.num=x.fn (FT Tb):=by funext xs;simp only [FT,hy,cond_true]
  rw [e];exact ⟨he,Fy,hl,hc⟩
 ·exact qao h hx z hz
end
end Go.Proofs.YtilkebpcjklmfaaGreat.Own
namespace Go.Proofs.YtilkebpcjklmfaaGreat.Own
open Go Go.RowKit Go.Proofs
set_option maxRecDepth 100000
set_option maxHeartbeats 40000000
def zv7 (vs:List V) (M:MB) (nx:Nat):Option (V×MB×Nat):=
 match vs with
 |[.one (.ptr k 0)]=>(match lkB M k with
  |some (cs,T,false)=>bif Nat.beq T 66 then (match cs with
   |[.nilp,b,i,g,d]=>(match stB M k [.ptr k 0,b,i,g,d] with |some M'=>some (.tup [],M',nx) |none=>none)
   |[.ptr k' 0,b,i,g,d]=>bif Nat.beq k' k then some (.tup [],M,nx) else none
   |_=>none) else none
  |_=>none)
 |_=>none
def zgi (vs:List V) (M:MB) (nx:Nat):Option (V×MB×Nat):=
 match vs with
 |[.one (.ptr k 0),.one (.str s)]=>(match lkB M k with
  |some (cs,T,false)=>bif Nat.beq T 66&&(Nat.blt 0 s.size&&Nat.ble s.size 1000000) then (match cs with
   |[.nilp,.nils,i,g,d]=>(match stB M k [.ptr k 0,.sli nx (.lbs (s.data.toList.map UInt8.toNat)),i,g,d] with
    |some M'=>some (.tup [.one (.int .i64 s.size),.one .nili],(nx,[.big (.lbs (s.data.toList.map UInt8.toNat)) [some .u8]],5,true)::M',nx+1)
    |none=>none)
   |_=>none) else none
  |_=>none)
 |_=>none
def qmo:SE→Option (List Nat)
 | .lnil=>some []
 | .lbs l=>some l
 | .lone (.cons (.lit .u8 (.ofNat n)) .nil)=>some [n]
 | .lcat a b=>(match qmo a,qmo b with |some x,some y=>some (x++y) |_,_=>none)
 |_=>none
def neL:SE→Bool
 | .lbs (_::_)=>true
 | .lone _=>true
 | .lcat a b=>neL a||neL b
 |_=>false
def bStr (D:SE→Option Bool) (vs:List V) (M:MB) (nx:Nat):Option (V×MB×Nat):=
 match vs with
 |[.one (.ptr k 0)]=>(match lkB M k with
  |some (cs,T,false)=>bif Nat.beq T 66 then (match cs with
   |[_,.sli j x,_,_,_]=>(match lkL M j,qjc M j with
    |some (x',[some .u8],T'),some (_,M')=>bif Nat.beq T' 5&&(decide (x=x')&&(neL x&&smX D x)) then
      some (.one (match qmo x with |some l=> .str ⟨(l.map UInt8.ofNat).toArray⟩ |none=> .sts x),M',nx) else none
    |_,_=>none)
   |_=>none) else none
  |_=>none)
 |_=>none
def bB (D:SE→Option Bool):qru:=fun f vs M F nx=>
 bif Nat.beq f 87 then zv7 vs M nx else bif Nat.beq f 51 then zgi vs M nx else bif Nat.beq f 52 then bStr D vs M nx else none
def bBW (f:Nat):Bool:=[87,51,52,108,24,54,55,58,89,56,59,61,65,63,90,91,92,93,57,60,62,64,66,67,25,26,28,27].any fun g=>Nat.beq f g
end Go.Proofs.YtilkebpcjklmfaaGreat.Own
namespace Go.Proofs.YtilkebpcjklmfaaGreat.Plain
set_option maxRecDepth 100000
set_option maxHeartbeats 40000000
def qbr (a b c d:Nat):Nat:=((a * 18446744073709551616+b) * 18446744073709551616+c) * 18446744073709551616+d
def qbc (a b:Nat):Nat:=a * 18446744073709551616+b
def wrd (i N:Nat):Nat:=N / 18446744073709551616 ^ i % 18446744073709551616
theorem qg0 (i N:Nat):wrd i N<18446744073709551616:=Nat.mod_lt _ (by decide)
theorem q9u {a b c d:Nat} (ha:a<18446744073709551616) (hb:b<18446744073709551616) (hc:c<18446744073709551616) (hd:d<18446744073709551616):qbr a b c d<115792089237316195423570985008687907853269984665640564039457584007913129639936:=by
 unfold qbr;omega
theorem zra {a b:Nat} (ha:a<18446744073709551616) (hb:b<18446744073709551616):qbc a b<340282366920938463463374607431768211456:=by
 unfold qbc;omega
theorem qje {a b c d N:Nat} (ha:a<18446744073709551616) (hb:b<18446744073709551616) (hc:c<18446744073709551616) (hd:d<18446744073709551616) (h:qbr a b c d=N):
  wrd 3 N=a∧wrd 2 N=b∧wrd 1 N=c∧wrd 0 N=d:=by
 subst h;unfold qbr wrd
 simp only [Nat.reducePow]
 omega
theorem zb5 {a b N:Nat} (ha:a<18446744073709551616) (hb:b<18446744073709551616) (h:qbc a b=N):
  wrd 1 N=a∧wrd 0 N=b:=by
 subst h;unfold qbc wrd
 simp only [Nat.reducePow]
 omega
theorem qvv (k a b:Nat) (hb:b<2 ^ k):(2 ^ k * a)|||b=2 ^ k * a+b:=(Nat.two_pow_add_eq_or_of_lt hb a).symm
theorem pq (s:Nat) (hs:s<64):2 ^ s * 2 ^ (64 - s)=18446744073709551616:=by
 rw [←Nat.pow_add,show s+(64 - s)=64 by omega]
def qgz (N:Nat):Nat:=if N=0 then 0 else N.log2+1
theorem qiv (N k:Nat):qgz N≤k↔N<2 ^ k:=by
 unfold qgz
 split
 ·rename_i h;subst h;simp [Nat.pow_pos]
 ·rename_i h;rw [Nat.succ_le_iff];exact Nat.log2_lt h
theorem zul {N k:Nat} (h1:2 ^ k≤N) (h2:N<2 ^ (k+1)):qgz N=k+1:=by
 have a:=(qiv N (k+1)).2 h2
 have b:¬qgz N≤k:=fun h=>by have:=(qiv N k).1 h;omega
 omega
theorem zmq (N:Nat) (h:N≠0):2 ^ (qgz N - 1)≤N:=by
 rcases Nat.lt_or_ge N (2 ^ (qgz N - 1)) with h1 |h1
 ·have:=(qiv N (qgz N - 1)).2 h1
  have h0:qgz N≠0:=by unfold qgz;simp [h]
  omega
 ·exact h1
theorem zbe (N:Nat):N<2 ^ qgz N:=(qiv N _).1 (Nat.le_refl _)
theorem qs9 (N M t:Nat) (h:N≠0) (hM:M<2 ^ t):qgz (N * 2 ^ t+M)=t+qgz N:=by
 have h0:qgz N≠0:=by unfold qgz;simp [h]
 have h1:=zmq N h
 have h2:=zbe N
 have e:t+qgz N=(t+(qgz N - 1))+1:=by omega
 rw [e]
 refine zul ?_ ?_
 ·rw [Nat.add_comm t,Nat.pow_add]
  have:=Nat.mul_le_mul_right (2 ^ t) h1
  omega
 ·rw [show t+(qgz N - 1)+1=qgz N+t by omega,Nat.pow_add]
  have:=Nat.mul_le_mul_right (2 ^ t) (show N+1≤2 ^ qgz N from h2)
  rw [Nat.succ_mul] at this
  omega
theorem z8a (a b c d:Nat) (ha:a≠0) (hb:b<18446744073709551616) (hc:c<18446744073709551616) (hd:d<18446744073709551616):qgz (qbr a b c d)=192+qgz a:=by
 have e:qbr a b c d=a * 2 ^ 192+qbr 0 b c d:=by unfold qbr;simp only [Nat.reducePow];omega
 rw [e]
 exact qs9 _ _ _ ha (by unfold qbr;simp only [Nat.reducePow];omega)
theorem z5x (b c d:Nat) (hb:b≠0) (hc:c<18446744073709551616) (hd:d<18446744073709551616):qgz (qbr 0 b c d)=128+qgz b:=by
 have e:qbr 0 b c d=b * 2 ^ 128+qbr 0 0 c d:=by unfold qbr;simp only [Nat.reducePow];omega
 rw [e]
 exact qs9 _ _ _ hb (by unfold qbr;simp only [Nat.reducePow];omega)
theorem yf7 (c d:Nat) (hc:c≠0) (hd:d<18446744073709551616):qgz (qbr 0 0 c d)=64+qgz c:=by
 have e:qbr 0 0 c d=c * 2 ^ 64+d:=by unfold qbr;simp only [Nat.reducePow];omega
 rw [e]
 exact qs9 _ _ _ hc (by simp only [Nat.reducePow];omega)
theorem ycx (d:Nat):qgz (qbr 0 0 0 d)=qgz d:=by
 have e:qbr 0 0 0 d=d:=by unfold qbr;omega
 rw [e]
theorem qt4 (a b c d n:Nat) (hd:d<18446744073709551616) (hc:c<18446744073709551616) (hb:b<18446744073709551616):
  (n<64→d / 2 ^ n % 2=qbr a b c d / 2 ^ n % 2)∧(n<64→c / 2 ^ n % 2=qbr a b c d / 2 ^ (64+n) % 2)∧(n<64→b / 2 ^ n % 2=qbr a b c d / 2 ^ (128+n) % 2)∧(n<64→a / 2 ^ n % 2=qbr a b c d / 2 ^ (192+n) % 2):=by
 have low:∀(N m:Nat),m<64→(N % 18446744073709551616) / 2 ^ m % 2=N / 2 ^ m % 2:=by
  intro N m hm
  have e:=pq m hm
  rw [←e,Nat.mod_mul_right_div_self,show 64 - m=(63 - m)+1 by omega,Nat.pow_succ',Nat.mod_mul_right_mod]
 have e0:qbr a b c d % 18446744073709551616=d:=by unfold qbr;omega
 have e1:qbr a b c d / 2 ^ 64 % 18446744073709551616=c:=by unfold qbr;simp only [Nat.reducePow];omega
 have e2:qbr a b c d / 2 ^ 128 % 18446744073709551616=b:=by unfold qbr;simp only [Nat.reducePow];omega
 have e3:qbr a b c d / 2 ^ 192=a:=by unfold qbr;simp only [Nat.reducePow];omega
 refine ⟨fun h=> ?_,fun h=> ?_,fun h=> ?_,fun h=> ?_⟩
 ·have z:=low (qbr a b c d) n h
  rw [e0] at z
  exact z
 ·have z:=low (qbr a b c d / 2 ^ 64) n h
  rw [e1,Nat.div_div_eq_div_mul,←Nat.pow_add] at z
  exact z
 ·have z:=low (qbr a b c d / 2 ^ 128) n h
  rw [e2,Nat.div_div_eq_div_mul,←Nat.pow_add] at z
  exact z
 ·rw [Nat.pow_add,←Nat.div_div_eq_div_mul,e3]
end Go.Proofs.YtilkebpcjklmfaaGreat.Plain
namespace Go.Proofs
open Go.Shelf
set_option maxRecDepth 100000
set_option maxHeartbeats 40000000
def Tryz.lays129_ren:Go.Shelf.Ren:=⟨fun |129=>134 |n=>n,fun |53=>24 |3=>3 |4=>4 |46=>85 |5=>5 |9=>9 |n=>n,fun |n=>n⟩
theorem Tryz.lays129:Go.Proofs.Lays.n129 Tryz.prog Tryz.lays129_ren:={
 mixed:=by kernel_rfl
 f129:=Tryz.func134.trans (congrArg some (by kernel_rfl))
 t3:=Tryz.underlying3
 a3:=Tryz.isAgg3
 z3:=Tryz.sizeOf3
 v3:=Tryz.zeroValue3
 t4:=Tryz.underlying4
 a4:=Tryz.isAgg4
 z4:=Tryz.sizeOf4
 v4:=Tryz.zeroValue4
 t5:=Tryz.underlying5
 a5:=Tryz.isAgg5
 z5:=Tryz.sizeOf5
 v5:=Tryz.zeroValue5
 t9:=Tryz.underlying9
 a9:=Tryz.isAgg9
 z9:=Tryz.sizeOf9
 v9:=Tryz.zeroValue9
 t46:=Tryz.underlying85
 a46:=Tryz.isAgg85
 z46:=Tryz.sizeOf85
 v46:=Tryz.zeroValue85
 t53:=Tryz.underlying24
 a53:=Tryz.isAgg24
 z53:=Tryz.sizeOf24
 v53:=Tryz.zeroValue24}
theorem Tryz.bits_Len64 (x:Int) (w:World) (h0:0≤x) (h1:x≤18446744073709551615):
  Calls Tryz.prog 134 #[.int .u64 x] w fun e w'=>e= .returned (.int .i64 (Lib.bitLen x.toNat))∧w'=w:=Any.bits_Len64 Tryz.lays129 x w h0 h1
end Go.Proofs
namespace Go.Proofs.YtilkebpcjklmfaaGreat.Limb
open Go.RowKit Go.Proofs.YtilkebpcjklmfaaGreat.Plain
set_option maxRecDepth 100000
set_option maxHeartbeats 40000000
def Wd (x:Int):Prop:=0≤x∧x<18446744073709551616
instance (x:Int):Decidable (Wd x):=by unfold Wd;infer_instance
theorem Wd.nat {x:Int} (h:Wd x):∃n:Nat,x=(n:Int)∧n<18446744073709551616:=by
 unfold Wd at h
 exact ⟨x.toNat,by omega,by omega⟩
theorem Wd.mk {n:Nat} (h:n<18446744073709551616):Wd (n:Int):=by unfold Wd;omega
def e4 (N:Nat):Int×Int×Int×Int:=((wrd 3 N:Nat),(wrd 2 N:Nat),(wrd 1 N:Nat),(wrd 0 N:Nat))
def e2 (N:Nat):Int×Int:=((wrd 1 N:Nat),(wrd 0 N:Nat))
def n4 (a b c d:Int):Nat:=qbr a.toNat b.toNat c.toNat d.toNat
def n2 (a b:Int):Nat:=qbc a.toNat b.toNat
theorem add64_run (x y c:Int) (hx:0≤x) (hy:0≤y) (hc0:0≤c) (hc:c≤1) (w:World):
  (callFunc 127 #[.int .u64 x,.int .u64 y,.int .u64 c]).run Tryz.prog w= .ok (.value (.tuple #[.int .u64 ((x+y+c) % 18446744073709551616),.int .u64 ((x+y+c) / 18446744073709551616)])) w:=by
 rw [run_callFunc_extern Tryz.func127 (by kernel_rfl) (by kernel_rfl) (by kernel_rfl) (e:=add64Entry) (by kernel_rfl),run_add64 x y c hx hy hc0 hc]
 rfl
theorem sub64_run (x y b:Nat) (hb:b≤1) (w:World):
  (callFunc 129 #[.int .u64 x,.int .u64 y,.int .u64 b]).run Tryz.prog w= .ok (.value (.tuple #[.int .u64 (((x+18446744073709551616 - y - b) % 18446744073709551616:Nat):Int),.int .u64 ((if x<y+b then 1 else 0:Nat):Int)])) w:=by
 rw [run_callFunc_extern Tryz.func129 (by kernel_rfl) (by kernel_rfl) (by kernel_rfl) (e:=Go.Proofs.sub64Entry) (by kernel_rfl),Go.Proofs.run_sub64 x y b hb]
 rfl
theorem zoy (x y c:Int) (hx:0≤x) (hy:0≤y) (hc0:0≤c) (hc:c≤1):∃s d,(x+y+c) % 18446744073709551616=s∧(x+y+c) / 18446744073709551616=d∧∀w,(callFunc 127 #[.int .u64 x,.int .u64 y,.int .u64 c]).run Tryz.prog w= .ok (.value (.tuple #[.int .u64 s,.int .u64 d])) w:=
 ⟨_,_,rfl,rfl,add64_run x y c hx hy hc0 hc⟩
theorem q8j (x y b:Nat) (hb:b≤1):∃s d:Nat,(x+18446744073709551616 - y - b) % 18446744073709551616=s∧(if x<y+b then 1 else 0)=d∧d≤1∧∀w,(callFunc 129 #[.int .u64 x,.int .u64 y,.int .u64 b]).run Tryz.prog w= .ok (.value (.tuple #[.int .u64 (s:Int),.int .u64 (d:Int)])) w:=
 ⟨_,_,rfl,rfl,by split<;>decide,sub64_run x y b hb⟩
def limb_Add.f (a0_0 a0_1 a1_0 a1_1:Int):Option (Int×Int×Bool):=
 if Wd a0_0∧Wd a0_1∧Wd a1_0∧Wd a1_1 then some ((e2 (n2 a0_0 a0_1+n2 a1_0 a1_1)).1,(e2 (n2 a0_0 a0_1+n2 a1_0 a1_1)).2,decide (340282366920938463463374607431768211456≤n2 a0_0 a0_1+n2 a1_0 a1_1)) else none
theorem q8i (a b c d:Nat) (ha:a<18446744073709551616) (hb:b<18446744073709551616) (hc:c<18446744073709551616) (hd:d<18446744073709551616) (s u s2 u2:Int)
  (hs:((b:Int)+d+0) % 18446744073709551616=s) (hu:((b:Int)+d+0) / 18446744073709551616=u) (hs2:((a:Int)+c+u) % 18446744073709551616=s2) (hu2:((a:Int)+c+u) / 18446744073709551616=u2):
  s2=((wrd 1 (qbc a b+qbc c d):Nat):Int)∧s=((wrd 0 (qbc a b+qbc c d):Nat):Int)∧decide (u2>0)=decide (340282366920938463463374607431768211456≤qbc a b+qbc c d):=by
 subst hs hu hs2 hu2
 unfold qbc wrd
 simp only [Nat.reducePow]
 refine ⟨by omega,by omega,?_⟩
 rw [decide_eq_decide]
 omega
theorem limb_Add.calls (a0_0 a0_1 a1_0 a1_1:Int) (r1 r2:Int) (r3:Bool) (w:World) (h:limb_Add.f a0_0 a0_1 a1_0 a1_1=some (r1,r2,r3)):
  Calls Tryz.prog 116 #[.agg #[.int .u64 a0_0,.int .u64 a0_1],.agg #[.int .u64 a1_0,.int .u64 a1_1]] w fun e w'=>e= .returned (.tuple #[.agg #[.int .u64 r1,.int .u64 r2],.bool r3])∧Below w.heap.size w w':=by
 unfold limb_Add.f at h
 split at h
 ·rename_i hb
  obtain ⟨b1,b2,b3,b4⟩:=hb
  obtain ⟨a,rfl,la⟩:=b1.nat
  obtain ⟨b,rfl,lb⟩:=b2.nat
  obtain ⟨c,rfl,lc⟩:=b3.nat
  obtain ⟨d,rfl,ld⟩:=b4.nat
  obtain ⟨s,u,hs,hu,hr⟩:=zoy b d 0 (by omega) (by omega) (by decide) (by decide)
  obtain ⟨s2,u2,hs2,hu2,hr2⟩:=zoy a c u (by omega) (by omega) (by omega) (by omega)
  obtain ⟨z1,z2,z3⟩:=q8i a b c d la lb lc ld s u s2 u2 hs hu hs2 hu2
  simp only [n2,e2,Int.toNat_natCast,←z1,←z2,←z3,Option.some.injEq,Prod.mk.injEq] at h
  obtain ⟨rfl,rfl,rfl⟩:=h
  have Z:=Go.Lib.hid z3
  clear z1 z2 z3 hs hu hs2 hu2 la lb lc ld b1 b2 b3 b4
  have hu171:=Tryz.underlying171
  go_enter Tryz.func116,Tryz.ntmps116
  go_wp2
  refine bodyPost_ret (v:= .tuple #[.agg #[.int .u64 s2,.int .u64 s],.bool (decide (u2>0))]) (by simp [results,Tryz.results116,go_sem]) rfl ⟨by rw [Z.out];congr,?_⟩
  go_grown
 ·exact absurd h (by simp)
def limb_Sub.f (a0_0 a0_1 a1_0 a1_1:Int):Option (Int×Int×Bool):=
 if Wd a0_0∧Wd a0_1∧Wd a1_0∧Wd a1_1 then some ((e2 (n2 a0_0 a0_1+340282366920938463463374607431768211456 - n2 a1_0 a1_1)).1,(e2 (n2 a0_0 a0_1+340282366920938463463374607431768211456 - n2 a1_0 a1_1)).2,decide (n2 a0_0 a0_1<n2 a1_0 a1_1)) else none
theorem q8t (a b c d:Nat) (ha:a<18446744073709551616) (hb:b<18446744073709551616) (hc:c<18446744073709551616) (hd:d<18446744073709551616) (s u s2 u2:Nat)
  (hs:(b+18446744073709551616 - d - 0) % 18446744073709551616=s) (hu:(if b<d+0 then 1 else 0)=u) (hs2:(a+18446744073709551616 - c - u) % 18446744073709551616=s2) (hu2:(if a<c+u then 1 else 0)=u2):
  s2=wrd 1 (qbc a b+340282366920938463463374607431768211456 - qbc c d)∧s=wrd 0 (qbc a b+340282366920938463463374607431768211456 - qbc c d)∧decide ((u2:Int)>0)=decide (qbc a b<qbc c d):=by
 unfold qbc wrd
 simp only [Nat.reducePow]
 refine ⟨?_,?_,?_⟩
 ·split at hu<;>omega
 ·split at hu<;>omega
 ·rw [decide_eq_decide]
  split at hu<;>split at hu2<;>omega
theorem limb_Sub.calls (a0_0 a0_1 a1_0 a1_1:Int) (r1 r2:Int) (r3:Bool) (w:World) (h:limb_Sub.f a0_0 a0_1 a1_0 a1_1=some (r1,r2,r3)):
  Calls Tryz.prog 119 #[.agg #[.int .u64 a0_0,.int .u64 a0_1],.agg #[.int .u64 a1_0,.int .u64 a1_1]] w fun e w'=>e= .returned (.tuple #[.agg #[.int .u64 r1,.int .u64 r2],.bool r3])∧Below w.heap.size w w':=by
 unfold limb_Sub.f at h
 split at h
 ·rename_i hb
  obtain ⟨b1,b2,b3,b4⟩:=hb
  obtain ⟨a,rfl,la⟩:=b1.nat
  obtain ⟨b,rfl,lb⟩:=b2.nat
  obtain ⟨c,rfl,lc⟩:=b3.nat
  obtain ⟨d,rfl,ld⟩:=b4.nat
  obtain ⟨s,u,hs,hu,lu,hr0⟩:=q8j b d 0 (by decide)
  obtain ⟨s2,u2,hs2,hu2,lu2,hr2⟩:=q8j a c u lu
  have hr:∀w,(callFunc 129 #[.int .u64 (b:Int),.int .u64 (d:Int),.int .u64 0]).run Tryz.prog w= .ok (.value (.tuple #[.int .u64 (s:Int),.int .u64 (u:Int)])) w:=hr0
  clear hr0
  obtain ⟨z1,z2,z3⟩:=q8t a b c d la lb lc ld s u s2 u2 hs hu hs2 hu2
  simp only [n2,e2,Int.toNat_natCast,←z1,←z2,←z3,Option.some.injEq,Prod.mk.injEq] at h
  obtain ⟨rfl,rfl,rfl⟩:=h
  have Z:=Go.Lib.hid z3
  clear z1 z2 z3 hs hu hs2 hu2 la lb lc ld b1 b2 b3 b4 lu lu2
  have hu171:=Tryz.underlying171
  go_enter Tryz.func119,Tryz.ntmps119
  go_wp2
  refine bodyPost_ret (v:= .tuple #[.agg #[.int .u64 (s2:Int),.int .u64 (s:Int)],.bool (decide ((u2:Int)>0))]) (by simp [results,Tryz.results119,go_sem]) rfl ⟨by rw [Z.out];congr,?_⟩
  go_grown
 ·exact absurd h (by simp)
theorem limb_four.calls0 (x0 x1 x2 x3:Int) (w:World):
  Calls Tryz.prog 141 #[.agg #[.int .u64 x0,.int .u64 x1,.int .u64 x2,.int .u64 x3]] w fun e w'=>e= .returned (.agg #[.int .u64 x3,.int .u64 x2,.int .u64 x1,.int .u64 x0])∧Below w.heap.size w w':=by
 have hu171:=Tryz.underlying171
 have hu178:=Tryz.underlying178
 have hu201:=Tryz.underlying201
 go_enter Tryz.func141,Tryz.ntmps141
 go_wp2
 refine bodyPost_ret (v:= .agg #[.int .u64 x3,.int .u64 x2,.int .u64 x1,.int .u64 x0]) (by simp [results,Tryz.results141,go_sem]) rfl ⟨rfl,?_⟩
 go_grown
theorem limb_list.calls0 (x0 x1 x2 x3:Int) (w:World):
  Calls Tryz.prog 139 #[.agg #[.int .u64 x3,.int .u64 x2,.int .u64 x1,.int .u64 x0]] w fun e w'=>e= .returned (.agg #[.int .u64 x0,.int .u64 x1,.int .u64 x2,.int .u64 x3])∧Below w.heap.size w w':=by
 have hu171:=Tryz.underlying171
 have hu178:=Tryz.underlying178
 have hu201:=Tryz.underlying201
 go_enter Tryz.func139,Tryz.ntmps139
 go_wp2
 refine bodyPost_ret (v:= .agg #[.int .u64 x0,.int .u64 x1,.int .u64 x2,.int .u64 x3]) (by simp [results,Tryz.results139,go_sem]) rfl ⟨rfl,?_⟩
 go_grown
end Go.Proofs.YtilkebpcjklmfaaGreat.Limb
namespace Go.Proofs.YtilkebpcjklmfaaGreat.Bd
open Go Go.RowKit Go.Proofs
set_option maxRecDepth 100000
set_option maxHeartbeats 40000000
theorem zc_ (b:Nat) (w:World) (h0:w.cell? ⟨b,0,none⟩=some (.pointer (some ⟨b,0,none⟩))):
  Calls Tryz.prog 87 #[.pointer (some ⟨b,0,none⟩)] w fun e w'=>e= .returned (.tuple #[])∧w'=w:=by
 obtain ⟨j,hj⟩:∃j,Tryz.prog.info? 64=some j:=⟨_,rfl⟩
 go_enter Tryz.func87,Tryz.ntmps87
 go_wp2
 rw [Lib.run_neq_ptr_same w _ (Tryz.underlying62) hj]
 go_wp2
 go_end0
 exact ⟨rfl,rfl⟩
theorem qqe (b:Nat) (w:World) (h0:w.cell? ⟨b,0,none⟩=some (.pointer none)) (hsh:w.shape? b=some (66,5)) (hfz:w.frozen? ⟨b,0,none⟩=false):
  Calls Tryz.prog 87 #[.pointer (some ⟨b,0,none⟩)] w fun e w'=>e= .returned (.tuple #[])∧w'=w.setCell ⟨b,0,none⟩ (.pointer (some ⟨b,0,none⟩)):=by
 obtain ⟨j,hj,hjs⟩:∃j,Tryz.prog.info? 64=some j∧j.size≠0:=⟨_,rfl,by decide⟩
 go_enter Tryz.func87,Tryz.ntmps87
 go_wp2
 rw [Lib.run_to_unsafe w ⟨b,0,none⟩ Tryz.underlying62 Tryz.underlying166 hj hjs hsh (Nat.zero_lt_succ 4)]
 simp only [Result.andThen]
 rw [Oper.upon_value]
 go_wp2
 rw [run_callFunc_extern Tryz.func107 (by kernel_rfl) (by kernel_rfl) (by kernel_rfl) (e:=Extern.AbiNoEscape.same) (by kernel_rfl)]
 rw [Lib.run_noEscape]
 simp only [Result.andThen]
 rw [Oper.upon_value]
 go_wp2
 rw [Lib.run_from_unsafe w ⟨b,0,none⟩ Tryz.underlying166 Tryz.underlying62 hj hsh (by kernel_rfl)]
 simp only [Result.andThen]
 rw [Oper.upon_value]
 go_wp2
 go_end0
 exact ⟨rfl,rfl⟩
theorem qux {b j:Nat} {cs:Array Value} {T:TypeId} {w:World} (v:Value) (hbk:w.heap[b]? =some (.cells cs T (0,0))):(w.setCell ⟨b,j,none⟩ v).heap[b]? =some (.cells (cs.setIfInBounds j v) T (0,0)):=by
 simp [World.setCell,Array.getElem?_modify,hbk]
theorem zgp (b:Nat) (s:ByteArray) (i g d:Value) (w:World) (hbk:w.heap[b]? =some (.cells #[.pointer none,.slice none 0 0,i,g,d] 66 (0,0))) (hlen:s.size≤1000000):
  Calls Tryz.prog 51 #[.pointer (some ⟨b,0,none⟩),.string s] w fun e w'=>e= .returned (.tuple #[.int .i64 s.size,.nilIface])∧
   ∃v' w2,w2.ownsRow w.heap.size 5 1 v' s.size (Lib.strCells s)∧(w.setCell ⟨b,0,none⟩ (.pointer (some ⟨b,0,none⟩))).grownBy w2 none∧(v'= .slice none 0 0↔s.size=0)∧w'=w2.setCell ⟨b,1,none⟩ v':=by
 have h0:w.cell? ⟨b,0,none⟩=some (.pointer none):=by rw [Lib.cell_of_heap hbk];rfl
 have hsh:w.shape? b=some (66,5):=by simp [World.shape?,hbk]
 have hfz:w.frozen? ⟨b,0,none⟩=false:=Lib.frozen_of_heap hbk 0
 have hlt:b<w.heap.size:=by
  rcases Nat.lt_or_ge b w.heap.size with h' |h'
  ·exact h'
  ·simp [Array.getElem?_eq_none h'] at hbk
 obtain ⟨i0,hi,hz0,hz1,hz2⟩:∃i0,Tryz.prog.info? 5=some i0∧i0.zero=some (.int .u8 0)∧i0.size=1∧i0.bytes=1:=⟨_,rfl,rfl,rfl,rfl⟩
 go_enter Tryz.func51,Tryz.ntmps51
 go_wp2_with (go_at_call 87;refine (qqe b _ h0 hsh hfz).mono ?_)
 rintro e w1 ⟨rfl,rfl⟩
 have hb1:(w.setCell ⟨b,0,none⟩ (.pointer (some ⟨b,0,none⟩))).heap[b]? =some (.cells #[.pointer (some ⟨b,0,none⟩),.slice none 0 0,i,g,d] 66 (0,0)):=by
  rw [qux _ hbk];rfl
 have hs1:(w.setCell ⟨b,0,none⟩ (.pointer (some ⟨b,0,none⟩))).heap.size=w.heap.size:=by simp [World.setCell]
 generalize hw1:w.setCell ⟨b,0,none⟩ (.pointer (some ⟨b,0,none⟩))=w1 at hb1 hs1 ⊢
 have c0:w1.cell? ⟨b,0,none⟩=some (.pointer (some ⟨b,0,none⟩)):=by rw [Lib.cell_of_heap hb1];rfl
 have c1:w1.cell? ⟨b,1,none⟩=some (.slice none 0 0):=by rw [Lib.cell_of_heap hb1];rfl
 go_wp2_with (at_builtin;refine Lib.wpList_append_own_string _ rfl _ _ 22 9 rfl w.heap.size 5 i0 Tryz.underlying22 Tryz.underlying9 hi hz0 hz1 hz2 _ _ _ rfl (World.ownsRow_nil _ _ _ _) s rfl ?c3 ?c4 ?c5 ?_)
 case c3=>unfold maxLen;omega
 case c4=>omega
 case c5=>omega
 intro v' w2 hown' hgrow zze
 have hb2:w2.heap[b]? =some (.cells #[.pointer (some ⟨b,0,none⟩),.slice none 0 0,i,g,d] 66 (0,0)):=by
  rw [hgrow.block b (by omega) (by simp [Value.ownBlock])]
  exact hb1
 have d0:w2.cell? ⟨b,0,none⟩=some (.pointer (some ⟨b,0,none⟩)):=by rw [Lib.cell_of_heap hb2];rfl
 have d1:w2.cell? ⟨b,1,none⟩=some (.slice none 0 0):=by rw [Lib.cell_of_heap hb2];rfl
 have f1:w2.frozen? ⟨b,1,none⟩=false:=Lib.frozen_of_heap hb2 1
 have hnil':v'= .slice none 0 0↔s.size=0:=by simpa using zze
 obtain ⟨ao,n',cap,rfl⟩:∃ao n' cap,v'= .slice ao n' cap:=by
  rcases hown'.2 with ⟨hv,_⟩ |⟨g,cap,cur,hv,_⟩
  ·exact ⟨_,_,_,hv⟩
  ·exact ⟨_,_,_,hv⟩
 go_wp2
 go_ret2
 exact ⟨rfl,_,w2,hown',by rw [hw1];exact hgrow,hnil',rfl⟩
theorem zgs {w:World} {g n k:Nat} (h:k≠g):(w.drew.freeze ⟨g,0,none⟩ n).heap[k]? =w.heap[k]? :=by
 simp only [World.freeze,World.drew]
 first
  |(split<;>simp_all [Array.getElem?_modify,Ne.symm h];done)
  |(simp [Array.getElem?_modify,Ne.symm h];done)
theorem q62 (b g cap:Nat) (p:Value) (i gt d:Value) (l:List UInt8) (cur:Array Value) (w:World) (h0:l≠[]) (hbk:w.heap[b]? =some (.cells #[p,.slice (some ⟨g,0,none⟩) l.length cap,i,gt,d] 66 (0,0)))
  (hg:w.heap[g]? =some (.cells cur 5 (0,0))) (hnc:l.length≤cap) (hcm:cap≤maxLen) (hcs:cur.size=cap) (htake:cur.toList.take l.length=Lib.byteCells l):
  Calls Tryz.prog 52 #[.pointer (some ⟨b,0,none⟩)] w fun e w'=>e= .returned (.string ⟨l.toArray⟩)∧w'=w.drew.freeze ⟨g,0,none⟩ l.length:=by
 have hl0:l.length≠0:=by simpa using h0
 have c1:w.drew.cell? ⟨b,1,none⟩=some (.slice (some ⟨g,0,none⟩) l.length cap):=by
  have:w.drew.heap[b]? =some (.cells #[p,.slice (some ⟨g,0,none⟩) l.length cap,i,gt,d] 66 (0,0)):=hbk
  rw [Lib.cell_of_heap this];rfl
 have hSD:(Builtin.unsafeSliceData_ #[22] 144 #[.slice (some ⟨g,0,none⟩) l.length cap]).run Tryz.prog w.drew= .ok (.pointer (some ⟨g,0,none⟩)) w.drew:=
  Lib.run_unsafeSliceData_row _ _ _ _ _ _ (by omega)
 have hUS:(Builtin.unsafeString_ #[144,3] 9 #[.pointer (some ⟨g,0,none⟩),.int .i64 l.length]).run Tryz.prog w.drew= .ok (.string ⟨l.toArray⟩) (w.drew.freeze ⟨g,0,none⟩ l.length):=by
  refine Lib.run_unsafeString_row w.drew 144 3 9 5 Tryz.underlying144 (by kernel_rfl) g cur.size (by have hg':w.drew.heap[g]? =some (.cells cur 5 (0,0)):=hg;simp [World.shape?,hg']) l h0 (by omega) (by unfold maxLen at hcm;omega) ?_
  intro j x hx
  have hg':w.drew.heap[g]? =some (.cells cur 5 (0,0)):=hg
  have h1:(Lib.byteCells l)[j]? =some (.int .u8 x.toNat):=by simp [Lib.byteCells,hx]
  rw [←htake] at h1
  have h2:cur.toList[j]? =some (.int .u8 x.toNat):=by
   rw [List.getElem?_take] at h1
   split at h1
   ·exact h1
   ·cases h1
  have ha:(⟨g,0,none⟩:Addr).add j=⟨g,j,none⟩:=by simp only [Addr.add];split<;>simp_all
  rw [ha,Lib.cell_of_heap hg',←Array.getElem?_toList];exact h2
 have mixed:Tryz.prog.follows .mixedOrders=true:=by kernel_rfl
 go_enter Tryz.func52,Tryz.ntmps52
 go_wp2
 go_region
 all_goals (go_wp2;go_ret;exact ⟨rfl,rfl⟩)
end Go.Proofs.YtilkebpcjklmfaaGreat.Bd
