/- Both May: the answers on numbers are alike. Both May: rails. A world made: bodies by numbers may be. A world made: rails and tethers that may be. Both May: rails are one. A world turned: what is known of a body that is not as it was. A world made: loops that find nothing. A world made: the document's loops that find nothing. A world made: what is known. Both May: loops that look for what may not be; bodies and places. Both May: tethers. Both May: events. Both May are one. -/
import Derived.Test.YtilkebpcjklmfaaGreatWmD
set_option linter.unusedVariables false
set_option linter.unusedSimpArgs false
set_option linter.unusedSectionVars false
namespace Go.Proofs.YtilkebpcjklmfaaGreat.Own
open Go Go.RowKit Go.Proofs Go.Proofs.YtilkebpcjklmfaaGreat.Plain
set_option maxRecDepth 100000
set_option maxHeartbeats 40000000
theorem my74:FT qd_ 74=FT qgc 74:=qbt 72 (by kernel_rfl) (by kernel_rfl)
theorem my49:FT qd_ 49=FT qem 49:=qbt 71 (by kernel_rfl) (by kernel_rfl)
theorem my75:FT qd_ 75=FT qfs 75:=qbt 70 (by kernel_rfl) (by kernel_rfl)
theorem my18:FT qbs 18=FT qf4 18:=qbt 32 (by kernel_rfl) (by kernel_rfl)
theorem my17:FT qbs 17=FT qdt 17:=qbt 36 (by kernel_rfl) (by kernel_rfl)
theorem my19:FT qbs 19=FT qej 19:=qbt 31 (by kernel_rfl) (by kernel_rfl)
section
variable {F:Nat→List Int→List Int} {ys:List Int}
theorem q5y {j:Nat}:(SE.ivar .i64 j).val (qaa F ys)=IntKind.i64.wrap (ys.getD j 0):=by simp only [SE.val];rfl
theorem zom {j:Nat}:(SE.ivar .u64 j).val (qaa F ys)=IntKind.u64.wrap (ys.getD j 0):=by simp only [SE.val];rfl
theorem z4b {n:Int} (h:0≤n∧n≤1152921504606846976):(SE.lit .i64 n).val (qaa F ys)=n:=by rw [qai,IntKind.wrap_i64];omega
end
section
variable {ys:List Int}
theorem qi7 (i j:Nat) {n:Int} (h:0≤n∧n≤1152921504606846976):((SE.app 74 0 none (.cons (.ivar .i64 i) (.cons (.ivar .u64 j) (.cons (.lit .i64 n) .nil)))).val (qaa (FT qd_) ys) !=0)=inF (IntKind.i64.wrap (ys.getD i 0)) (IntKind.u64.wrap (ys.getD j 0)) 0 (nn n 0):=
 qk2 (by rw [my74,qab,qab,qab,qad,q5y,zom,z4b h];exact zpv (qaq _ _) (qaq _ _) h)
theorem qi6 (i j:Nat) {n:Int} (h:0≤n∧n≤1152921504606846976):((SE.app 18 0 none (.cons (.ivar .i64 i) (.cons (.ivar .u64 j) (.cons (.lit .i64 n) .nil)))).val (qaa (FT qbs) ys) !=0)=inF (IntKind.i64.wrap (ys.getD i 0)) (IntKind.u64.wrap (ys.getD j 0)) 0 (nn n 0):=
 qk2 (by rw [my18,qab,qab,qab,qad,q5y,zom,z4b h];exact f54 (qaq _ _) (qaq _ _) h)
theorem qqp (i:Nat) {n:Int} (h:0≤n∧n≤1152921504606846976):((SE.app 49 0 none (.cons (.ivar .i64 i) (.cons (.lit .i64 0) (.cons (.lit .i64 n) .nil)))).val (qaa (FT qd_) ys) !=0)=(decide (0≤IntKind.i64.wrap (ys.getD i 0))&&decide (IntKind.i64.wrap (ys.getD i 0)≤n)):=
 qk2 (by rw [my49,qab,qab,qab,qad,q5y,z4b (n:=0) (by omega),z4b h];exact zhz (qaq _ _) rfl (by show IntKind.i64.wrap n=n;rw [IntKind.wrap_i64];omega))
theorem qqx (i:Nat) {n:Int} (h:0≤n∧n≤1152921504606846976):((SE.app 17 0 none (.cons (.ivar .i64 i) (.cons (.lit .i64 0) (.cons (.lit .i64 n) .nil)))).val (qaa (FT qbs) ys) !=0)=(decide (0≤IntKind.i64.wrap (ys.getD i 0))&&decide (IntKind.i64.wrap (ys.getD i 0)≤n)):=
 qk2 (by rw [my17,qab,qab,qab,qad,q5y,z4b (n:=0) (by omega),z4b h];exact f53 (qaq _ _) rfl (by show IntKind.i64.wrap n=n;rw [IntKind.wrap_i64];omega))
theorem zn2 (i j k l:Nat):((SE.app 75 0 none (.cons (.ivar .i64 i) (.cons (.ivar .u64 j) (.cons (.ivar .i64 k) (.cons (.ivar .u64 l) .nil))))).val (qaa (FT qd_) ys) !=0)=(qik (IntKind.i64.wrap (ys.getD i 0)) (IntKind.u64.wrap (ys.getD j 0))&&qik (IntKind.i64.wrap (ys.getD k 0)) (IntKind.u64.wrap (ys.getD l 0))):=
 qk2 (by rw [my75,qab,qab,qab,qab,qad,q5y,zom,q5y,zom];exact f76 (qaq _ _) (qaq _ _) (qaq _ _) (qaq _ _))
theorem zok (i j k l:Nat):((SE.app 19 0 none (.cons (.ivar .i64 i) (.cons (.ivar .u64 j) (.cons (.ivar .i64 k) (.cons (.ivar .u64 l) .nil))))).val (qaa (FT qbs) ys) !=0)=(qik (IntKind.i64.wrap (ys.getD i 0)) (IntKind.u64.wrap (ys.getD j 0))&&qik (IntKind.i64.wrap (ys.getD k 0)) (IntKind.u64.wrap (ys.getD l 0))):=
 qk2 (by rw [my19,qab,qab,qab,qab,qad,q5y,zom,q5y,zom];exact f55 (qaq _ _) (qaq _ _) (qaq _ _) (qaq _ _))
end
def rlA (l c:Nat):SE:= .cons (.el (some .i64) (.lvar l) (.ivar .i64 c) 0) (.cons (.el (some .i64) (.lvar l) (.ivar .i64 c) 1) (.cons (.el (some .u64) (.lvar l) (.ivar .i64 c) 2) (.cons (.el (some .i64) (.lvar l) (.ivar .i64 c) 3) (.cons (.el (some .u64) (.lvar l) (.ivar .i64 c) 4) (.cons (.el (some .i64) (.lvar l) (.ivar .i64 c) 5) (.cons (.el (some .i64) (.lvar l) (.ivar .i64 c) 6) (.cons (.el (some .i64) (.lvar l) (.ivar .i64 c) 7) (.cons (.el (some .i64) (.lvar l) (.ivar .i64 c) 8) (.cons (.el (some .u64) (.lvar l) (.ivar .i64 c) 9) (.cons (.ivar .i64 c) .nil))))))))))
noncomputable def rlR (a:Int) (i:Nat):List Int:=(rlA 0 1).vals (qaa (fun _ _=>[]) [a,(i:Int)])
theorem rlA_v {F:Nat→List Int→List Int} {ys:List Int} {l c:Nat} {a:Int} {i:Nat} (h0:ys.getD l 0=a) (h1:ys.getD c 0=(i:Int)):(rlA l c).vals (qaa F ys)=rlR a i:=by
 have e0:(qaa F ys).iv l=a:=h0
 have e1:(qaa F ys).iv c=(i:Int):=h1
 have e2:(qaa (fun _ _=>[]) [a,(i:Int)]).iv 0=a:=rfl
 have e3:(qaa (fun _ _=>[]) [a,(i:Int)]).iv 1=(i:Int):=rfl
 unfold rlR rlA
 simp only [SE.vals,SE.val,e0,e1,e2,e3]
noncomputable def qkw (F:Nat→List Int→List Int) (f:Nat) (a:Int) (i:Nat):Bool:= !((F f (rlR a i)).getD 0 0 !=0)
theorem rl_q {F:Nat→List Int→List Int} {ys:List Int} {f l c:Nat} {a:Int} {i:Nat} (h0:ys.getD l 0=a) (h1:ys.getD c 0=(i:Int)):((SE.not (.app f 0 none (rlA l c))).val (qaa F ys) !=0)=qkw F f a i:=by
 rw [qec,qgk,rlA_v h0 h1]
 unfold qkw
 show (!(b2i _ !=0))=_
 rw [qas]
theorem q9d (F:Nat→List Int→List Int) (a:Int) (hn:(dec a).length≤1000000):(mrG F [a]).getD 0 0=(((if (List.range (dec a).length).any (qkw F 40 a) then 0 else 1):Nat):Int):=by
 refine zew (J:=fun i ys=>ys.getD 0 0=a∧ys.getD 1 0=(i:Int)) (fun i ys hi hj=> ?_) (show mrU [a]=(dec a).length+1 from rfl) ⟨lvar_at,by show (SE.lit .i64 0).val (qaa F [a])=_;rw [qai];rfl⟩
 obtain ⟨h0,h1⟩:=hj
 have hg:((SE.cmp .lss (.ivar .i64 1) (.len (.lvar 0))).val (qaa F ys) !=0)=decide (i<(dec a).length):=qdx (qez h1 (by omega)) (qby (by rw [h0]) (by unfold maxLen;omega))
 have hq:=rl_q (F:=F) (f:=40) h0 h1
 have key:mrT.get (qaa F ys)=bif decide (i<(dec a).length) then (bif qkw F 40 a i then (some 0,[]) else (none,[(SE.lvar 0).val (qaa F ys),(SE.bin .add .i64 (.ivar .i64 1) (.lit .i64 1)).val (qaa F ys)])) else (some 1,[(SE.lvar 0).val (qaa F ys)]):=by
  rw [←hg,←hq];rfl
 rw [key]
 by_cases q:i<(dec a).length
 ·rw [decide_eq_true q,cond_true]
  cases hb:qkw F 40 a i with
  |true=>
   refine ⟨fun zs hz=>(by cases hz),fun e zs hz=> .inl ⟨q,rfl,?_⟩⟩
   cases hz;rfl
  |false=>
   refine ⟨fun zs hz=> ?_,fun e zs hz=>(by cases hz)⟩
   cases hz
   exact ⟨q,rfl,(show (SE.lvar 0).val (qaa F ys)=a from (show (SE.lvar 0).val (qaa F ys)=ys.getD 0 0 from lvar_at).trans h0),qcu (k:=1) h1 (by omega)⟩
 ·rw [decide_eq_false q,cond_false]
  refine ⟨fun zs hz=>(by cases hz),fun e zs hz=> .inr ⟨by omega,?_⟩⟩
  cases hz;rfl
def q3N:List SE:=[(.ivar .i64 0),(.ivar .i64 1),(.ivar .u64 2),(.ivar .i64 3),(.ivar .u64 4),(.ivar .i64 5),(.ivar .u64 6),(.ivar .i64 7),(.ivar .u64 8),(.ivar .i64 9),(.ivar .u64 10),(.ivar .i64 11),(.ivar .i64 12),(.lvar 13),(.lvar 14),(.lvar 15),(.lvar 16),(.ivar .i64 17),(.ivar .u64 18),(.ivar .i64 19),(.ivar .u64 20),(.ivar .i64 21),(.ivar .u64 22),(.lvar 23),(.bin .add .i64 (.ivar .i64 24) (.lit .i64 1))]
def q3Z:List SE:=[]
def q3Y:List SE:=[(.ivar .i64 0),(.ivar .i64 1),(.ivar .u64 2),(.ivar .i64 3),(.ivar .u64 4),(.ivar .i64 5),(.ivar .u64 6),(.ivar .i64 7),(.ivar .u64 8),(.ivar .i64 9),(.ivar .u64 10),(.ivar .i64 11),(.ivar .i64 12),(.lvar 13),(.lvar 14),(.lvar 15),(.lvar 16),(.ivar .i64 17),(.ivar .u64 18),(.ivar .i64 19),(.ivar .u64 20),(.ivar .i64 21),(.ivar .u64 22),(.lvar 23)]
theorem z45 (E:Env):q3T.get E=bif (SE.cmp .lss (.ivar .i64 24) (.len (.lvar 15))).val E !=0 then (bif (SE.not (.app 38 0 none (rlA 15 24))).val E !=0 then (some 0,q3Z.map (SE.val E)) else (none,q3N.map (SE.val E))) else (some 1,q3Y.map (SE.val E)):=rfl
theorem zch (F:Nat→List Int→List Int) (ys:List Int) (hn:(dec (ys.getD 15 0)).length≤1000000):(q3G F ys).getD 0 0=(((if (List.range (dec (ys.getD 15 0)).length).any (qkw F 38 (ys.getD 15 0)) then 0 else 1):Nat):Int):=by
 refine zew (J:=fun i zs=>zs.getD 15 0=ys.getD 15 0∧zs.getD 24 0=(i:Int)) (fun i zs hi hj=> ?_) (show q3U ys=(dec (ys.getD 15 0)).length+1 from rfl) ⟨(show (SE.lvar 15).val (qaa F ys)=ys.getD 15 0 from lvar_at),by show (SE.lit .i64 0).val (qaa F ys)=_;rw [qai];rfl⟩
 obtain ⟨h0,h1⟩:=hj
 have hg:((SE.cmp .lss (.ivar .i64 24) (.len (.lvar 15))).val (qaa F zs) !=0)=decide (i<(dec (ys.getD 15 0)).length):=qdx (qez h1 (by omega)) (qby (by rw [h0]) (by unfold maxLen;omega))
 have hq:=rl_q (F:=F) (f:=38) h0 h1
 rw [z45,hg,hq]
 by_cases q:i<(dec (ys.getD 15 0)).length
 ·rw [decide_eq_true q,cond_true]
  cases hb:qkw F 38 (ys.getD 15 0) i with
  |true=>
   refine ⟨fun ws hz=>(by cases hz),fun e ws hz=> .inl ⟨q,rfl,?_⟩⟩
   cases hz;rfl
  |false=>
   refine ⟨fun ws hz=> ?_,fun e ws hz=>(by cases hz)⟩
   cases hz
   exact ⟨q,rfl,(show (SE.lvar 15).val (qaa F zs)=zs.getD 15 0 from lvar_at).trans h0,qcu (k:=1) h1 (by omega)⟩
 ·rw [decide_eq_false q,cond_false]
  refine ⟨fun ws hz=>(by cases hz),fun e ws hz=> .inr ⟨by omega,?_⟩⟩
  cases hz;rfl
def wc (j:Nat) (el:List Int):Int:=(kB j).wrap (el.getD j 0)
def wr (el:List Int):List Int:=[wc 0 el,wc 1 el,wc 2 el,wc 3 el,wc 4 el,wc 5 el,wc 6 el,wc 7 el,wc 8 el,wc 9 el,wc 10 el,wc 11 el,wc 12 el,wc 13 el,wc 14 el,wc 15 el,wc 16 el,wc 17 el,wc 18 el,wc 19 el]
theorem qdz (el:List Int) (j:Nat) (hj:j<20):(wr el).getD j 0=wc j el:=by
 match j,hj with
 |0,_ |1,_ |2,_ |3,_ |4,_ |5,_ |6,_ |7,_ |8,_ |9,_ |10,_ |11,_ |12,_ |13,_ |14,_ |15,_ |16,_ |17,_ |18,_ |19,_=>rfl
 |(n+20),hn=>omega
theorem q5l (j:Nat) (el:List Int):inK (some (kB j)) (wc j el):=qaq _ _
theorem z23 (el:List Int):zw1 (wr el):=fun j hj=>by rw [qdz el j hj];exact q5l j el
structure BdT (el:List Int):Prop where
 m:1≤wc 0 el∧wc 0 el≤9
 m1:wc 1 el=0
 r:0≤wc 2 el∧wc 2 el≤2
 x: -128≤wc 4 el∧wc 4 el≤127
 y: -128≤wc 6 el∧wc 6 el≤127
 px: -3≤wc 8 el∧wc 8 el≤3
 py: -2≤wc 10 el∧wc 10 el≤2
 f:wc 12 el=0
 f1:wc 13 el≤288230376151711744
 ra:wc 14 el=0
 ex:0≤wc 16 el∧wc 16 el≤3
 ex1:wc 17 el=0
 th:0≤wc 18 el∧wc 18 el≤100
 he:0≤wc 19 el∧wc 19 el≤65535
section
variable {b0 b1 b2 b3:Int} (h0:0≤b0∧b0<256) (h1:0≤b1∧b1<256) (h2:0≤b2∧b2<256) (h3:0≤b3∧b3<256)
include h0 h1 h2 h3
end
def inI (x a b:Int):Bool:=decide (a≤x)&&decide (x≤b)
def zus (zs:List Int):Bool:=
 decide (-1≤zs.getD 0 0)&&(decide (zs.getD 0 0<zs.getD 10 0)&&(inI (zs.getD 5 0) 0 65535&&(inI (zs.getD 6 0) 0 65535&&(inI (zs.getD 7 0) 1 1073741824&&(inF (zs.getD 1 0) (zs.getD 2 0) 0 (nn 268435456 0)&&
 (inF (zs.getD 3 0) (zs.getD 4 0) 0 (nn 0 17293822569102704640)&&inF (zs.getD 8 0) (zs.getD 9 0) 0 (nn 1073741824 0)))))))
def kR (j:Nat):IntKind:=if j=2∨j=4∨j=9 then .u64 else .i64
def RaIn (zs:List Int):Prop:=∀j,j<11→inK (some (kR j)) (zs.getD j 0)
section
variable {zs:List Int} (h:RaIn zs)
include h
theorem ri (j:Nat) (hj:j<11) (hk:kR j= .i64):inK (some .i64) (zs.getD j 0):=by have:=h j hj;rwa [hk] at this
theorem ru (j:Nat) (hj:j<11) (hk:kR j= .u64):inK (some .u64) (zs.getD j 0):=by have:=h j hj;rwa [hk] at this
theorem qtd {F:Nat→List Int→List Int} (j:Nat) (hj:j<11) (hk:kR j= .i64):(SE.ivar .i64 j).val (qaa F zs)=zs.getD j 0:=by
 rw [qbz];exact ri h j hj hk
theorem z3v {F:Nat→List Int→List Int} (j:Nat) (hj:j<11) (hk:kR j= .u64):(SE.ivar .u64 j).val (qaa F zs)=zs.getD j 0:=by
 rw [qbz];exact ru h j hj hk
theorem f42n:FT qhb 40 zs=[b2i (zus zs)]:=by
 have g:FT qhb 40=qaf yeo (FT qfs):=qfb (Tb:=qhb) rfl rfl
 have e77:FT qfs 76=FT qfk 76:=qbt 3 (by kernel_rfl) (by kernel_rfl)
 have e75:FT qfs 74=FT qgc 74:=qbt 2 (by kernel_rfl) (by kernel_rfl)
 have e51:FT qfs 49=FT qem 49:=qbt 1 (by kernel_rfl) (by kernel_rfl)
 have m1:IntKind.i64.wrap (-1)= -1:=rfl
 rw [g];unfold yeo
 refine qk0 ?_ fun _=>qk0 ?_ fun _=>qk0 (qk2 ?_) fun _=>qk0 (qk2 ?_) fun _=>qk0 (qk2 ?_) fun _=>qk0 (qk2 ?_) fun _=>qk0 (qk2 ?_) fun _=>q0p (qy7 ?_)
 ·rw [qce,qtd h 0 (by decide) rfl,qai,m1];rfl
 ·rw [qce,qtd h 0 (by decide) rfl,qtd h 10 (by decide) rfl];rfl
 ·simp only [qab,qad]
  rw [qtd h 5 (by decide) rfl,qai,qai,e51]
  exact zhz (ri h 5 (by decide) rfl) rfl rfl
 ·simp only [qab,qad]
  rw [qtd h 6 (by decide) rfl,qai,qai,e51]
  exact zhz (ri h 6 (by decide) rfl) rfl rfl
 ·simp only [qab,qad]
  rw [qtd h 7 (by decide) rfl,qai,qai,e51]
  exact zhz (ri h 7 (by decide) rfl) rfl rfl
 ·simp only [qab,qad]
  rw [qtd h 1 (by decide) rfl,z3v h 2 (by decide) rfl,qai,e75]
  exact zpv (ri h 1 (by decide) rfl) (ru h 2 (by decide) rfl) ⟨by decide,by decide⟩
 ·simp only [qab,qad]
  rw [qtd h 3 (by decide) rfl,z3v h 4 (by decide) rfl,qai,qai,qai,e77]
  exact f77n (ri h 3 (by decide) rfl) (ru h 4 (by decide) rfl) rfl rfl rfl rfl
 ·simp only [qab,qad]
  rw [qtd h 8 (by decide) rfl,z3v h 9 (by decide) rfl,qai,e75]
  exact zpv (ri h 8 (by decide) rfl) (ru h 9 (by decide) rfl) ⟨by decide,by decide⟩
theorem f91n:FT qky 38 zs=[b2i (zus zs)]:=by
 have g:FT qky 38=qaf tr91 (FT qhe):=qfb (Tb:=qky) rfl rfl
 have e88:FT qhe 35=FT qgb 35:=qbt 12 (by kernel_rfl) (by kernel_rfl)
 have e54:FT qhe 18=FT qf4 18:=qbt 11 (by kernel_rfl) (by kernel_rfl)
 have e53:FT qhe 17=FT qdt 17:=qbt 15 (by kernel_rfl) (by kernel_rfl)
 have m1:IntKind.i64.wrap (-1)= -1:=rfl
 have fin:zus zs=(decide (-1≤zs.getD 0 0)&&(decide (zs.getD 0 0<zs.getD 10 0)&&(inF (zs.getD 1 0) (zs.getD 2 0) 0 (nn 268435456 0)&&(inF (zs.getD 3 0) (zs.getD 4 0) 0 (nn 0 17293822569102704640)&&(inI (zs.getD 5 0) 0 65535&&(inI (zs.getD 6 0) 0 65535&&(inI (zs.getD 7 0) 1 1073741824&&inF (zs.getD 8 0) (zs.getD 9 0) 0 (nn 1073741824 0)))))))):=by
  unfold zus
  generalize inF (zs.getD 1 0) (zs.getD 2 0) 0 (nn 268435456 0)=A1
  generalize inF (zs.getD 3 0) (zs.getD 4 0) 0 (nn 0 17293822569102704640)=A2
  generalize inF (zs.getD 8 0) (zs.getD 9 0) 0 (nn 1073741824 0)=A3
  generalize inI (zs.getD 5 0) 0 65535=A4
  generalize inI (zs.getD 6 0) 0 65535=A5
  generalize inI (zs.getD 7 0) 1 1073741824=A6
  simp only [Bool.and_comm,Bool.and_left_comm]
 rw [g,fin];unfold tr91
 refine qk0 ?_ fun _=>qk0 ?_ fun _=>qk0 (qk2 ?_) fun _=>qk0 (qk2 ?_) fun _=>qk0 (qk2 ?_) fun _=>qk0 (qk2 ?_) fun _=>qk0 (qk2 ?_) fun _=>q0p (qy7 ?_)
 ·rw [qce,qtd h 0 (by decide) rfl,qai,m1];rfl
 ·rw [qce,qtd h 0 (by decide) rfl,qtd h 10 (by decide) rfl];rfl
 ·simp only [qab,qad]
  rw [qtd h 1 (by decide) rfl,z3v h 2 (by decide) rfl,qai,e54]
  exact f54 (ri h 1 (by decide) rfl) (ru h 2 (by decide) rfl) ⟨by decide,by decide⟩
 ·simp only [qab,qad]
  rw [qtd h 3 (by decide) rfl,z3v h 4 (by decide) rfl,qai,qai,qai,e88]
  exact f88 (ri h 3 (by decide) rfl) (ru h 4 (by decide) rfl) rfl rfl rfl rfl
 ·simp only [qab,qad]
  rw [qtd h 5 (by decide) rfl,qai,qai,e53]
  exact f53 (ri h 5 (by decide) rfl) rfl rfl
 ·simp only [qab,qad]
  rw [qtd h 6 (by decide) rfl,qai,qai,e53]
  exact f53 (ri h 6 (by decide) rfl) rfl rfl
 ·simp only [qab,qad]
  rw [qtd h 7 (by decide) rfl,qai,qai,e53]
  exact f53 (ri h 7 (by decide) rfl) rfl rfl
 ·simp only [qab,qad]
  rw [qtd h 8 (by decide) rfl,z3v h 9 (by decide) rfl,qai,e54]
  exact f54 (ri h 8 (by decide) rfl) (ru h 9 (by decide) rfl) ⟨by decide,by decide⟩
end
theorem zpj (a:Int) (i:Nat):RaIn (rlR a i):=by
 intro j hj
 unfold rlR rlA
 simp only [qab,qad]
 match j,hj with
 |0,_ |1,_ |2,_ |3,_ |4,_ |5,_ |6,_ |7,_ |8,_ |9,_=>exact qaq _ _
 |10,_=>exact qaq _ _
theorem my40:FT qhx 40=FT qhb 40:=qbt 15 (by kernel_rfl) (by kernel_rfl)
theorem my38:FT qf0 38=FT qky 38:=qbt 12 (by kernel_rfl) (by kernel_rfl)
theorem rl_p (a:Int) (i:Nat):qkw (FT qhx) 40 a i= !zus (rlR a i):=by
 unfold qkw;rw [my40,f42n (zpj a i)]
 show (!(b2i _ !=0))=_
 rw [qas]
theorem rl_d (a:Int) (i:Nat):qkw (FT qf0) 38 a i= !zus (rlR a i):=by
 unfold qkw;rw [my38,f91n (zpj a i)]
 show (!(b2i _ !=0))=_
 rw [qas]
section
variable {xs:List Int} (hl:WtLen xs) (h0:0<(dec (wtL0.val (qac xs))).length) {B:SE} (hB:(dec (B.val (qac xs))).length=(dec (wtL0.val (qac xs))).length) (hr:BdR ((dec (B.val (qac xs))).getD (qnx xs) []))
include hl h0 hB hr
end
section
variable {xs:List Int} (hl:WtLen xs) (h0:0<(dec (wtL0.val (qac xs))).length)
include hl h0
end
def elB (lv c:Nat):SE:=(.cons (.el (some .i64) (.lvar lv) (.ivar .i64 c) 0) (.cons (.el (some .u64) (.lvar lv) (.ivar .i64 c) 1) (.cons (.el (some .i64) (.lvar lv) (.ivar .i64 c) 2) (.cons (.el (some .u64) (.lvar lv) (.ivar .i64 c) 3) (.cons (.el (some .i64) (.lvar lv) (.ivar .i64 c) 4) (.cons (.el (some .u64) (.lvar lv) (.ivar .i64 c) 5) (.cons (.el (some .i64) (.lvar lv) (.ivar .i64 c) 6) (.cons (.el (some .u64) (.lvar lv) (.ivar .i64 c) 7) (.cons (.el (some .i64) (.lvar lv) (.ivar .i64 c) 8) (.cons (.el (some .u64) (.lvar lv) (.ivar .i64 c) 9) (.cons (.el (some .i64) (.lvar lv) (.ivar .i64 c) 10) (.cons (.el (some .u64) (.lvar lv) (.ivar .i64 c) 11) (.cons (.el (some .i64) (.lvar lv) (.ivar .i64 c) 12) (.cons (.el (some .u64) (.lvar lv) (.ivar .i64 c) 13) (.cons (.el (some .i64) (.lvar lv) (.ivar .i64 c) 14) (.cons (.el (some .u64) (.lvar lv) (.ivar .i64 c) 15) (.cons (.el (some .i64) (.lvar lv) (.ivar .i64 c) 16) (.cons (.el (some .u64) (.lvar lv) (.ivar .i64 c) 17) (.cons (.el (some .i64) (.lvar lv) (.ivar .i64 c) 18) (.cons (.el (some .i64) (.lvar lv) (.ivar .i64 c) 19) .nil))))))))))))))))))))
section
variable {F:Nat→List Int→List Int} {xs:List Int} {lv c i:Nat} (hc:xs.getD c 0=(i:Int)) (hi:i≤1000000)
include hc hi
theorem qhj {k:Option IntKind} {j:Nat}:(SE.el k (.lvar lv) (.ivar .i64 c) j).val (qaa F xs)=wrK k (((dec (xs.getD lv 0)).getD i []).getD j 0):=by
 rw [zj7 (t:=i) (qez hc (by omega)),lvar_at]
theorem zte:(elB lv c).vals (qaa F xs)=wr ((dec (xs.getD lv 0)).getD i []):=by
 unfold elB
 simp only [qab,qad,qhj hc hi]
 rfl
theorem qg7 (hl:(dec (xs.getD lv 0)).length≤1000000):((SE.cmp .lss (.ivar .i64 c) (.len (.lvar lv))).val (qaa F xs) !=0)=decide (i<(dec (xs.getD lv 0)).length):=
 qdx (qez hc (by omega)) (qby rfl (qdb hl))
end
theorem qni {F:Nat→List Int→List Int} {xs:List Int} {c:Nat} {n:Int} (hc:IntKind.i64.wrap (xs.getD c 0)=n) (hn:0≤n∧n≤1000000):(SE.bin .sub .i64 (.ivar .i64 c) (.lit .i64 1)).val (qaa F xs)=n - 1:=by
 rw [qe7,qbz,hc,qai,w1i]
 show IntKind.i64.wrap (n - 1)=_
 rw [IntKind.wrap_i64];omega
structure TeOK (f g:List Int→List Int) (n:Int) (el:List Int):Prop where
 a:f [IntKind.i64.wrap (el.getD 0 0),0,n - 1]=[1]
 b:f [IntKind.i64.wrap (el.getD 1 0),0,n - 1]=[1]
 ne:IntKind.i64.wrap (el.getD 0 0)≠IntKind.i64.wrap (el.getD 1 0)
 len:g [IntKind.i64.wrap (el.getD 2 0),IntKind.u64.wrap (el.getD 3 0),1073741824]=[1]
 lo:IntKind.u64.wrap (el.getD 3 0)≠0
 lim:g [IntKind.i64.wrap (el.getD 4 0),IntKind.u64.wrap (el.getD 5 0),1099511627776]=[1]
theorem znp {F:Nat→List Int→List Int} {xs:List Int} {lv n:Nat} (h:(dec (xs.getD lv 0)).length=n) (hn:n≤1000000):(SE.bin .sub .i64 (.len (.lvar lv)) (.lit .i64 1)).val (qaa F xs)=(n:Int) - 1:=by
 rw [qe7,qby h (qdb hn),qai,w1i]
 show IntKind.i64.wrap ((n:Int) - 1)=_
 rw [IntKind.wrap_i64];omega
theorem fm31:FT yh1 20031=mrG (FT qhx):=(qbt 22 (by kernel_rfl) (by kernel_rfl)).trans ft31
theorem fm61:FT yh1 20061=q1y (FT qfx):=(qbt 22 (by kernel_rfl) (by kernel_rfl)).trans zlf
theorem fm33:FT yh1 20033=itG (FT qci):=(qbt 32 (Tb':=qcx) (by kernel_rfl) (by kernel_rfl)).trans (qfb (Tb:=qcx) rfl rfl)
theorem fm34:FT yh1 20034=iaG (FT qcx):=(qbt 31 (Tb':=qcj) (by kernel_rfl) (by kernel_rfl)).trans (qfb (Tb:=qcj) rfl rfl)
theorem al_wr (el:List Int):al (wr el)=wr el:=rfl
theorem f44n (el:List Int):FT qfx 42 (wr el)=[b2i (!zwy (wr el))]:=by
 have e:(SE.not (.app 43 0 none aB)).val (qaa (FT qfl) (wr el))=b2i (!((SE.app 43 0 none aB).val (qaa (FT qfl) (wr el)) !=0)):=by simp only [SE.val]
 have t:tr44= .leaf (.one (.opq (.not (.app 43 0 none aB)))):=rfl
 have h:=f45n (z23 el)
 rw [g44,t]
 refine q0p ?_
 rw [e,qy7 (b:=zwy (wr el)) (by rw [z9v (z23 el),al_wr];exact h),qas]
section
variable {xs:List Int} (hl:WtLen xs)
include hl
end
section
variable {xs:List Int} (hl:WtLen xs)
include hl
end
theorem e54:FT yh1 18=FT qf4 18:=qbt 12 (by kernel_rfl) (by kernel_rfl)
theorem e53:FT yh1 17=FT qdt 17:=qbt 16 (by kernel_rfl) (by kernel_rfl)
theorem qn1 {T:RT} {F:Nat→List Int→List Int} {J:Nat→List Int→Prop} {bad:Nat→Bool} {n eb eg:Nat} {PZ PY:List Int→Prop}
  (hs:∀i ys,i≤n→J i ys→∃Z N Y:List Int,T.get (qaa F ys)=(bif decide (i<n) then (bif bad i then (some eb,Z) else (none,N)) else (some eg,Y))∧(i<n→J (i+1) N)∧(i<n→PZ Z)∧(i=n→PY Y))
  {I:List SE} {U:List Int→Nat} {xs:List Int} (hU:U xs=n+1) (h0:J 0 (I.map (SE.val (qaa F xs)))):
  ∃zs,qfv I (fun _=>T) U F xs=(((if (List.range n).any bad then eb else eg):Nat):Int)::zs∧((List.range n).any bad=true→PZ zs)∧((List.range n).any bad=false→PY zs):=by
 obtain ⟨e,ys,h1,h2,h3,h4⟩:=qfm (F:=F) (T:=T) (fun i ys=>J i ys∧∀j,j<i→bad j=false) n (fun e ys=>e=(if (List.range n).any bad then eb else eg)∧((List.range n).any bad=true→PZ ys)∧((List.range n).any bad=false→PY ys))
  (fun i ys zs hi hj hy=>by
   obtain ⟨Z,N,Y,hg,hN,hZ,hY⟩:=hs i ys hi hj.1
   rw [hg] at hy
   by_cases q:i<n
   ·rw [decide_eq_true q,cond_true] at hy
    cases hb:bad i with
    |true=>rw [hb,cond_true] at hy;cases hy
    |false=>
     rw [hb,cond_false] at hy;cases hy
     refine ⟨q,hN q,fun j hj2=> ?_⟩
     rcases Nat.lt_or_ge j i with q |q
     ·exact hj.2 j q
     ·rw [show j=i by omega];exact hb
   ·rw [decide_eq_false q,cond_false] at hy;cases hy)
  (fun i ys e zs hi hj hy=>by
   obtain ⟨Z,N,Y,hg,hN,hZ,hY⟩:=hs i ys hi hj.1
   rw [hg] at hy
   by_cases q:i<n
   ·rw [decide_eq_true q,cond_true] at hy
    cases hb:bad i with
    |true=>
     rw [hb,cond_true] at hy;cases hy
     have:(List.range n).any bad=true:=List.any_eq_true.2 ⟨i,List.mem_range.2 q,hb⟩
     rw [this,if_pos rfl]
     exact ⟨rfl,fun _=>hZ q,fun h=>by cases h⟩
    |false=>rw [hb,cond_false] at hy;cases hy
   ·rw [decide_eq_false q,cond_false] at hy;cases hy
    have hin:i=n:=by omega
    have:(List.range n).any bad=false:=by
     rw [List.any_eq_false]
     intro j hj2
     rw [hj.2 j (by rw [hin];exact List.mem_range.1 hj2)];decide
    rw [this,if_neg (by decide)]
    exact ⟨rfl,fun h=>(by cases h),fun _=>hY hin⟩) (n+1) 0 0 _ (by omega) (by omega) ⟨h0,fun j hj=>absurd hj (Nat.not_lt_zero j)⟩
 refine ⟨ys,?_,h3,h4⟩
 unfold qfv
 rw [hU,h1,h2]
noncomputable def qmv (b:Int) (i:Nat):Bool:= !zwy (wr ((dec b).getD i []))
theorem zb4 (b:Int) (hn:(dec b).length≤1000000):∃zs,q1y (FT qfx) [b,b]=(((if (List.range (dec b).length).any (qmv b) then 0 else 1):Nat):Int)::zs∧((List.range (dec b).length).any (qmv b)=true→0≤IntKind.i64.wrap (zs.getD 0 0))∧((List.range (dec b).length).any (qmv b)=false→True):=by
 refine qn1 (J:=fun i ys=>ys.getD 0 0=b∧ys.getD 1 0=b∧ys.getD 2 0=(i:Int)) (PZ:=fun zs=>0≤IntKind.i64.wrap (zs.getD 0 0)) (PY:=fun _=>True) (fun i ys hi hj=> ?_) (show z4a [b,b]=(dec b).length+1 from rfl) ⟨lvar_at,lvar_at,by show (SE.lit .i64 0).val (qaa (FT qfx) [b,b])=_;rw [qai];rfl⟩
 obtain ⟨h0,h1,h2⟩:=hj
 have hg:((SE.cmp .lss (.ivar .i64 2) (.len (.lvar 0))).val (qaa (FT qfx) ys) !=0)=decide (i<(dec b).length):=by rw [qg7 h2 (by omega) (by rw [h0];exact hn),h0]
 have hQ:rtQ ib2T= .app 42 0 none (elB 1 2):=rfl
 have hq:((rtQ ib2T).val (qaa (FT qfx) ys) !=0)=qmv b i:=by
  rw [hQ]
  exact qk2 (by rw [zte h2 (by omega),h1];exact f44n _)
 refine ⟨([(.ivar .i64 2)]:List SE).map (SE.val (qaa (FT qfx) ys)),([(.lvar 0),(.lvar 1),(.bin .add .i64 (.ivar .i64 2) (.lit .i64 1))]:List SE).map (SE.val (qaa (FT qfx) ys)),([(.lvar 0)]:List SE).map (SE.val (qaa (FT qfx) ys)),by rw [qx3,hg,hq],fun q=>⟨(show (SE.lvar 0).val (qaa (FT qfx) ys)=_ from lvar_at).trans h0,(show (SE.lvar 1).val (qaa (FT qfx) ys)=_ from lvar_at).trans h1,qcu (k:=1) h2 (by omega)⟩,fun q=> ?_,fun _=>trivial⟩
 show 0≤IntKind.i64.wrap ((SE.ivar .i64 2).val (qaa (FT qfx) ys))
 rw [qez h2 (by omega),IntKind.wrap_i64];omega
noncomputable def qmu (a:Int) (n:Nat) (i:Nat):Bool:= !(decide (-1≤IntKind.i64.wrap (((dec a).getD i []).getD 0 0))&&decide (IntKind.i64.wrap (((dec a).getD i []).getD 0 0)≤(n:Int) - 1))
def iaN:List SE:=[(.lvar 0),(.ivar .i64 1),(.bin .add .i64 (.ivar .i64 2) (.lit .i64 1))]
theorem zxq (E:Env):iaT.get E=bif (SE.cmp .lss (.ivar .i64 2) (.len (.lvar 0))).val E !=0 then (bif (SE.not (.app 49 0 none (.cons (.el (some .i64) (.lvar 0) (.ivar .i64 2) 0) (.cons (.lit .i64 (-1)) (.cons (.bin .sub .i64 (.ivar .i64 1) (.lit .i64 1)) .nil))))).val E !=0 then (some 0,([(.ivar .i64 2)]:List SE).map (SE.val E)) else (none,iaN.map (SE.val E))) else (some 1,([(.lvar 0)]:List SE).map (SE.val E)):=rfl
theorem mm1:IntKind.i64.wrap (-1)= -1:=rfl
theorem mm0:IntKind.i64.wrap 0=0:=rfl
theorem qx4 {F:Nat→List Int→List Int} (hF:F 49=FT qem 49) {a b c:Int} (hb:IntKind.i64.wrap b=b) (hc:IntKind.i64.wrap c=c):F 49 [IntKind.i64.wrap a,b,c]=[b2i (decide (b≤IntKind.i64.wrap a)&&decide (IntKind.i64.wrap a≤c))]:=by
 rw [hF];exact zhz (qaq _ _) hb hc
theorem qye {F:Nat→List Int→List Int} (hF:F 17=FT qdt 17) {a b c:Int} (hb:IntKind.i64.wrap b=b) (hc:IntKind.i64.wrap c=c):F 17 [IntKind.i64.wrap a,b,c]=[b2i (decide (b≤IntKind.i64.wrap a)&&decide (IntKind.i64.wrap a≤c))]:=by
 rw [hF];exact f53 (qaq _ _) hb hc
theorem q4s {n:Nat} (h:n≤1000000):IntKind.i64.wrap ((n:Int) - 1)=(n:Int) - 1:=by rw [IntKind.wrap_i64];omega
theorem zpi (a:Int) (n:Nat) (hn:(dec a).length≤1000000) (hm:n≤1000000):∃zs,iaG (FT qcx) [a,(n:Int)]=(((if (List.range (dec a).length).any (qmu a n) then 0 else 1):Nat):Int)::zs∧((List.range (dec a).length).any (qmu a n)=true→0≤IntKind.i64.wrap (zs.getD 0 0))∧((List.range (dec a).length).any (qmu a n)=false→True):=by
 have hF:FT qcx 49=FT qem 49:=qbt 20 (by kernel_rfl) (by kernel_rfl)
 have wn:IntKind.i64.wrap (n:Int)=n:=by rw [IntKind.wrap_i64];omega
 have i1:∀ys:List Int,(SE.ivar .i64 1).val (qaa (FT qcx) ys)=IntKind.i64.wrap (ys.getD 1 0):=fun ys=>qbz
 refine qn1 (J:=fun i ys=>ys.getD 0 0=a∧IntKind.i64.wrap (ys.getD 1 0)=(n:Int)∧ys.getD 2 0=(i:Int)) (PZ:=fun zs=>0≤IntKind.i64.wrap (zs.getD 0 0)) (PY:=fun _=>True) (fun i ys hi hj=> ?_) (show iaU [a,(n:Int)]=(dec a).length+1 from rfl) ⟨lvar_at,?_,by show (SE.lit .i64 0).val (qaa (FT qcx) [a,(n:Int)])=_;rw [qai];rfl⟩
 ·obtain ⟨h0,h1,h2⟩:=hj
  have hg:((SE.cmp .lss (.ivar .i64 2) (.len (.lvar 0))).val (qaa (FT qcx) ys) !=0)=decide (i<(dec a).length):=by rw [qg7 h2 (by omega) (by rw [h0];exact hn),h0]
  have hq:((SE.not (.app 49 0 none (.cons (.el (some .i64) (.lvar 0) (.ivar .i64 2) 0) (.cons (.lit .i64 (-1)) (.cons (.bin .sub .i64 (.ivar .i64 1) (.lit .i64 1)) .nil))))).val (qaa (FT qcx) ys) !=0)=qmu a n i:=
   qiz (by rw [qab,qab,qab,qad,qhj h2 (by omega),qni h1 ⟨by omega,by omega⟩,qai,mm1,h0];exact qx4 hF mm1 (q4s hm))
  refine ⟨([(.ivar .i64 2)]:List SE).map (SE.val (qaa (FT qcx) ys)),iaN.map (SE.val (qaa (FT qcx) ys)),([(.lvar 0)]:List SE).map (SE.val (qaa (FT qcx) ys)),by rw [zxq,hg,hq],fun q=>⟨(show (SE.lvar 0).val (qaa (FT qcx) ys)=_ from lvar_at).trans h0,?_,qcu (k:=1) h2 (by omega)⟩,fun q=> ?_,fun _=>trivial⟩
  ·show IntKind.i64.wrap ((SE.ivar .i64 1).val (qaa (FT qcx) ys))=_
   rw [i1,h1];exact wn
  ·show 0≤IntKind.i64.wrap ((SE.ivar .i64 2).val (qaa (FT qcx) ys))
   rw [qez h2 (by omega),IntKind.wrap_i64];omega
 ·show IntKind.i64.wrap ((SE.ivar .i64 1).val (qaa (FT qcx) [a,(n:Int)]))=_
  rw [i1]
  show IntKind.i64.wrap (IntKind.i64.wrap (n:Int))=_
  rw [wn,wn]
def q1Y:List SE:=[(.ivar .i64 0),(.ivar .i64 1),(.ivar .u64 2),(.ivar .i64 3),(.ivar .u64 4),(.ivar .i64 5),(.ivar .u64 6),(.ivar .i64 7),(.ivar .u64 8),(.ivar .i64 9),(.ivar .u64 10),(.ivar .i64 11),(.ivar .i64 12),(.lvar 13),(.lvar 14),(.lvar 15),(.lvar 16),(.ivar .i64 17),(.ivar .u64 18),(.ivar .i64 19),(.ivar .u64 20),(.ivar .i64 21),(.ivar .u64 22),(.lvar 23),(.len (.lvar 13))]
theorem yd3 (E:Env):q1T.get E=bif (SE.cmp .lss (.ivar .i64 24) (.len (.lvar 13))).val E !=0 then (bif (SE.not (.app 37 0 none (elB 13 24))).val E !=0 then (some 0,[]) else (bif (SE.not (.app 17 0 none (.cons (.el (some .i64) (.lvar 16) (.ivar .i64 24) 0) (.cons (.lit .i64 (-1)) (.cons (.bin .sub .i64 (.len (.lvar 15)) (.lit .i64 1)) .nil))))).val E !=0 then (some 0,[]) else (none,q3N.map (SE.val E)))) else (some 1,q1Y.map (SE.val E)):=rfl
theorem zwv {α:Type} (a b:Bool) (x y:α):(bif a then x else (bif b then x else y))=bif (a||b) then x else y:=by cases a<;>cases b<;>rfl
theorem zqa (ys:List Int) (hn:(dec (ys.getD 13 0)).length≤1000000) (hr:(dec (ys.getD 15 0)).length≤1000000):∃zs,q1G (FT qg3) ys=(((if (List.range (dec (ys.getD 13 0)).length).any (fun i=>qmv (ys.getD 13 0) i||qmu (ys.getD 16 0) (dec (ys.getD 15 0)).length i) then 0 else 1):Nat):Int)::zs∧((List.range (dec (ys.getD 13 0)).length).any (fun i=>qmv (ys.getD 13 0) i||qmu (ys.getD 16 0) (dec (ys.getD 15 0)).length i)=true→True)∧((List.range (dec (ys.getD 13 0)).length).any (fun i=>qmv (ys.getD 13 0) i||qmu (ys.getD 16 0) (dec (ys.getD 15 0)).length i)=false→zs.getD 24 0=((dec (ys.getD 13 0)).length:Int)):=by
 have e37:FT qg3 37=FT qhe 37:=qbt 11 (by kernel_rfl) (by kernel_rfl)
 have e17:FT qg3 17=FT qdt 17:=qbt 26 (by kernel_rfl) (by kernel_rfl)
 refine qn1 (J:=fun i zs=>zs.getD 13 0=ys.getD 13 0∧zs.getD 15 0=ys.getD 15 0∧zs.getD 16 0=ys.getD 16 0∧zs.getD 24 0=(i:Int)) (PZ:=fun _=>True) (PY:=fun zs=>zs.getD 24 0=((dec (ys.getD 13 0)).length:Int)) (fun i zs hi hj=> ?_) (show q1U ys=(dec (ys.getD 13 0)).length+1 from rfl) ⟨(show (SE.lvar 13).val (qaa (FT qg3) ys)=_ from lvar_at),(show (SE.lvar 15).val (qaa (FT qg3) ys)=_ from lvar_at),(show (SE.lvar 16).val (qaa (FT qg3) ys)=_ from lvar_at),by show (SE.lit .i64 0).val (qaa (FT qg3) ys)=_;rw [qai];rfl⟩
 obtain ⟨h0,h1,h2,h3⟩:=hj
 have hg:((SE.cmp .lss (.ivar .i64 24) (.len (.lvar 13))).val (qaa (FT qg3) zs) !=0)=decide (i<(dec (ys.getD 13 0)).length):=by rw [qg7 h3 (by omega) (by rw [h0];exact hn),h0]
 have hq:((SE.not (.app 37 0 none (elB 13 24))).val (qaa (FT qg3) zs) !=0)=qmv (ys.getD 13 0) i:=
  qiz (by rw [zte h3 (by omega),h0,e37];exact f90n (z23 _))
 have hp:((SE.not (.app 17 0 none (.cons (.el (some .i64) (.lvar 16) (.ivar .i64 24) 0) (.cons (.lit .i64 (-1)) (.cons (.bin .sub .i64 (.len (.lvar 15)) (.lit .i64 1)) .nil))))).val (qaa (FT qg3) zs) !=0)=qmu (ys.getD 16 0) (dec (ys.getD 15 0)).length i:=
  qiz (by rw [qab,qab,qab,qad,qhj h3 (by omega),znp (by rw [h1]) hr,qai,mm1,h2];exact qye e17 mm1 (q4s hr))
 refine ⟨[],q3N.map (SE.val (qaa (FT qg3) zs)),q1Y.map (SE.val (qaa (FT qg3) zs)),by rw [yd3,hg,hq,hp,zwv],fun q=>⟨(show (SE.lvar 13).val (qaa (FT qg3) zs)=_ from lvar_at).trans h0,(show (SE.lvar 15).val (qaa (FT qg3) zs)=_ from lvar_at).trans h1,(show (SE.lvar 16).val (qaa (FT qg3) zs)=_ from lvar_at).trans h2,qcu (k:=1) h3 (by omega)⟩,fun _=>trivial,fun _=> ?_⟩
 show (SE.len (.lvar 13)).val (qaa (FT qg3) zs)=_
 exact qby (by rw [h0]) (qdb hn)
noncomputable def yhh (n:Nat) (el:List Int):Bool:=
 !(decide (0≤IntKind.i64.wrap (el.getD 0 0))&&decide (IntKind.i64.wrap (el.getD 0 0)≤(n:Int) - 1))||
 (!(decide (0≤IntKind.i64.wrap (el.getD 1 0))&&decide (IntKind.i64.wrap (el.getD 1 0)≤(n:Int) - 1))||
 ((IntKind.i64.wrap (el.getD 0 0)==IntKind.i64.wrap (el.getD 1 0))||
 (!(inF (IntKind.i64.wrap (el.getD 2 0)) (IntKind.u64.wrap (el.getD 3 0)) 0 (nn 1073741824 0))||
 (((IntKind.i64.wrap (el.getD 2 0)==0)&&((IntKind.u64.wrap (el.getD 3 0)==0)&&true))||
 !(inF (IntKind.i64.wrap (el.getD 4 0)) (IntKind.u64.wrap (el.getD 5 0)) 0 (nn 1099511627776 0))))))
noncomputable def qs_ (a:Int) (n:Nat) (i:Nat):Bool:=yhh n ((dec a).getD i [])
theorem z7v {F:Nat→List Int→List Int} (hF:F 74=FT qgc 74) {a b n:Int} (h:0≤n∧n≤1152921504606846976):F 74 [IntKind.i64.wrap a,IntKind.u64.wrap b,n]=[b2i (inF (IntKind.i64.wrap a) (IntKind.u64.wrap b) 0 (nn n 0))]:=by
 rw [hF];exact zpv (qaq _ _) (qaq _ _) h
theorem yfc {F:Nat→List Int→List Int} (hF:F 18=FT qf4 18) {a b n:Int} (h:0≤n∧n≤1152921504606846976):F 18 [IntKind.i64.wrap a,IntKind.u64.wrap b,n]=[b2i (inF (IntKind.i64.wrap a) (IntKind.u64.wrap b) 0 (nn n 0))]:=by
 rw [hF];exact f54 (qaq _ _) (qaq _ _) h
theorem wL30:IntKind.i64.wrap 1073741824=1073741824:=rfl
theorem wL40:IntKind.i64.wrap 1099511627776=1099511627776:=rfl
theorem zxg {E:Env}:((SE.cmp .eql (.lit .i64 1) (.lit .i64 1)).val E !=0)=true:=by rw [qce,qai];rfl
theorem itQ (E:Env):itT.get E=bif (SE.cmp .lss (.ivar .i64 2) (.len (.lvar 0))).val E !=0 then (bif (SE.app 49 0 none (.cons (.el (some .i64) (.lvar 0) (.ivar .i64 2) 0) (.cons (.lit .i64 0) (.cons (.bin .sub .i64 (.ivar .i64 1) (.lit .i64 1)) .nil)))).val E !=0 then (bif (SE.app 49 0 none (.cons (.el (some .i64) (.lvar 0) (.ivar .i64 2) 1) (.cons (.lit .i64 0) (.cons (.bin .sub .i64 (.ivar .i64 1) (.lit .i64 1)) .nil)))).val E !=0 then
  (bif (SE.cmp .neq (.el (some .i64) (.lvar 0) (.ivar .i64 2) 0) (.el (some .i64) (.lvar 0) (.ivar .i64 2) 1)).val E !=0 then (bif (SE.app 74 0 none (.cons (.el (some .i64) (.lvar 0) (.ivar .i64 2) 2) (.cons (.el (some .u64) (.lvar 0) (.ivar .i64 2) 3) (.cons (.lit .i64 1073741824) .nil)))).val E !=0 then (bif (SE.not (.and (.cmp .eql (.el (some .i64) (.lvar 0) (.ivar .i64 2) 2) (.lit .i64 0)) (.and (.cmp .eql (.el (some .u64) (.lvar 0) (.ivar .i64 2) 3) (.lit .u64 0)) (.cmp .eql (.lit .i64 1) (.lit .i64 1))))).val E !=0 then
  (bif (SE.not (.app 74 0 none (.cons (.el (some .i64) (.lvar 0) (.ivar .i64 2) 4) (.cons (.el (some .u64) (.lvar 0) (.ivar .i64 2) 5) (.cons (.lit .i64 1099511627776) .nil))))).val E !=0 then (some 0,([(.ivar .i64 2)]:List SE).map (SE.val E)) else (none,iaN.map (SE.val E))) else (some 0,([(.ivar .i64 2)]:List SE).map (SE.val E))) else (some 0,([(.ivar .i64 2)]:List SE).map (SE.val E))) else (some 0,([(.ivar .i64 2)]:List SE).map (SE.val E))) else (some 0,([(.ivar .i64 2)]:List SE).map (SE.val E))) else (some 0,([(.ivar .i64 2)]:List SE).map (SE.val E))) else (some 1,([(.lvar 0)]:List SE).map (SE.val E)):=rfl
theorem cond6 {α:Type} (a b c d e f:Bool) (x y:α):(bif a then (bif b then (bif c then (bif d then (bif e then (bif f then x else y) else x) else x) else x) else x) else x)=bif (!a||(!b||(!c||(!d||(!e||f))))) then x else y:=by cases a<;>cases b<;>cases c<;>cases d<;>cases e<;>cases f<;>rfl
theorem yfz {α:Type} (a b c d e f:Bool) (x y:α):(bif a then x else (bif b then x else (bif c then x else (bif d then x else (bif e then x else (bif f then x else y))))))=bif (a||(b||(c||(d||(e||f))))) then x else y:=by cases a<;>cases b<;>cases c<;>cases d<;>cases e<;>cases f<;>rfl
theorem zp0 (a:Int) (n:Nat) (hn:(dec a).length≤1000000) (hm:n≤1000000):∃zs,itG (FT qci) [a,(n:Int)]=(((if (List.range (dec a).length).any (qs_ a n) then 0 else 1):Nat):Int)::zs∧((List.range (dec a).length).any (qs_ a n)=true→0≤IntKind.i64.wrap (zs.getD 0 0))∧((List.range (dec a).length).any (qs_ a n)=false→True):=by
 have hF:FT qci 49=FT qem 49:=qbt 19 (by kernel_rfl) (by kernel_rfl)
 have hF2:FT qci 74=FT qgc 74:=qbt 20 (by kernel_rfl) (by kernel_rfl)
 have wn:IntKind.i64.wrap (n:Int)=n:=by rw [IntKind.wrap_i64];omega
 have i1:∀ys:List Int,(SE.ivar .i64 1).val (qaa (FT qci) ys)=IntKind.i64.wrap (ys.getD 1 0):=fun ys=>qbz
 refine qn1 (J:=fun i ys=>ys.getD 0 0=a∧IntKind.i64.wrap (ys.getD 1 0)=(n:Int)∧ys.getD 2 0=(i:Int)) (PZ:=fun zs=>0≤IntKind.i64.wrap (zs.getD 0 0)) (PY:=fun _=>True) (fun i ys hi hj=> ?_) (show itU [a,(n:Int)]=(dec a).length+1 from rfl) ⟨lvar_at,?_,by show (SE.lit .i64 0).val (qaa (FT qci) [a,(n:Int)])=_;rw [qai];rfl⟩
 ·obtain ⟨h0,h1,h2⟩:=hj
  have hg:((SE.cmp .lss (.ivar .i64 2) (.len (.lvar 0))).val (qaa (FT qci) ys) !=0)=decide (i<(dec a).length):=by rw [qg7 h2 (by omega) (by rw [h0];exact hn),h0]
  have qa:((SE.app 49 0 none (.cons (.el (some .i64) (.lvar 0) (.ivar .i64 2) 0) (.cons (.lit .i64 0) (.cons (.bin .sub .i64 (.ivar .i64 1) (.lit .i64 1)) .nil)))).val (qaa (FT qci) ys) !=0)=_:=
   qk2 (by rw [qab,qab,qab,qad,qhj h2 (by omega),qni h1 ⟨by omega,by omega⟩,qai,mm0,h0];exact qx4 hF mm0 (q4s hm))
  have qb:((SE.app 49 0 none (.cons (.el (some .i64) (.lvar 0) (.ivar .i64 2) 1) (.cons (.lit .i64 0) (.cons (.bin .sub .i64 (.ivar .i64 1) (.lit .i64 1)) .nil)))).val (qaa (FT qci) ys) !=0)=_:=
   qk2 (by rw [qab,qab,qab,qad,qhj h2 (by omega),qni h1 ⟨by omega,by omega⟩,qai,mm0,h0];exact qx4 hF mm0 (q4s hm))
  have qc:((SE.cmp .neq (.el (some .i64) (.lvar 0) (.ivar .i64 2) 0) (.el (some .i64) (.lvar 0) (.ivar .i64 2) 1)).val (qaa (FT qci) ys) !=0)= !(IntKind.i64.wrap (((dec a).getD i []).getD 0 0)==IntKind.i64.wrap (((dec a).getD i []).getD 1 0)):=by
   rw [qce,qhj h2 (by omega),qhj h2 (by omega),h0];rfl
  have qd:((SE.app 74 0 none (.cons (.el (some .i64) (.lvar 0) (.ivar .i64 2) 2) (.cons (.el (some .u64) (.lvar 0) (.ivar .i64 2) 3) (.cons (.lit .i64 1073741824) .nil)))).val (qaa (FT qci) ys) !=0)=_:=
   qk2 (by rw [qab,qab,qab,qad,qhj h2 (by omega),qhj h2 (by omega),qai,wL30,h0];exact z7v hF2 ⟨by decide,by decide⟩)
  have qe:((SE.not (.and (.cmp .eql (.el (some .i64) (.lvar 0) (.ivar .i64 2) 2) (.lit .i64 0)) (.and (.cmp .eql (.el (some .u64) (.lvar 0) (.ivar .i64 2) 3) (.lit .u64 0)) (.cmp .eql (.lit .i64 1) (.lit .i64 1))))).val (qaa (FT qci) ys) !=0)= !((IntKind.i64.wrap (((dec a).getD i []).getD 2 0)==0)&&((IntKind.u64.wrap (((dec a).getD i []).getD 3 0)==0)&&true)):=by
   rw [qec,qlq,qlq,zxg,qce,qce,qhj h2 (by omega),qhj h2 (by omega),qai,qai,h0];rfl
  have qf:((SE.not (.app 74 0 none (.cons (.el (some .i64) (.lvar 0) (.ivar .i64 2) 4) (.cons (.el (some .u64) (.lvar 0) (.ivar .i64 2) 5) (.cons (.lit .i64 1099511627776) .nil))))).val (qaa (FT qci) ys) !=0)=_:=
   qiz (by rw [qab,qab,qab,qad,qhj h2 (by omega),qhj h2 (by omega),qai,wL40,h0];exact z7v hF2 ⟨by decide,by decide⟩)
  refine ⟨([(.ivar .i64 2)]:List SE).map (SE.val (qaa (FT qci) ys)),iaN.map (SE.val (qaa (FT qci) ys)),([(.lvar 0)]:List SE).map (SE.val (qaa (FT qci) ys)),?_,fun q=>⟨(show (SE.lvar 0).val (qaa (FT qci) ys)=_ from lvar_at).trans h0,?_,qcu (k:=1) h2 (by omega)⟩,fun q=> ?_,fun _=>trivial⟩
  ·rw [itQ,hg,qa,qb,qc,qd,qe,qf,cond6]
   simp only [Bool.not_not];rfl
  ·show IntKind.i64.wrap ((SE.ivar .i64 1).val (qaa (FT qci) ys))=_
   rw [i1,h1];exact wn
  ·show 0≤IntKind.i64.wrap ((SE.ivar .i64 2).val (qaa (FT qci) ys))
   rw [qez h2 (by omega),IntKind.wrap_i64];omega
 ·show IntKind.i64.wrap ((SE.ivar .i64 1).val (qaa (FT qci) [a,(n:Int)]))=_
  rw [i1]
  show IntKind.i64.wrap (IntKind.i64.wrap (n:Int))=_
  rw [wn,wn]
def q2N:List SE:=[(.ivar .i64 0),(.ivar .i64 1),(.ivar .u64 2),(.ivar .i64 3),(.ivar .u64 4),(.ivar .i64 5),(.ivar .u64 6),(.ivar .i64 7),(.ivar .u64 8),(.ivar .i64 9),(.ivar .u64 10),(.ivar .i64 11),(.ivar .i64 12),(.lvar 13),(.lvar 14),(.lvar 15),(.lvar 16),(.ivar .i64 17),(.ivar .u64 18),(.ivar .i64 19),(.ivar .u64 20),(.ivar .i64 21),(.ivar .u64 22),(.lvar 23),(.ivar .i64 24),(.bin .add .i64 (.ivar .i64 25) (.lit .i64 1))]
def q2Y:List SE:=[(.ivar .i64 0),(.ivar .i64 1),(.ivar .u64 2),(.ivar .i64 3),(.ivar .u64 4),(.ivar .i64 5),(.ivar .u64 6),(.ivar .i64 7),(.ivar .u64 8),(.ivar .i64 9),(.ivar .u64 10),(.ivar .i64 11),(.ivar .i64 12),(.lvar 13),(.lvar 14),(.lvar 15),(.lvar 16),(.ivar .i64 17),(.ivar .u64 18),(.ivar .i64 19),(.ivar .u64 20),(.ivar .i64 21),(.ivar .u64 22),(.lvar 23),(.ivar .i64 24)]
theorem q2Q (E:Env):q2T.get E=bif (SE.cmp .lss (.ivar .i64 25) (.len (.lvar 14))).val E !=0 then (bif (SE.not (.app 17 0 none (.cons (.el (some .i64) (.lvar 14) (.ivar .i64 25) 0) (.cons (.lit .i64 0) (.cons (.bin .sub .i64 (.ivar .i64 24) (.lit .i64 1)) .nil))))).val E !=0 then (some 0,[]) else (bif (SE.not (.app 17 0 none (.cons (.el (some .i64) (.lvar 14) (.ivar .i64 25) 1) (.cons (.lit .i64 0) (.cons (.bin .sub .i64 (.ivar .i64 24) (.lit .i64 1)) .nil))))).val E !=0 then (some 0,[]) else
  (bif (SE.cmp .eql (.el (some .i64) (.lvar 14) (.ivar .i64 25) 0) (.el (some .i64) (.lvar 14) (.ivar .i64 25) 1)).val E !=0 then (some 0,[]) else (bif (SE.not (.app 18 0 none (.cons (.el (some .i64) (.lvar 14) (.ivar .i64 25) 2) (.cons (.el (some .u64) (.lvar 14) (.ivar .i64 25) 3) (.cons (.lit .i64 1073741824) .nil))))).val E !=0 then (some 0,[]) else (bif (SE.and (.cmp .eql (.el (some .i64) (.lvar 14) (.ivar .i64 25) 2) (.lit .i64 0)) (.and (.cmp .eql (.el (some .u64) (.lvar 14) (.ivar .i64 25) 3) (.lit .u64 0)) (.cmp .eql (.lit .i64 1) (.lit .i64 1)))).val E !=0 then (some 0,[]) else
  (bif (SE.not (.app 18 0 none (.cons (.el (some .i64) (.lvar 14) (.ivar .i64 25) 4) (.cons (.el (some .u64) (.lvar 14) (.ivar .i64 25) 5) (.cons (.lit .i64 1099511627776) .nil))))).val E !=0 then (some 0,[]) else (none,q2N.map (SE.val E)))))))) else (some 1,q2Y.map (SE.val E)):=rfl
theorem z41 (ys:List Int) (n:Nat) (hn:(dec (ys.getD 14 0)).length≤1000000) (hm:n≤1000000) (h24:ys.getD 24 0=(n:Int)):(q2G (FT qct) ys).getD 0 0=(((if (List.range (dec (ys.getD 14 0)).length).any (qs_ (ys.getD 14 0) n) then 0 else 1):Nat):Int):=by
 have e17:FT qct 17=FT qdt 17:=qbt 27 (by kernel_rfl) (by kernel_rfl)
 have e18:FT qct 18=FT qf4 18:=qbt 23 (by kernel_rfl) (by kernel_rfl)
 have wn:IntKind.i64.wrap (n:Int)=n:=by rw [IntKind.wrap_i64];omega
 have i1:∀ys:List Int,(SE.ivar .i64 24).val (qaa (FT qct) ys)=IntKind.i64.wrap (ys.getD 24 0):=fun ys=>qbz
 have:=qn1 (T:=q2T) (F:=FT qct) (bad:=qs_ (ys.getD 14 0) n) (eb:=0) (eg:=1) (J:=fun i zs=>zs.getD 14 0=ys.getD 14 0∧IntKind.i64.wrap (zs.getD 24 0)=(n:Int)∧zs.getD 25 0=(i:Int)) (PZ:=fun _=>True) (PY:=fun _=>True) (fun i zs hi hj=> ?_) (I:=q2I) (show q2U ys=(dec (ys.getD 14 0)).length+1 from rfl) ⟨(show (SE.lvar 14).val (qaa (FT qct) ys)=_ from lvar_at),?_,by show (SE.lit .i64 0).val (qaa (FT qct) ys)=_;rw [qai];rfl⟩
 ·obtain ⟨zs,h,_,_⟩:=this
  show (qfv q2I (fun _=>q2T) q2U (FT qct) ys).getD 0 0=_
  rw [h];rfl
 ·obtain ⟨h0,h1,h2⟩:=hj
  have hg:((SE.cmp .lss (.ivar .i64 25) (.len (.lvar 14))).val (qaa (FT qct) zs) !=0)=decide (i<(dec (ys.getD 14 0)).length):=by rw [qg7 h2 (by omega) (by rw [h0];exact hn),h0]
  have qa:((SE.not (.app 17 0 none (.cons (.el (some .i64) (.lvar 14) (.ivar .i64 25) 0) (.cons (.lit .i64 0) (.cons (.bin .sub .i64 (.ivar .i64 24) (.lit .i64 1)) .nil))))).val (qaa (FT qct) zs) !=0)=_:=
   qiz (by rw [qab,qab,qab,qad,qhj h2 (by omega),qni h1 ⟨by omega,by omega⟩,qai,mm0,h0];exact qye e17 mm0 (q4s hm))
  have qb:((SE.not (.app 17 0 none (.cons (.el (some .i64) (.lvar 14) (.ivar .i64 25) 1) (.cons (.lit .i64 0) (.cons (.bin .sub .i64 (.ivar .i64 24) (.lit .i64 1)) .nil))))).val (qaa (FT qct) zs) !=0)=_:=
   qiz (by rw [qab,qab,qab,qad,qhj h2 (by omega),qni h1 ⟨by omega,by omega⟩,qai,mm0,h0];exact qye e17 mm0 (q4s hm))
  have qc:((SE.cmp .eql (.el (some .i64) (.lvar 14) (.ivar .i64 25) 0) (.el (some .i64) (.lvar 14) (.ivar .i64 25) 1)).val (qaa (FT qct) zs) !=0)=(IntKind.i64.wrap (((dec (ys.getD 14 0)).getD i []).getD 0 0)==IntKind.i64.wrap (((dec (ys.getD 14 0)).getD i []).getD 1 0)):=by
   rw [qce,qhj h2 (by omega),qhj h2 (by omega),h0];rfl
  have qd:((SE.not (.app 18 0 none (.cons (.el (some .i64) (.lvar 14) (.ivar .i64 25) 2) (.cons (.el (some .u64) (.lvar 14) (.ivar .i64 25) 3) (.cons (.lit .i64 1073741824) .nil))))).val (qaa (FT qct) zs) !=0)=_:=
   qiz (by rw [qab,qab,qab,qad,qhj h2 (by omega),qhj h2 (by omega),qai,wL30,h0];exact yfc e18 ⟨by decide,by decide⟩)
  have qe:((SE.and (.cmp .eql (.el (some .i64) (.lvar 14) (.ivar .i64 25) 2) (.lit .i64 0)) (.and (.cmp .eql (.el (some .u64) (.lvar 14) (.ivar .i64 25) 3) (.lit .u64 0)) (.cmp .eql (.lit .i64 1) (.lit .i64 1)))).val (qaa (FT qct) zs) !=0)=((IntKind.i64.wrap (((dec (ys.getD 14 0)).getD i []).getD 2 0)==0)&&((IntKind.u64.wrap (((dec (ys.getD 14 0)).getD i []).getD 3 0)==0)&&true)):=by
   rw [qlq,qlq,zxg,qce,qce,qhj h2 (by omega),qhj h2 (by omega),qai,qai,h0];rfl
  have qf:((SE.not (.app 18 0 none (.cons (.el (some .i64) (.lvar 14) (.ivar .i64 25) 4) (.cons (.el (some .u64) (.lvar 14) (.ivar .i64 25) 5) (.cons (.lit .i64 1099511627776) .nil))))).val (qaa (FT qct) zs) !=0)=_:=
   qiz (by rw [qab,qab,qab,qad,qhj h2 (by omega),qhj h2 (by omega),qai,wL40,h0];exact yfc e18 ⟨by decide,by decide⟩)
  refine ⟨[],q2N.map (SE.val (qaa (FT qct) zs)),q2Y.map (SE.val (qaa (FT qct) zs)),?_,fun q=>⟨(show (SE.lvar 14).val (qaa (FT qct) zs)=_ from lvar_at).trans h0,?_,qcu (k:=1) h2 (by omega)⟩,fun _=>trivial,fun _=>trivial⟩
  ·rw [q2Q,hg,qa,qb,qc,qd,qe,qf,yfz];rfl
  ·show IntKind.i64.wrap ((SE.ivar .i64 24).val (qaa (FT qct) zs))=_
   rw [i1,h1];exact wn
 ·show IntKind.i64.wrap ((SE.ivar .i64 24).val (qaa (FT qct) ys))=_
  rw [i1,h24,wn,wn]
noncomputable def zfm (l:Int):Nat→Int
 |0=>0
 |i+1=>IntKind.i64.wrap (((dec l).getD i []).getD 0 0)
theorem qq4 (l:Int):∀i,IntKind.i64.wrap (zfm l i)=zfm l i
 |0=>rfl
 |i+1=>qaq _ _
noncomputable def yhx (la t:Int) (el:List Int):Bool:=
 !(decide (la≤IntKind.i64.wrap (el.getD 0 0))&&decide (IntKind.i64.wrap (el.getD 0 0)≤t))||
 (!(decide (1≤IntKind.i64.wrap (el.getD 1 0))&&decide (IntKind.i64.wrap (el.getD 1 0)≤8))||
 (!(decide (-1≤IntKind.i64.wrap (el.getD 2 0))&&decide (IntKind.i64.wrap (el.getD 2 0)≤65535))||
 !(decide (-1≤IntKind.i64.wrap (el.getD 3 0))&&decide (IntKind.i64.wrap (el.getD 3 0)≤65535))))
noncomputable def qxg (l t:Int) (i:Nat):Bool:=yhx (zfm l i) t ((dec l).getD i [])
theorem ww1:IntKind.i64.wrap 1=1:=rfl
theorem ww8:IntKind.i64.wrap 8=8:=rfl
theorem zph:IntKind.i64.wrap 65535=65535:=rfl
theorem it2 {F:Nat→List Int→List Int} {ys:List Int} {j:Nat}:(SE.ivar .i64 j).val (qaa F ys)=IntKind.i64.wrap (ys.getD j 0):=qbz
theorem zpt {α:Type} (a b c d:Bool) (x y:α):(bif a then x else (bif b then x else (bif c then x else (bif d then x else y))))=bif (a||(b||(c||d))) then x else y:=by cases a<;>cases b<;>cases c<;>cases d<;>rfl
def meN2:List SE:=[(.lvar 0),(.ivar .i64 1),(.el (some .i64) (.lvar 0) (.ivar .i64 3) 0),(.bin .add .i64 (.ivar .i64 3) (.lit .i64 1))]
def meY2:List SE:=[(.lvar 0)]
theorem meQ (E:Env):meT.get E=bif (SE.cmp .lss (.ivar .i64 3) (.len (.lvar 0))).val E !=0 then (bif (SE.not (.app 49 0 none (.cons (.el (some .i64) (.lvar 0) (.ivar .i64 3) 0) (.cons (.ivar .i64 2) (.cons (.ivar .i64 1) .nil))))).val E !=0 then (some 0,[]) else (bif (SE.not (.app 49 0 none (.cons (.el (some .i64) (.lvar 0) (.ivar .i64 3) 1) (.cons (.lit .i64 1) (.cons (.lit .i64 8) .nil))))).val E !=0 then (some 0,[]) else (bif (SE.not (.app 49 0 none (.cons (.el (some .i64) (.lvar 0) (.ivar .i64 3) 2) (.cons (.lit .i64 (-1)) (.cons (.lit .i64 65535) .nil))))).val E !=0 then (some 0,[]) else (bif (SE.not (.app 49 0 none (.cons (.el (some .i64) (.lvar 0) (.ivar .i64 3) 3) (.cons (.lit .i64 (-1)) (.cons (.lit .i64 65535) .nil))))).val E !=0 then (some 0,[]) else (none,meN2.map (SE.val E)))))) else (some 1,meY2.map (SE.val E)):=rfl
theorem z8n (a t:Int) (hn:(dec a).length≤1000000):(meG (FT qcj) [a,t]).getD 0 0=(((if (List.range (dec a).length).any (qxg a (IntKind.i64.wrap t)) then 0 else 1):Nat):Int):=by
 have hF:FT qcj 49=FT qem 49:=qbt 21 (by kernel_rfl) (by kernel_rfl)
 have it:∀ys:List Int,(SE.ivar .i64 1).val (qaa (FT qcj) ys)=IntKind.i64.wrap (ys.getD 1 0):=fun ys=>qbz
 have il:∀ys:List Int,(SE.ivar .i64 2).val (qaa (FT qcj) ys)=IntKind.i64.wrap (ys.getD 2 0):=fun ys=>qbz
 have:=qn1 (T:=meT) (F:=FT qcj) (bad:=qxg a (IntKind.i64.wrap t)) (eb:=0) (eg:=1) (n:=(dec a).length) (J:=fun i zs=>zs.getD 0 0=a∧IntKind.i64.wrap (zs.getD 1 0)=IntKind.i64.wrap t∧zs.getD 2 0=zfm a i∧zs.getD 3 0=(i:Int)) (PZ:=fun _=>True) (PY:=fun _=>True) (fun i zs hi hj=> ?_) (I:=meI) (U:=meU) (xs:=[a,t]) rfl ⟨(show (SE.lvar 0).val (qaa (FT qcj) ([a,t]))=_ from lvar_at),?_,?_,?_⟩
 ·obtain ⟨zs,h,_,_⟩:=this
  show (qfv meI (fun _=>meT) meU (FT qcj) ([a,t])).getD 0 0=_
  rw [h];rfl
 ·obtain ⟨h0,h1,h2,h3⟩:=hj
  have hg:((SE.cmp .lss (.ivar .i64 3) (.len (.lvar 0))).val (qaa (FT qcj) zs) !=0)=decide (i<(dec a).length):=by rw [qg7 h3 (by omega) (by rw [h0];exact hn),h0]
  have qa:((SE.not (.app 49 0 none (.cons (.el (some .i64) (.lvar 0) (.ivar .i64 3) 0) (.cons (.ivar .i64 2) (.cons (.ivar .i64 1) .nil))))).val (qaa (FT qcj) zs) !=0)=_:=
   qiz (by rw [qab,qab,qab,qad,qhj h3 (by omega),il,it,h0,h1,h2,qq4];exact qx4 hF (qq4 _ _) (qaq _ _))
  have qb:((SE.not (.app 49 0 none (.cons (.el (some .i64) (.lvar 0) (.ivar .i64 3) 1) (.cons (.lit .i64 1) (.cons (.lit .i64 8) .nil))))).val (qaa (FT qcj) zs) !=0)=_:=
   qiz (by rw [qab,qab,qab,qad,qhj h3 (by omega),qai,qai,ww1,ww8,h0];exact qx4 hF ww1 ww8)
  have qc:((SE.not (.app 49 0 none (.cons (.el (some .i64) (.lvar 0) (.ivar .i64 3) 2) (.cons (.lit .i64 (-1)) (.cons (.lit .i64 65535) .nil))))).val (qaa (FT qcj) zs) !=0)=_:=
   qiz (by rw [qab,qab,qab,qad,qhj h3 (by omega),qai,qai,mm1,zph,h0];exact qx4 hF mm1 zph)
  have qd:((SE.not (.app 49 0 none (.cons (.el (some .i64) (.lvar 0) (.ivar .i64 3) 3) (.cons (.lit .i64 (-1)) (.cons (.lit .i64 65535) .nil))))).val (qaa (FT qcj) zs) !=0)=_:=
   qiz (by rw [qab,qab,qab,qad,qhj h3 (by omega),qai,qai,mm1,zph,h0];exact qx4 hF mm1 zph)
  refine ⟨[],meN2.map (SE.val (qaa (FT qcj) zs)),meY2.map (SE.val (qaa (FT qcj) zs)),?_,fun q=>⟨(show (SE.lvar 0).val (qaa (FT qcj) zs)=_ from lvar_at).trans h0,?_,?_,qcu (k:=1) h3 (by omega)⟩,fun _=>trivial,fun _=>trivial⟩
  ·rw [meQ,hg,qa,qb,qc,qd,zpt];rfl
  ·show IntKind.i64.wrap ((SE.ivar .i64 1).val (qaa (FT qcj) zs))=_
   rw [it,h1];exact qaq _ _
  ·show (SE.el (some .i64) (.lvar 0) (.ivar .i64 3) 0).val (qaa (FT qcj) zs)=_
   rw [qhj h3 (by omega),h0];rfl
 ·show IntKind.i64.wrap ((SE.ivar .i64 1).val (qaa (FT qcj) ([a,t])))=_
  rw [it2 (F:=FT qcj) (j:=1)];exact qaq _ _
 ·show (SE.lit .i64 0).val (qaa (FT qcj) ([a,t]))=_
  rw [qai];rfl
 ·show (SE.lit .i64 0).val (qaa (FT qcj) ([a,t]))=_
  rw [qai];rfl
def q4N2:List SE:=[(.ivar .i64 0),(.ivar .i64 1),(.ivar .u64 2),(.ivar .i64 3),(.ivar .u64 4),(.ivar .i64 5),(.ivar .u64 6),(.ivar .i64 7),(.ivar .u64 8),(.ivar .i64 9),(.ivar .u64 10),(.ivar .i64 11),(.ivar .i64 12),(.lvar 13),(.lvar 14),(.lvar 15),(.lvar 16),(.ivar .i64 17),(.ivar .u64 18),(.ivar .i64 19),(.ivar .u64 20),(.ivar .i64 21),(.ivar .u64 22),(.lvar 23),(.el (some .i64) (.lvar 23) (.ivar .i64 25) 0),(.bin .add .i64 (.ivar .i64 25) (.lit .i64 1))]
def q4Y2:List SE:=[(.ivar .i64 0),(.ivar .i64 1),(.ivar .u64 2),(.ivar .i64 3),(.ivar .u64 4),(.ivar .i64 5),(.ivar .u64 6),(.ivar .i64 7),(.ivar .u64 8),(.ivar .i64 9),(.ivar .u64 10),(.ivar .i64 11),(.ivar .i64 12),(.lvar 13),(.lvar 14),(.lvar 15),(.lvar 16),(.ivar .i64 17),(.ivar .u64 18),(.ivar .i64 19),(.ivar .u64 20),(.ivar .i64 21),(.ivar .u64 22),(.lvar 23)]
theorem q4Q (E:Env):q4T.get E=bif (SE.cmp .lss (.ivar .i64 25) (.len (.lvar 23))).val E !=0 then (bif (SE.not (.app 17 0 none (.cons (.el (some .i64) (.lvar 23) (.ivar .i64 25) 0) (.cons (.ivar .i64 24) (.cons (.ivar .i64 0) .nil))))).val E !=0 then (some 0,[]) else (bif (SE.not (.app 17 0 none (.cons (.el (some .i64) (.lvar 23) (.ivar .i64 25) 1) (.cons (.lit .i64 1) (.cons (.lit .i64 8) .nil))))).val E !=0 then (some 0,[]) else (bif (SE.not (.app 17 0 none (.cons (.el (some .i64) (.lvar 23) (.ivar .i64 25) 2) (.cons (.lit .i64 (-1)) (.cons (.lit .i64 65535) .nil))))).val E !=0 then (some 0,[]) else (bif (SE.not (.app 17 0 none (.cons (.el (some .i64) (.lvar 23) (.ivar .i64 25) 3) (.cons (.lit .i64 (-1)) (.cons (.lit .i64 65535) .nil))))).val E !=0 then (some 0,[]) else (none,q4N2.map (SE.val E)))))) else (some 1,q4Y2.map (SE.val E)):=rfl
theorem yga (ys:List Int) (hn:(dec (ys.getD 23 0)).length≤1000000):(q4G (FT qco) ys).getD 0 0=(((if (List.range (dec (ys.getD 23 0)).length).any (qxg (ys.getD 23 0) (IntKind.i64.wrap (ys.getD 0 0))) then 0 else 1):Nat):Int):=by
 have hF:FT qco 17=FT qdt 17:=qbt 29 (by kernel_rfl) (by kernel_rfl)
 have it:∀ys:List Int,(SE.ivar .i64 0).val (qaa (FT qco) ys)=IntKind.i64.wrap (ys.getD 0 0):=fun ys=>qbz
 have il:∀ys:List Int,(SE.ivar .i64 24).val (qaa (FT qco) ys)=IntKind.i64.wrap (ys.getD 24 0):=fun ys=>qbz
 have:=qn1 (T:=q4T) (F:=FT qco) (bad:=qxg (ys.getD 23 0) (IntKind.i64.wrap (ys.getD 0 0))) (eb:=0) (eg:=1) (n:=(dec (ys.getD 23 0)).length) (J:=fun i zs=>zs.getD 23 0=(ys.getD 23 0)∧IntKind.i64.wrap (zs.getD 0 0)=IntKind.i64.wrap (ys.getD 0 0)∧zs.getD 24 0=zfm (ys.getD 23 0) i∧zs.getD 25 0=(i:Int)) (PZ:=fun _=>True) (PY:=fun _=>True) (fun i zs hi hj=> ?_) (I:=q4I) (U:=q4U) (xs:=ys) rfl ⟨(show (SE.lvar 23).val (qaa (FT qco) (ys))=_ from lvar_at),?_,?_,?_⟩
 ·obtain ⟨zs,h,_,_⟩:=this
  show (qfv q4I (fun _=>q4T) q4U (FT qco) (ys)).getD 0 0=_
  rw [h];rfl
 ·obtain ⟨h0,h1,h2,h3⟩:=hj
  have hg:((SE.cmp .lss (.ivar .i64 25) (.len (.lvar 23))).val (qaa (FT qco) zs) !=0)=decide (i<(dec (ys.getD 23 0)).length):=by rw [qg7 h3 (by omega) (by rw [h0];exact hn),h0]
  have qa:((SE.not (.app 17 0 none (.cons (.el (some .i64) (.lvar 23) (.ivar .i64 25) 0) (.cons (.ivar .i64 24) (.cons (.ivar .i64 0) .nil))))).val (qaa (FT qco) zs) !=0)=_:=
   qiz (by rw [qab,qab,qab,qad,qhj h3 (by omega),il,it,h0,h1,h2,qq4];exact qye hF (qq4 _ _) (qaq _ _))
  have qb:((SE.not (.app 17 0 none (.cons (.el (some .i64) (.lvar 23) (.ivar .i64 25) 1) (.cons (.lit .i64 1) (.cons (.lit .i64 8) .nil))))).val (qaa (FT qco) zs) !=0)=_:=
   qiz (by rw [qab,qab,qab,qad,qhj h3 (by omega),qai,qai,ww1,ww8,h0];exact qye hF ww1 ww8)
  have qc:((SE.not (.app 17 0 none (.cons (.el (some .i64) (.lvar 23) (.ivar .i64 25) 2) (.cons (.lit .i64 (-1)) (.cons (.lit .i64 65535) .nil))))).val (qaa (FT qco) zs) !=0)=_:=
   qiz (by rw [qab,qab,qab,qad,qhj h3 (by omega),qai,qai,mm1,zph,h0];exact qye hF mm1 zph)
  have qd:((SE.not (.app 17 0 none (.cons (.el (some .i64) (.lvar 23) (.ivar .i64 25) 3) (.cons (.lit .i64 (-1)) (.cons (.lit .i64 65535) .nil))))).val (qaa (FT qco) zs) !=0)=_:=
   qiz (by rw [qab,qab,qab,qad,qhj h3 (by omega),qai,qai,mm1,zph,h0];exact qye hF mm1 zph)
  refine ⟨[],q4N2.map (SE.val (qaa (FT qco) zs)),q4Y2.map (SE.val (qaa (FT qco) zs)),?_,fun q=>⟨(show (SE.lvar 23).val (qaa (FT qco) zs)=_ from lvar_at).trans h0,?_,?_,qcu (k:=1) h3 (by omega)⟩,fun _=>trivial,fun _=>trivial⟩
  ·rw [q4Q,hg,qa,qb,qc,qd,zpt];rfl
  ·show IntKind.i64.wrap ((SE.ivar .i64 0).val (qaa (FT qco) zs))=_
   rw [it,h1];exact qaq _ _
  ·show (SE.el (some .i64) (.lvar 23) (.ivar .i64 25) 0).val (qaa (FT qco) zs)=_
   rw [qhj h3 (by omega),h0];rfl
 ·show IntKind.i64.wrap ((SE.ivar .i64 0).val (qaa (FT qco) (ys)))=_
  rw [it2 (F:=FT qco) (j:=0)];exact qaq _ _
 ·show (SE.lit .i64 0).val (qaa (FT qco) (ys))=_
  rw [qai];rfl
 ·show (SE.lit .i64 0).val (qaa (FT qco) (ys))=_
  rw [qai];rfl
section
variable {F:Nat→List Int→List Int} {ys:List Int}
theorem qpg {j n:Nat} (h:(dec (ys.getD j 0)).length≤n) (hn:n≤1000000):((SE.cmp .gtr (.len (.lvar j)) (.lit .i64 (n:Int))).val (qaa F ys) !=0)=false:=by
 rw [qun (qby rfl (qdb (Nat.le_trans h hn))) (qd5 (by omega))];exact decide_eq_false (by omega)
theorem z9f {j n:Nat} (h:(dec (ys.getD j 0)).length≤n) (hn:n≤1000000):((SE.cmp .leq (.len (.lvar j)) (.lit .i64 (n:Int))).val (qaa F ys) !=0)=true:=by
 rw [qm9 (qby rfl (qdb (Nat.le_trans h hn))) (qd5 (by omega))];exact decide_eq_true (by omega)
theorem zp8 {i j n:Nat} (h:(dec (ys.getD i 0)).length=(dec (ys.getD j 0)).length) (hj:(dec (ys.getD j 0)).length≤n) (hn:n≤1000000):((SE.cmp .neq (.len (.lvar i)) (.len (.lvar j))).val (qaa F ys) !=0)=false:=by
 rw [qce,qby (lv:=i) h (qdb (Nat.le_trans hj hn)),qby (lv:=j) rfl (qdb (Nat.le_trans hj hn))]
 exact bne_self_eq_false _
theorem qkr {f:Nat} {zs:SE} {b:Bool} (h:(F f (zs.vals (qaa F ys))).getD 0 0=(((if b then 0 else 1):Nat):Int)):((SE.cmp .eql (.app f 0 (some .i64) zs) (.lit .i64 0)).val (qaa F ys) !=0)=b:=by
 rw [qce,qgk,h,qig];cases b<;>rfl
theorem zje:((SE.and (.cmp .eql (.ivar .i64 1) (.lit .i64 0)) (.and (.cmp .eql (.ivar .u64 2) (.lit .u64 0)) (.cmp .eql (.lit .i64 1) (.lit .i64 1)))).val (qaa F ys) !=0)=((IntKind.i64.wrap (ys.getD 1 0)==0)&&((IntKind.u64.wrap (ys.getD 2 0)==0)&&true)):=by
 rw [qlq,qlq,zxg,qce,qce,q5y,zom,qai,qai];rfl
end
structure MayC (ys:List Int):Prop where
 tick:(decide (0≤IntKind.i64.wrap (ys.getD 0 0))&&decide (IntKind.i64.wrap (ys.getD 0 0)≤1099511627776))=true
 h:inF (IntKind.i64.wrap (ys.getD 1 0)) (IntKind.u64.wrap (ys.getD 2 0)) 0 (nn 1024 0)=true
 hz:((IntKind.i64.wrap (ys.getD 1 0)==0)&&((IntKind.u64.wrap (ys.getD 2 0)==0)&&true))=false
 g:inF (IntKind.i64.wrap (ys.getD 3 0)) (IntKind.u64.wrap (ys.getD 4 0)) 0 (nn 1048576 0)=true
 eps:inF (IntKind.i64.wrap (ys.getD 5 0)) (IntKind.u64.wrap (ys.getD 6 0)) 0 (nn 65536 0)=true
 theta:inF (IntKind.i64.wrap (ys.getD 7 0)) (IntKind.u64.wrap (ys.getD 8 0)) 0 (nn 1 0)=true
 bounce:inF (IntKind.i64.wrap (ys.getD 9 0)) (IntKind.u64.wrap (ys.getD 10 0)) 0 (nn 1 0)=true
 grav:(decide (0≤IntKind.i64.wrap (ys.getD 11 0))&&decide (IntKind.i64.wrap (ys.getD 11 0)≤1))=true
 step:(decide (0≤IntKind.i64.wrap (ys.getD 12 0))&&decide (IntKind.i64.wrap (ys.getD 12 0)≤1))=true
 exm:inF (IntKind.i64.wrap (ys.getD 17 0)) (IntKind.u64.wrap (ys.getD 18 0)) 0 (nn 67108864 0)=true
 exp:(qik (IntKind.i64.wrap (ys.getD 19 0)) (IntKind.u64.wrap (ys.getD 20 0))&&qik (IntKind.i64.wrap (ys.getD 21 0)) (IntKind.u64.wrap (ys.getD 22 0)))=true
 n13:(dec (ys.getD 13 0)).length≤32
 n14:(dec (ys.getD 14 0)).length≤32
 n15:(dec (ys.getD 15 0)).length≤16
 n16:(dec (ys.getD 16 0)).length=(dec (ys.getD 13 0)).length
 n23:(dec (ys.getD 23 0)).length≤400
 rails:(List.range (dec (ys.getD 15 0)).length).any (fun i=> !zus (rlR (ys.getD 15 0) i))=false
 bodies:(List.range (dec (ys.getD 13 0)).length).any (qmv (ys.getD 13 0))=false
 places:(List.range (dec (ys.getD 16 0)).length).any (qmu (ys.getD 16 0) (dec (ys.getD 15 0)).length)=false
 tethers:(List.range (dec (ys.getD 14 0)).length).any (qs_ (ys.getD 14 0) (dec (ys.getD 13 0)).length)=false
 events:(List.range (dec (ys.getD 23 0)).length).any (qxg (ys.getD 23 0) (IntKind.i64.wrap (ys.getD 0 0)))=false
theorem fy31:FT qd_ 20031=mrG (FT qhx):=(qbt 19 (by kernel_rfl) (by kernel_rfl)).trans fm31
theorem fy61:FT qd_ 20061=q1y (FT qfx):=(qbt 19 (by kernel_rfl) (by kernel_rfl)).trans fm61
theorem fy33:FT qd_ 20033=itG (FT qci):=(qbt 19 (by kernel_rfl) (by kernel_rfl)).trans fm33
theorem fy34:FT qd_ 20034=iaG (FT qcx):=(qbt 19 (by kernel_rfl) (by kernel_rfl)).trans fm34
theorem fy22:FT qd_ 20022=meG (FT qcj):=(qbt 49 (by kernel_rfl) (by kernel_rfl)).trans (qfb (Tb:=qsr) rfl rfl)
theorem fd11:FT qbs 20011=q1G (FT qg3):=(qbt 9 (by kernel_rfl) (by kernel_rfl)).trans (qfb (Tb:=qct) rfl rfl)
theorem fd12:FT qbs 20012=q2G (FT qct):=(qbt 8 (by kernel_rfl) (by kernel_rfl)).trans (qfb (Tb:=qf0) rfl rfl)
theorem fd13:FT qbs 20013=q3G (FT qf0):=(qbt 7 (by kernel_rfl) (by kernel_rfl)).trans (qfb (Tb:=qco) rfl rfl)
theorem fd14:FT qbs 20014=q4G (FT qco):=(qbt 6 (by kernel_rfl) (by kernel_rfl)).trans (qfb (Tb:=qry) rfl rfl)
section
variable {ys:List Int}
section
variable (n13:(dec (ys.getD 13 0)).length≤32) (n14:(dec (ys.getD 14 0)).length≤32) (n15:(dec (ys.getD 15 0)).length≤16) (n16:(dec (ys.getD 16 0)).length=(dec (ys.getD 13 0)).length) (n23:(dec (ys.getD 23 0)).length≤400)
include n15 in
theorem p31:((SE.cmp .eql (.app 20031 0 (some .i64) (.cons (.lvar 15) .nil)) (.lit .i64 0)).val (qaa (FT qd_) ys) !=0)=(List.range (dec (ys.getD 15 0)).length).any (fun i=> !zus (rlR (ys.getD 15 0) i)):=by
 refine qkr ?_
 rw [qab,qad,lvar_at,fy31,q9d _ _ (by omega)]
 have:qkw (FT qhx) 40 (ys.getD 15 0)=fun i=> !zus (rlR (ys.getD 15 0) i):=by funext i;rw [rl_p]
 rw [this]
include n13 in
theorem p61:((SE.cmp .eql (.app 20061 0 (some .i64) (.cons (.lvar 13) (.cons (.lvar 13) .nil))) (.lit .i64 0)).val (qaa (FT qd_) ys) !=0)=(List.range (dec (ys.getD 13 0)).length).any (qmv (ys.getD 13 0)):=by
 refine qkr ?_
 obtain ⟨zs,e,_,_⟩:=zb4 (ys.getD 13 0) (by omega)
 rw [qab,qab,qad,lvar_at,fy61,e];rfl
include n13 in
theorem p61i (h:(List.range (dec (ys.getD 13 0)).length).any (qmv (ys.getD 13 0))=true):((SE.cmp .geq (.app 20061 1 (some .i64) (.cons (.lvar 13) (.cons (.lvar 13) .nil))) (.lit .i64 0)).val (qaa (FT qd_) ys) !=0)=true:=by
 obtain ⟨zs,e,hz,_⟩:=zb4 (ys.getD 13 0) (by omega)
 rw [qce,qgk,qab,qab,qad,lvar_at,fy61,e,qig]
 exact decide_eq_true (hz h)
include n13 n14 in
theorem p33:((SE.cmp .eql (.app 20033 0 (some .i64) (.cons (.lvar 14) (.cons (.len (.lvar 13)) .nil))) (.lit .i64 0)).val (qaa (FT qd_) ys) !=0)=(List.range (dec (ys.getD 14 0)).length).any (qs_ (ys.getD 14 0) (dec (ys.getD 13 0)).length):=by
 refine qkr ?_
 obtain ⟨zs,e,_,_⟩:=zp0 (ys.getD 14 0) (dec (ys.getD 13 0)).length (by omega) (by omega)
 rw [qab,qab,qad,lvar_at,qby rfl (qdb (by omega)),fy33,e];rfl
include n13 n14 in
theorem p33i (h:(List.range (dec (ys.getD 14 0)).length).any (qs_ (ys.getD 14 0) (dec (ys.getD 13 0)).length)=true):((SE.cmp .geq (.app 20033 1 (some .i64) (.cons (.lvar 14) (.cons (.len (.lvar 13)) .nil))) (.lit .i64 0)).val (qaa (FT qd_) ys) !=0)=true:=by
 obtain ⟨zs,e,hz,_⟩:=zp0 (ys.getD 14 0) (dec (ys.getD 13 0)).length (by omega) (by omega)
 rw [qce,qgk,qab,qab,qad,lvar_at,qby rfl (qdb (by omega)),fy33,e,qig]
 exact decide_eq_true (hz h)
include n13 n15 n16 in
theorem p34:((SE.cmp .eql (.app 20034 0 (some .i64) (.cons (.lvar 16) (.cons (.len (.lvar 15)) .nil))) (.lit .i64 0)).val (qaa (FT qd_) ys) !=0)=(List.range (dec (ys.getD 16 0)).length).any (qmu (ys.getD 16 0) (dec (ys.getD 15 0)).length):=by
 refine qkr ?_
 obtain ⟨zs,e,_,_⟩:=zpi (ys.getD 16 0) (dec (ys.getD 15 0)).length (by omega) (by omega)
 rw [qab,qab,qad,lvar_at,qby rfl (qdb (by omega)),fy34,e];rfl
include n13 n15 n16 in
theorem p34i (h:(List.range (dec (ys.getD 16 0)).length).any (qmu (ys.getD 16 0) (dec (ys.getD 15 0)).length)=true):((SE.cmp .geq (.app 20034 1 (some .i64) (.cons (.lvar 16) (.cons (.len (.lvar 15)) .nil))) (.lit .i64 0)).val (qaa (FT qd_) ys) !=0)=true:=by
 obtain ⟨zs,e,hz,_⟩:=zpi (ys.getD 16 0) (dec (ys.getD 15 0)).length (by omega) (by omega)
 rw [qce,qgk,qab,qab,qad,lvar_at,qby rfl (qdb (by omega)),fy34,e,qig]
 exact decide_eq_true (hz h)
include n23 in
theorem p22:((SE.cmp .eql (.app 20022 0 (some .i64) (.cons (.lvar 23) (.cons (.ivar .i64 0) .nil))) (.lit .i64 0)).val (qaa (FT qd_) ys) !=0)=(List.range (dec (ys.getD 23 0)).length).any (qxg (ys.getD 23 0) (IntKind.i64.wrap (ys.getD 0 0))):=by
 refine qkr ?_
 rw [qab,qab,qad,lvar_at,q5y,fy22,z8n _ _ (by omega),qaq]
theorem mu13 {F:Nat→List Int→List Int}:(muA.vals (qaa F ys)).getD 13 0=ys.getD 13 0∧(muA.vals (qaa F ys)).getD 14 0=ys.getD 14 0∧(muA.vals (qaa F ys)).getD 15 0=ys.getD 15 0∧(muA.vals (qaa F ys)).getD 16 0=ys.getD 16 0∧(muA.vals (qaa F ys)).getD 23 0=ys.getD 23 0∧(muA.vals (qaa F ys)).getD 0 0=IntKind.i64.wrap (ys.getD 0 0):=by
 unfold muA
 simp only [qab,qad,List.getD_cons_succ,List.getD_cons_zero,lvar_at,q5y,and_self]
include n13 n15 n16 in
theorem d11:((SE.cmp .eql (.app 20011 0 (some .i64) muA) (.lit .i64 0)).val (qaa (FT qbs) ys) !=0)=((List.range (dec (ys.getD 13 0)).length).any (qmv (ys.getD 13 0))||(List.range (dec (ys.getD 16 0)).length).any (qmu (ys.getD 16 0) (dec (ys.getD 15 0)).length)):=by
 refine qkr ?_
 obtain ⟨e13,e14,e15,e16,e23,e0⟩:=mu13 (F:=FT qbs) (ys:=ys)
 obtain ⟨zs,e,_,_⟩:=zqa (muA.vals (qaa (FT qbs) ys)) (by rw [e13];omega) (by rw [e15];omega)
 rw [fd11,e,e13,e15,e16,n16]
 have:∀(n:Nat) (p q:Nat→Bool),(List.range n).any (fun i=>p i||q i)=((List.range n).any p||(List.range n).any q):=fun n p q=>by
  induction List.range n with
  |nil=>rfl
  |cons a l ih=>simp only [List.any_cons,ih];cases p a<;>cases q a<;>simp
 rw [this];rfl
include n13 n15 in
theorem d11n (h:((SE.cmp .eql (.app 20011 0 (some .i64) muA) (.lit .i64 0)).val (qaa (FT qbs) ys) !=0)=false):(SE.app 20011 25 (some .i64) muA).val (qaa (FT qbs) ys)=((dec (ys.getD 13 0)).length:Int):=by
 obtain ⟨e13,e14,e15,e16,e23,e0⟩:=mu13 (F:=FT qbs) (ys:=ys)
 obtain ⟨zs,e,_,hy⟩:=zqa (muA.vals (qaa (FT qbs) ys)) (by rw [e13];omega) (by rw [e15];omega)
 have hb:(List.range (dec ((muA.vals (qaa (FT qbs) ys)).getD 13 0)).length).any (fun i=>qmv ((muA.vals (qaa (FT qbs) ys)).getD 13 0) i||qmu ((muA.vals (qaa (FT qbs) ys)).getD 16 0) (dec ((muA.vals (qaa (FT qbs) ys)).getD 15 0)).length i)=false:=by
  rw [←h];exact (qkr (by rw [fd11,e];rfl)).symm
 have hy:=hy hb
 rw [qgk,fd11,e]
 show IntKind.i64.wrap (zs.getD 24 0)=_
 rw [hy,e13,IntKind.wrap_i64];omega
def q2A:SE:= .cons (.ivar .i64 0) (.cons (.ivar .i64 1) (.cons (.ivar .u64 2) (.cons (.ivar .i64 3) (.cons (.ivar .u64 4) (.cons (.ivar .i64 5) (.cons (.ivar .u64 6) (.cons (.ivar .i64 7) (.cons (.ivar .u64 8) (.cons (.ivar .i64 9) (.cons (.ivar .u64 10) (.cons (.ivar .i64 11) (.cons (.ivar .i64 12) (.cons (.lvar 13) (.cons (.lvar 14) (.cons (.lvar 15) (.cons (.lvar 16) (.cons (.ivar .i64 17) (.cons (.ivar .u64 18) (.cons (.ivar .i64 19) (.cons (.ivar .u64 20) (.cons (.ivar .i64 21) (.cons (.ivar .u64 22) (.cons (.lvar 23) (.cons (.app 20011 25 (some .i64) muA) .nil))))))))))))))))))))))))
theorem q2A_v {F:Nat→List Int→List Int}:(q2A.vals (qaa F ys)).getD 14 0=ys.getD 14 0∧(q2A.vals (qaa F ys)).getD 24 0=(SE.app 20011 25 (some .i64) muA).val (qaa F ys):=by
 unfold q2A
 simp only [qab,qad,List.getD_cons_succ,List.getD_cons_zero,lvar_at,and_self]
include n13 n14 n15 in
theorem d12 (h:((SE.cmp .eql (.app 20011 0 (some .i64) muA) (.lit .i64 0)).val (qaa (FT qbs) ys) !=0)=false):((SE.cmp .eql (.app 20012 0 (some .i64) q2A) (.lit .i64 0)).val (qaa (FT qbs) ys) !=0)=(List.range (dec (ys.getD 14 0)).length).any (qs_ (ys.getD 14 0) (dec (ys.getD 13 0)).length):=by
 refine qkr ?_
 obtain ⟨e14,e24⟩:=q2A_v (F:=FT qbs) (ys:=ys)
 rw [fd12,z41 _ (dec (ys.getD 13 0)).length (by rw [e14];omega) (by omega) (by rw [e24,d11n n13 n15 h]),e14]
include n15 in
theorem d13:((SE.cmp .eql (.app 20013 0 (some .i64) muA) (.lit .i64 0)).val (qaa (FT qbs) ys) !=0)=(List.range (dec (ys.getD 15 0)).length).any (fun i=> !zus (rlR (ys.getD 15 0) i)):=by
 refine qkr ?_
 obtain ⟨e13,e14,e15,e16,e23,e0⟩:=mu13 (F:=FT qbs) (ys:=ys)
 rw [fd13,zch _ _ (by rw [e15];omega),e15]
 have:qkw (FT qf0) 38 (ys.getD 15 0)=fun i=> !zus (rlR (ys.getD 15 0) i):=by funext i;rw [rl_d]
 rw [this]
include n23 in
theorem d14:((SE.cmp .eql (.app 20014 0 (some .i64) muA) (.lit .i64 0)).val (qaa (FT qbs) ys) !=0)=(List.range (dec (ys.getD 23 0)).length).any (qxg (ys.getD 23 0) (IntKind.i64.wrap (ys.getD 0 0))):=by
 refine qkr ?_
 obtain ⟨e13,e14,e15,e16,e23,e0⟩:=mu13 (F:=FT qbs) (ys:=ys)
 rw [fd14,yga _ (by rw [e23];omega),e23,e0,qaq]
end
theorem z70 (n13:(dec (ys.getD 13 0)).length≤32) (n14:(dec (ys.getD 14 0)).length≤32) (n15:(dec (ys.getD 15 0)).length≤16) (n16:(dec (ys.getD 16 0)).length=(dec (ys.getD 13 0)).length):∀c∈mpC,¬∀p∈c,Hol (qaa (FT qd_) ys) p:=by
 intro c hc hp
 simp only [mpC,List.mem_cons,List.not_mem_nil,or_false] at hc
 rcases hc with rfl |rfl |rfl
 ·simp only [List.forall_mem_cons,Hol] at hp
  obtain ⟨h1,h2,_⟩:=hp
  rw [p61 n13] at h1
  rw [p61i n13 h1] at h2;cases h2
 ·simp only [List.forall_mem_cons,Hol] at hp
  obtain ⟨h1,h2,_⟩:=hp
  rw [p33 n13 n14] at h1
  rw [qec,p33i n13 n14 h1] at h2;cases h2
 ·simp only [List.forall_mem_cons,Hol] at hp
  obtain ⟨h1,h2,_⟩:=hp
  rw [p34 n13 n15 n16] at h1
  rw [qec,p34i n13 n15 n16 h1] at h2;cases h2
theorem qkq {b:Bool} (h:(!b)=false):b=true:=by cases b<;>first |rfl |cases h
theorem z8v {b:Bool} (h:(!b)=true):b=false:=by cases b<;>first |rfl |cases h
theorem mp_iff:(mpT.get (qaa (FT qd_) ys)).2.getD 0 0≠0↔MayC ys:=by
 constructor
 ·intro h
  obtain ⟨n13,n14,n15,n16,n23⟩:=qx_ h
  obtain ⟨hA,_⟩:=mp_to (z70 n13 n14 n15 n16) h
  simp only [mpA,List.forall_mem_cons,Hol] at hA
  obtain ⟨a1,a2,a3,a4,a5,a6,a7,a8,a9,a10,a11,_,_,_,_,a16,a17,a18,a19,a20,_⟩:=hA
  rw [qi7 1 2 ⟨by decide,by decide⟩] at a1
  rw [qec,zje] at a2
  rw [qi7 3 4 ⟨by decide,by decide⟩] at a3
  rw [qi7 5 6 ⟨by decide,by decide⟩] at a4
  rw [qi7 7 8 ⟨by decide,by decide⟩] at a5
  rw [qqp 11 ⟨by decide,by decide⟩] at a6
  rw [qqp 0 ⟨by decide,by decide⟩] at a7
  rw [qi7 9 10 ⟨by decide,by decide⟩] at a8
  rw [qqp 12 ⟨by decide,by decide⟩] at a9
  rw [qi7 17 18 ⟨by decide,by decide⟩] at a10
  rw [qec,zn2] at a11
  rw [p31 n15] at a16
  rw [p22 n23] at a17
  rw [p61 n13] at a18
  rw [p33 n13 n14] at a19
  rw [p34 n13 n15 n16] at a20
  exact ⟨a7,a1,z8v a2,a3,a4,a5,a8,a6,a9,a10,qkq a11,n13,n14,n15,n16,n23,a16,a18,a20,a19,a17⟩
 ·intro h
  refine z05 ?_ (z9f (n:=400) h.n23 (by decide))
  simp only [mpA,List.forall_mem_cons,Hol]
  refine ⟨?_,?_,?_,?_,?_,?_,?_,?_,?_,?_,?_,qpg (n:=32) h.n13 (by decide),qpg (n:=32) h.n14 (by decide),qpg (n:=16) h.n15 (by decide),zp8 (n:=32) h.n16 h.n13 (by decide),?_,?_,?_,?_,?_,fun _ h=>by cases h⟩
  ·rw [qi7 1 2 ⟨by decide,by decide⟩];exact h.h
  ·rw [qec,zje,h.hz];rfl
  ·rw [qi7 3 4 ⟨by decide,by decide⟩];exact h.g
  ·rw [qi7 5 6 ⟨by decide,by decide⟩];exact h.eps
  ·rw [qi7 7 8 ⟨by decide,by decide⟩];exact h.theta
  ·rw [qqp 11 ⟨by decide,by decide⟩];exact h.grav
  ·rw [qqp 0 ⟨by decide,by decide⟩];exact h.tick
  ·rw [qi7 9 10 ⟨by decide,by decide⟩];exact h.bounce
  ·rw [qqp 12 ⟨by decide,by decide⟩];exact h.step
  ·rw [qi7 17 18 ⟨by decide,by decide⟩];exact h.exm
  ·rw [qec,zn2,h.exp];rfl
  ·rw [p31 h.n15];exact h.rails
  ·rw [p22 h.n23];exact h.events
  ·rw [p61 h.n13];exact h.bodies
  ·rw [p33 h.n13 h.n14];exact h.tethers
  ·rw [p34 h.n13 h.n15 h.n16];exact h.places
theorem mq_iff:(mqT.get (qaa (FT qbs) ys)).2.getD 0 0≠0↔MayC ys:=by
 constructor
 ·intro h
  have hA:=mq_to h
  simp only [mqA,List.forall_mem_cons,Hol] at hA
  obtain ⟨b1,b2,b3,b4,b5,b6,b7,b8,b9,b10,b11,b12,b13,b14,b15,b16,b17,b18,b19,b20,_⟩:=hA
  have n13:=qo1 (n:=32) (by omega) b10
  have n14:=qo1 (n:=32) (by omega) b11
  have n15:=qo1 (n:=16) (by omega) b12
  have n16:=zn9 (n:=32) (by omega) n13 b13
  have n23:=qo1 (n:=400) (by omega) b14
  rw [qec,qqx 0 ⟨by decide,by decide⟩] at b1
  rw [qec,qi6 1 2 ⟨by decide,by decide⟩] at b2
  rw [zje] at b3
  rw [qec,qi6 3 4 ⟨by decide,by decide⟩] at b4
  rw [qec,qi6 5 6 ⟨by decide,by decide⟩] at b5
  rw [qec,qi6 7 8 ⟨by decide,by decide⟩] at b6
  rw [qec,qi6 9 10 ⟨by decide,by decide⟩] at b7
  rw [qec,qqx 11 ⟨by decide,by decide⟩] at b8
  rw [qec,qqx 12 ⟨by decide,by decide⟩] at b9
  rw [qi6 17 18 ⟨by decide,by decide⟩] at b15
  rw [zok] at b16
  have c18:=(d12 n13 n14 n15 b17).symm.trans b18
  have c17:=(d11 n13 n15 n16).symm.trans b17
  have c19:=(d13 n15).symm.trans b19
  have c20:=(d14 n23).symm.trans b20
  rw [Bool.or_eq_false_iff] at c17
  exact ⟨qkq b1,qkq b2,b3,qkq b4,qkq b5,qkq b6,qkq b7,qkq b8,qkq b9,b15,b16,n13,n14,n15,n16,n23,c19,c17.1,c17.2,c18,c20⟩
 ·intro h
  have k11:((SE.cmp .eql (.app 20011 0 (some .i64) muA) (.lit .i64 0)).val (qaa (FT qbs) ys) !=0)=false:=by rw [d11 h.n13 h.n15 h.n16,h.bodies,h.places];rfl
  refine zyd ?_
  simp only [mqA,List.forall_mem_cons,Hol]
  refine ⟨?_,?_,?_,?_,?_,?_,?_,?_,?_,qpg (n:=32) h.n13 (by decide),qpg (n:=32) h.n14 (by decide),qpg (n:=16) h.n15 (by decide),zp8 (n:=32) h.n16 h.n13 (by decide),qpg (n:=400) h.n23 (by decide),?_,?_,k11,(d12 h.n13 h.n14 h.n15 k11).trans h.tethers,(d13 h.n15).trans h.rails,(d14 h.n23).trans h.events,fun _ h=>by cases h⟩
  ·rw [qec,qqx 0 ⟨by decide,by decide⟩,h.tick];rfl
  ·rw [qec,qi6 1 2 ⟨by decide,by decide⟩,h.h];rfl
  ·rw [zje];exact h.hz
  ·rw [qec,qi6 3 4 ⟨by decide,by decide⟩,h.g];rfl
  ·rw [qec,qi6 5 6 ⟨by decide,by decide⟩,h.eps];rfl
  ·rw [qec,qi6 7 8 ⟨by decide,by decide⟩,h.theta];rfl
  ·rw [qec,qi6 9 10 ⟨by decide,by decide⟩,h.bounce];rfl
  ·rw [qec,qqx 11 ⟨by decide,by decide⟩,h.grav];rfl
  ·rw [qec,qqx 12 ⟨by decide,by decide⟩,h.step];rfl
  ·rw [qi6 17 18 ⟨by decide,by decide⟩];exact h.exm
  ·rw [zok];exact h.exp
theorem zh9:(mpT.get (qaa (FT qd_) ys)).2.getD 0 0≠0↔(mqT.get (qaa (FT qbs) ys)).2.getD 0 0≠0:=mp_iff.trans mq_iff.symm
end
end Go.Proofs.YtilkebpcjklmfaaGreat.Own
