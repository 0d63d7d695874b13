/- A world turned: numbers. A world turned: what is known of numbers. A world turned: what is known of lengths and of the first things of lists. What codec.Put makes: lengths; what May says of lengths. Contracts of functions: found by program, checked by the kernel. What codec.Get takes: loops that get, as facts of terms; reasons as a list. Contracts of functions: found by program, checked by the kernel. Numbers out of their eight bytes. Rows out of their bytes. Loops of codec.each that get: what is got is a list's number. What codec.Get takes out of a world's bytes is the world. -/
import Derived.Test.YtilkebpcjklmfaaGreatWtS
import Derived.Laws.Bits64b
set_option linter.unusedVariables false
set_option linter.unusedSimpArgs false
set_option linter.unusedSectionVars false
namespace Go.Proofs.YtilkebpcjklmfaaGreat.Own
open Go Go.RowKit Go.Proofs Go.Proofs.YtilkebpcjklmfaaGreat.Plain
set_option maxRecDepth 100000
set_option maxHeartbeats 40000000
def qlf (a b:Int):Int:=if a<b then -1 else if b<a then 1 else 0
def qe_ (a0 a1 b0 b1:Int):Int:=if qlf a0 b0≠0 then qlf a0 b0 else qlf a1 b1
theorem w_i {x:Int} (h:inK (some .i64) x):IntKind.i64.wrap x=x:=h
theorem w_u {x:Int} (h:inK (some .u64) x):IntKind.u64.wrap x=x:=h
theorem qb0 (F:Nat→List Int→List Int) (xs:List Int) (j:Nat):(qaa F xs).iv j=xs.getD j 0:=rfl
theorem qhi (F:Nat→List Int→List Int) (xs:List Int) (f i:Nat) (ys:List Int):(qaa F xs).F f i ys=(F f ys).getD i 0:=rfl
theorem g126:FT qit 121=qaf zr_ (FT qsz):=by kernel_rfl
theorem g102:FT qff 103=qaf z14 (FT qit):=by kernel_rfl
theorem g127:FT qiw 122=qaf zsx (FT qny):=by kernel_rfl
theorem g103:FT qff 104=qaf zyw (FT qiw):=by kernel_rfl
theorem g83:FT qe9 82=qaf z5k (FT qff):=by kernel_rfl
theorem f126 (x:Int):FT qit 121 [x]=[0]:=by
 rw [g126];simp [qaf,zr_,ST.get,qc0,qfn,SE.val,qa8,b2i]
theorem f127 (x:Int):FT qiw 122 [x]=[0]:=by
 rw [g127];simp [qaf,zsx,ST.get,qc0,qfn,SE.val,qa8,b2i]
theorem f102 {a b:Int} (ha:inK (some .i64) a) (hb:inK (some .i64) b):FT qff 103 [a,b]=[qlf a b]:=by
 rw [g102]
 have e:∀c:Int,wrK none ((FT qit 121 [c]).getD 0 0)=0:=fun c=>by rw [f126];rfl
 simp only [qaf,z14,ST.get,SE.val,SE.vals,qa8,qas,qb0,qhi,List.getD_cons_zero,List.getD_cons_succ,w_i ha,w_i hb,e]
 unfold qlf
 by_cases h1:a<b
 ·simp [h1,qc0,qfn]
 ·by_cases h2:b<a
  ·simp [h1,h2,qc0,qfn]
  ·simp [h1,h2,qc0,qfn]
theorem f103 {a b:Int} (ha:inK (some .u64) a) (hb:inK (some .u64) b):FT qff 104 [a,b]=[qlf a b]:=by
 rw [g103]
 have e:∀c:Int,wrK none ((FT qiw 122 [c]).getD 0 0)=0:=fun c=>by rw [f127];rfl
 simp only [qaf,zyw,ST.get,SE.val,SE.vals,qa8,qas,qb0,qhi,List.getD_cons_zero,List.getD_cons_succ,w_u ha,w_u hb,e]
 unfold qlf
 by_cases h1:a<b
 ·simp [h1,qc0,qfn]
 ·by_cases h2:b<a
  ·simp [h1,h2,qc0,qfn]
  ·simp [h1,h2,qc0,qfn]
theorem qsj (a b:Int):inK (some .i64) (qlf a b):=by
 unfold qlf
 split
 ·rfl
 ·split<;>rfl
theorem f83 {a0 a1 b0 b1:Int} (h0:inK (some .i64) a0) (h1:inK (some .u64) a1) (h2:inK (some .i64) b0) (h3:inK (some .u64) b1):FT qe9 82 [a0,a1,b0,b1]=[qe_ a0 a1 b0 b1]:=by
 rw [g83]
 have z:IntKind.i64.wrap 0=0:=rfl
 have e1:wrK (some .i64) ((FT qff 103 [a0,b0]).getD 0 0)=qlf a0 b0:=by rw [f102 h0 h2];exact qsj _ _
 have e2:wrK (some .i64) ((FT qff 104 [a1,b1]).getD 0 0)=qlf a1 b1:=by rw [f103 h1 h3];exact qsj _ _
 simp only [qaf,z5k,ST.get,SE.val,SE.vals,qa8,qas,qb0,qhi,List.getD_cons_zero,List.getD_cons_succ,w_i h0,w_i h2,w_u h1,w_u h3,e1,e2,z]
 unfold qe_
 by_cases q1:qlf a0 b0=0
 ·rw [if_neg (fun h=>h q1),show (qlf a0 b0 !=0)=false by simp [q1],cond_false]
  by_cases q2:qlf a1 b1=0
  ·rw [show (qlf a1 b1 !=0)=false by simp [q2],cond_false,q2];rfl
  ·rw [show (qlf a1 b1 !=0)=true from bne_iff_ne.2 q2,cond_true]
   simp only [qc0,qfn,List.map,SE.val,SE.vals,qb0,qhi,List.getD_cons_zero,List.getD_cons_succ,w_u h1,w_u h3,e2]
 ·rw [if_pos q1,show (qlf a0 b0 !=0)=true from bne_iff_ne.2 q1,cond_true]
  simp only [qc0,qfn,List.map,SE.val,SE.vals,qb0,qhi,List.getD_cons_zero,List.getD_cons_succ,w_i h0,w_i h2,e1]
def qik (a0 a1:Int):Bool:= !(a0== -9223372036854775808&&a1==0)
theorem g99:FT qe9 99=qaf tr99 (FT qpm):=by kernel_rfl
theorem f99 {a0 a1:Int} (h0:inK (some .i64) a0) (h1:inK (some .u64) a1):FT qe9 99 [a0,a1]=[b2i (qik a0 a1)]:=by
 rw [g99]
 have w0:IntKind.i64.wrap (-9223372036854775808)= -9223372036854775808:=rfl
 have w1:IntKind.u64.wrap 0=0:=rfl
 have w2:IntKind.i64.wrap 1=1:=rfl
 simp only [qaf,tr99,ST.get,SE.val,SE.vals,qa8,qas,qb0,qhi,List.getD_cons_zero,List.getD_cons_succ,w_i h0,w_u h1,w0,w1,w2,qc0,qfn,List.map]
 unfold qik
 simp
theorem g77:FT qfk 76=qaf tr77 (FT qe9):=by kernel_rfl
theorem f77 {a0 a1 l0 l1 m0 m1:Int} (h0:inK (some .i64) a0) (h1:inK (some .u64) a1) (h2:inK (some .i64) l0) (h3:inK (some .u64) l1) (h4:inK (some .i64) m0) (h5:inK (some .u64) m1):FT qfk 76 [a0,a1,l0,l1,m0,m1]=[b2i (qik a0 a1&&(decide (0≤qe_ a0 a1 l0 l1)&&decide (qe_ a0 a1 m0 m1≤0)))]:=by
 rw [g77]
 have z:IntKind.i64.wrap 0=0:=rfl
 have c4:∀a b c d,inK (some .i64) (qe_ a b c d):=fun a b c d=>by unfold qe_;split<;>exact qsj _ _
 have e0:wrK none ((FT qe9 99 [a0,a1]).getD 0 0)=b2i (qik a0 a1):=by rw [f99 h0 h1];cases qik a0 a1<;>rfl
 have e1:wrK (some .i64) ((FT qe9 82 [a0,a1,l0,l1]).getD 0 0)=qe_ a0 a1 l0 l1:=by rw [f83 h0 h1 h2 h3];exact c4 _ _ _ _
 have e2:wrK (some .i64) ((FT qe9 82 [a0,a1,m0,m1]).getD 0 0)=qe_ a0 a1 m0 m1:=by rw [f83 h0 h1 h4 h5];exact c4 _ _ _ _
 simp only [qaf,tr77,ST.get,SE.val,SE.vals,qa8,qas,qb0,qhi,List.getD_cons_zero,List.getD_cons_succ,w_i h0,w_u h1,w_i h2,w_u h3,w_i h4,w_u h5,e0,e1,e2,z]
 cases qik a0 a1 with
 |false=>simp [qc0,qfn,b2i]
 |true=>
  by_cases q:0≤qe_ a0 a1 l0 l1
  ·rw [decide_eq_true q]
   simp only [qas,cond_true,qc0,qfn,List.map,SE.val,SE.vals,qa8,qb0,qhi,List.getD_cons_zero,List.getD_cons_succ,w_i h0,w_u h1,w_i h4,w_u h5,e2,z,Bool.true_and]
  ·simp [q,qc0,qfn,b2i]
theorem g81:FT qfk 80=qaf z8q (FT qoy):=by kernel_rfl
theorem f81 {n:Int} (h:0≤n∧n≤1152921504606846976):FT qfk 80 [n]=[n,0]:=by
 rw [g81]
 have w1:IntKind.i64.wrap n=n:=by rw [IntKind.wrap_i64];omega
 have w2:IntKind.i64.wrap (-9223372036854775807)= -9223372036854775807:=rfl
 simp only [qaf,z8q,ST.get,qc0,qfn,List.map,SE.val,qb0,List.getD_cons_zero,w1,w2,show decide ((-9223372036854775807:Int)>n)=false from decide_eq_false (by omega),cond_false]
theorem g75:FT qcn 74=qaf tr75 (FT qfk):=by kernel_rfl
theorem f75 {a0 a1 n:Int} (h0:inK (some .i64) a0) (h1:inK (some .u64) a1) (h:0≤n∧n≤1152921504606846976):FT qcn 74 [a0,a1,n]=[b2i (qik a0 a1&&(decide (0≤qe_ a0 a1 0 0)&&decide (qe_ a0 a1 n 0≤0)))]:=by
 rw [g75]
 have w1:IntKind.i64.wrap n=n:=by rw [IntKind.wrap_i64];omega
 have z:IntKind.i64.wrap 0=0:=rfl
 have u:IntKind.u64.wrap 0=0:=rfl
 simp only [qaf,tr75,ST.get,qc0,qfn,List.map,SE.val,SE.vals,qb0,qhi,List.getD_cons_zero,List.getD_cons_succ,w_i h0,w_u h1,w1,wrK,f81 h,z,u]
 rw [f77 h0 h1 (show inK (some .i64) 0 from rfl) (show inK (some .u64) 0 from rfl) (show inK (some .i64) n from w1) (show inK (some .u64) 0 from rfl),List.getD_cons_zero]
 cases (qik a0 a1&&(decide (0≤qe_ a0 a1 0 0)&&decide (qe_ a0 a1 n 0≤0)))<;>rfl
theorem qdc {F:Nat→List Int→List Int} {xs:List Int} {f i:Nat} {k:Option IntKind} {zs:SE}:(SE.app f i k zs).val (qaa F xs)=wrK k ((F f (zs.vals (qaa F xs))).getD i 0):=by
 simp only [SE.val,qhi]
theorem qfw {e:Env} {a b:SE}:((SE.cmp .eql a b).val e !=0)=(a.val e==b.val e):=by
 simp only [SE.val,qas,qa8]
theorem qig {e:Env}:(SE.lit .i64 0).val e=0:=by simp only [SE.val];rfl
section
variable (xs:List Int)
noncomputable def qnn:Int:=IntKind.u8.wrap (xs.getD 6 0)
end
theorem qmb {e:Env} {x:SE} {n:Nat} (h:(dec (x.val e)).length=n) (hn:n≤1000000):(SE.len x).val e=(n:Int):=by
 simp only [SE.val,h];rw [qcz (qdb hn)]
section
variable {xs:List Int} (hl:WtLen xs)
include hl
end
theorem qo1 {F:Nat→List Int→List Int} {ys:List Int} {j n:Nat} (hn:n≤1000000) (h:((SE.cmp .gtr (.len (.lvar j)) (.lit .i64 (n:Int))).val (qaa F ys) !=0)=false):(dec (ys.getD j 0)).length≤n:=by
 have e0:(qaa F ys).iv j=ys.getD j 0:=rfl
 simp only [SE.val,qas,qa8,e0] at h
 have h:=of_decide_eq_false h
 rw [qck (by unfold maxLen;omega)] at h
 exact qei (by omega) (by unfold maxLen;omega)
theorem zp3 {F:Nat→List Int→List Int} {ys:List Int} {j n:Nat} (hn:n≤1000000) (h:((SE.cmp .leq (.len (.lvar j)) (.lit .i64 (n:Int))).val (qaa F ys) !=0)=true):(dec (ys.getD j 0)).length≤n:=by
 have e0:(qaa F ys).iv j=ys.getD j 0:=rfl
 simp only [SE.val,qas,qa8,e0] at h
 have h:=of_decide_eq_true h
 rw [qck (by unfold maxLen;omega)] at h
 exact qei (by omega) (by unfold maxLen;omega)
theorem zn9 {F:Nat→List Int→List Int} {ys:List Int} {i j n:Nat} (hn:n≤1000000) (hj:(dec (ys.getD j 0)).length≤n) (h:((SE.cmp .neq (.len (.lvar i)) (.len (.lvar j))).val (qaa F ys) !=0)=false):(dec (ys.getD i 0)).length=(dec (ys.getD j 0)).length:=by
 have e0:(qaa F ys).iv i=ys.getD i 0:=rfl
 have e1:(qaa F ys).iv j=ys.getD j 0:=rfl
 simp only [SE.val,qas,qa8,e0,e1] at h
 rw [bne_eq_false_iff_eq] at h
 have h:sat (dec (ys.getD i 0)).length=sat (dec (ys.getD j 0)).length:=by omega
 rw [qcz (n:=(dec (ys.getD j 0)).length) (by unfold maxLen;omega)] at h
 have h2:=qei (n:=(dec (ys.getD i 0)).length) (m:=n) (by omega) (by unfold maxLen;omega)
 rw [qcz (by unfold maxLen;omega)] at h
 exact h
theorem qx_ {F:Nat→List Int→List Int} {ys:List Int} (h:(mpT.get (qaa F ys)).2.getD 0 0≠0):(dec (ys.getD 13 0)).length≤32∧(dec (ys.getD 14 0)).length≤32∧(dec (ys.getD 15 0)).length≤16∧(dec (ys.getD 16 0)).length=(dec (ys.getD 13 0)).length∧(dec (ys.getD 23 0)).length≤400:=by
 have h13:=qo1 (n:=32) (by omega) (qin (q:= .cmp .gtr (.len (.lvar 13)) (.lit .i64 32)) (v:=false) (t:=mpT) (ds:=[]) (by kernel_rfl) (fun _ h=>by cases h) h)
 refine ⟨h13,qo1 (n:=32) (by omega) (qin (q:= .cmp .gtr (.len (.lvar 14)) (.lit .i64 32)) (v:=false) (t:=mpT) (ds:=[]) (by kernel_rfl) (fun _ h=>by cases h) h),qo1 (n:=16) (by omega) (qin (q:= .cmp .gtr (.len (.lvar 15)) (.lit .i64 16)) (v:=false) (t:=mpT) (ds:=[]) (by kernel_rfl) (fun _ h=>by cases h) h),zn9 (n:=32) (by omega) h13 (qin (q:= .cmp .neq (.len (.lvar 16)) (.len (.lvar 13))) (v:=false) (t:=mpT) (ds:=[]) (by kernel_rfl) (fun _ h=>by cases h) h),zp3 (n:=400) (by omega) (qin (q:= .cmp .leq (.len (.lvar 23)) (.lit .i64 400)) (v:=true) (t:=mpT) (ds:=[]) (by kernel_rfl) (fun _ h=>by cases h) h)⟩
theorem fb91:FT qdp 20091=pbG (FT yh1):=by kernel_rfl
theorem fb92:FT qdp 20092=ptG (FT qjg):=by kernel_rfl
theorem fb93:FT qdp 20093=prG (FT qjq):=by kernel_rfl
theorem fb94:FT qdp 20094=paG (FT qjm):=by kernel_rfl
theorem fb95:FT qdp 20095=peG (FT qjj):=by kernel_rfl
theorem fb01:FT qdp 30001=qv0 mpT (FT qd_):=by kernel_rfl
theorem fb00:FT qdp 30000=fun xs=>[0,xs.getD 0 0]:=by kernel_rfl
section
variable {Tb:List Ent} {xs:List Int}
theorem putv {fs:List (Bool×Nat)} {F:Nat→List Int→List Int} {f:Nat} (hf:FT Tb f=pvG fs F) (hfs:fs≠[]) {a b c:SE} (h:(a.lst (qaa (FT Tb) xs)).length=(c.lst (qaa (FT Tb) xs)).length) (hN:(a.lst (qaa (FT Tb) xs)).length≤400):
  (SE.lap f 2 (.cons a (.cons b (.cons c .nil)))).lst (qaa (FT Tb) xs)=b.lst (qaa (FT Tb) xs)++qd1 fs (c.lst (qaa (FT Tb) xs)):=by
 obtain ⟨y,h1,h2⟩:=yfp (fs:=fs) (F:=F) hfs (xs:=[a.val (qaa (FT Tb) xs),b.val (qaa (FT Tb) xs),c.val (qaa (FT Tb) xs)]) h hN
 have e:(SE.lap f 2 (.cons a (.cons b (.cons c .nil)))).val (qaa (FT Tb) xs)=y:=by
  rw [qcp,hf,qab,qab,qab,qad]
  rw [show pvG fs F [a.val (qaa (FT Tb) xs),b.val (qaa (FT Tb) xs),c.val (qaa (FT Tb) xs)]=_ from h1];rfl
 show dec _=_
 rw [e];exact h2
theorem putw {fs:List (Bool×Nat)} {F:Nat→List Int→List Int} {f:Nat} (hf:FT Tb f=pwG fs F) (hfs:fs≠[]) {a b:SE} (hN:(a.lst (qaa (FT Tb) xs)).length≤400):
  (SE.lap f 2 (.cons a (.cons b .nil))).lst (qaa (FT Tb) xs)=b.lst (qaa (FT Tb) xs)++qd1 fs (a.lst (qaa (FT Tb) xs)):=by
 obtain ⟨y,h1,h2⟩:=ye2 (fs:=fs) (F:=F) hfs (xs:=[a.val (qaa (FT Tb) xs),b.val (qaa (FT Tb) xs)]) hN
 have e:(SE.lap f 2 (.cons a (.cons b .nil))).val (qaa (FT Tb) xs)=y:=by
  rw [qcp,hf,qab,qab,qad]
  rw [show pwG fs F [a.val (qaa (FT Tb) xs),b.val (qaa (FT Tb) xs)]=_ from h1];rfl
 show dec _=_
 rw [e];exact h2
end
theorem q09 (e:Env) (x:SE):((w8 x).lst e).length=8:=by rw [qnh,qjs]
theorem zsj (e:Env):((SE.lbs [80,82,71,49]).lst e).length=4:=by simp only [SE.lst,SE.val,qan,List.length_map,List.length_cons,List.length_nil]
theorem qkl {e:Env} {x:SE} {n m:Nat} (h:(x.lst e).length=m) (hmn:m≤n) (hn:n≤1000000):((SE.cmp .leq (.len x) (.lit .i64 (n:Int))).val e !=0)=true:=by
 rw [qce,qai,qck (by unfold maxLen;omega),qmb (n:=m) h (by omega)]
 exact decide_eq_true (by omega)
theorem leq_0 {e:Env} {x:SE} {m:Nat} (h:(x.lst e).length=m) (hmn:0<m) (hn:m≤1000000):((SE.cmp .leq (.len x) (.lit .i64 0)).val e !=0)=false:=by
 rw [qce,qai,qmb (n:=m) h (by omega)]
 exact decide_eq_false (by show ¬_≤IntKind.i64.wrap 0;rw [show IntKind.i64.wrap 0=0 from rfl];omega)
end Go.Proofs.YtilkebpcjklmfaaGreat.Own
namespace Go.Proofs.YtilkebpcjklmfaaGreat.Own
open Go Go.RowKit Go.Proofs
set_option maxRecDepth 100000
set_option maxHeartbeats 40000000
abbrev Iu:SE:=.lbs [80,82,71,49]
def muV0:SE:=.lcat (.lcat (.lcat (.lcat (.lcat (.lcat (.lcat (.lcat (.lcat (.lcat (.lcat (.lcat (.lcat (.lcat Iu (w8 DR)) (w8 (.conv .u64 Af))) (w8 Am)) (w8 (.conv .u64 AA))) (w8 As)) (w8 (.conv .u64 Aq))) (w8 AN)) (w8 (.conv .u64 AK))) (w8 AO)) (w8 (.conv .u64 AB))) (w8 AP)) (w8 (.conv .u64 Ay))) (w8 (.conv .u64 AH))) (w8 (.conv .u64 Bn))
def muV1:SE:=.lap 20091 2 (.cons Ag (.cons muV0 (.cons Ag .nil)))
def muV2:SE:=.lcat muV1 (w8 (.conv .u64 BS))
def muV3:SE:=.lap 20092 2 (.cons Au (.cons muV2 .nil))
def muV4:SE:=.lcat muV3 (w8 (.conv .u64 BG))
def muV5:SE:=.lap 20093 2 (.cons Ao (.cons muV4 .nil))
def muV6:SE:=.lap 20094 2 (.cons AF (.cons muV5 .nil))
def muV7:SE:=.len muV6
def muV8:SE:=.lcat (.lcat (.lcat (.lcat (.lcat (.lcat (.lcat muV6 (w8 (.conv .u64 AQ))) (w8 AR)) (w8 (.conv .u64 AJ))) (w8 AS)) (w8 (.conv .u64 AU))) (w8 AV)) (w8 (.conv .u64 BT))
def muV9:SE:=.lap 20095 2 (.cons Ax (.cons muV8 .nil))
def z9s:SE:=.len muV9
def muT0:RT:=.know (.cmp .leq z9s Aa) false (.out 0 [(.lap 30000 1 (.cons muV9 .nil))])
def muT1:RT:=.know (.cmp .leq z9s AC) true muT0
def muT2:RT:=.know (.cmp .leq (.len muV8) B9) true muT1
def muT3:RT:=.know Is true muT2
abbrev EL:SE:=.lit .i64 100000
def muT4:RT:=.know (.cmp .leq muV7 EL) true muT3
def muT5:RT:=.know (.cmp .leq muV7 AC) true muT4
def muT6:RT:=.know (.cmp .leq (.len muV5) B9) true muT5
def muT7:RT:=.know (.cmp .leq BO BF) true muT6
def muT8:RT:=.know (.cmp .leq (.len muV4) B9) true muT7
def muT9:RT:=.know (.cmp .leq BG BF) true muT8
def muT10:RT:=.know (.cmp .leq (.len muV3) AC) true muT9
def muT11:RT:=.know (.cmp .leq (.len muV2) B9) true muT10
def muT12:RT:=.know (.cmp .leq BS BF) true muT11
def muT13:RT:=.know (.cmp .leq (.len muV1) AC) true muT12
def muT14:RT:=.know (.cmp .leq (.len muV0) B9) true muT13
def muT15:RT:=.know (.cmp .leq Bn BF) true muT14
def muT:RT:=.ask (.not (.app 30001 1 none CQ)) (.out 0 [(.lbs [])]) muT15
def muA:SE:=.cons Ah It
def muY:FEnt:={f:=8,num:=30004,nx:=5,A:=[EJ],M:=[],F:=Jz,ny:=0,R:=[(.one (.sts Ab))],N:=[],lv:=[(0,13),(1,14),(2,15),(3,16),(4,23)],sm:=[],pre:=[]}
theorem zpg (xs:List Int) (h:(mpT.get (qaa (FT qd_) (muA.vals (qaa (FT qdp) xs)))).2.getD 0 0≠0):∀E,E=qaa (FT qdp) xs→
  (dec (xs.getD 13 0)).length≤32∧(dec (xs.getD 14 0)).length≤32∧(dec (xs.getD 15 0)).length≤16∧(dec (xs.getD 16 0)).length≤32∧(dec (xs.getD 23 0)).length≤400∧
  muV1.lst E=muV0.lst E++qd1 pbfs (dec (xs.getD 13 0))∧muV3.lst E=muV2.lst E++qd1 ptfs (dec (xs.getD 14 0))∧muV5.lst E=muV4.lst E++qd1 prfs (dec (xs.getD 15 0))∧muV6.lst E=muV5.lst E++qd1 pafs (dec (xs.getD 16 0))∧muV9.lst E=muV8.lst E++qd1 pefs (dec (xs.getD 23 0))∧
  (muV0.lst E).length=116∧(muV2.lst E).length=(muV1.lst E).length+8∧(muV4.lst E).length=(muV3.lst E).length+8∧(muV8.lst E).length=(muV6.lst E).length+56:=by
 intro E hE
 obtain ⟨h13,h14,h15,h16,h23⟩:=qx_ h
 have vl:∀j,(SE.lvar j).lst (qaa (FT qdp) xs)=dec (xs.getD j 0):=fun j=>by simp only [SE.lst,SE.val];rfl
 have a13:(dec (xs.getD 13 0)).length≤32:=h13
 have a14:(dec (xs.getD 14 0)).length≤32:=h14
 have a15:(dec (xs.getD 15 0)).length≤16:=h15
 have a16:(dec (xs.getD 16 0)).length=(dec (xs.getD 13 0)).length:=h16
 have a23:(dec (xs.getD 23 0)).length≤400:=h23
 subst hE
 refine ⟨a13,a14,a15,by omega,a23,?_,?_,?_,?_,?_,?_,?_,?_,?_⟩
 ·have:=putv (xs:=xs) fb91 (by simp [pbfs]) (a:= .lvar 13) (b:=muV0) (c:= .lvar 13) rfl (by rw [vl];omega)
  rw [vl] at this;exact this
 ·have:=putw (xs:=xs) fb92 (by simp [ptfs]) (a:= .lvar 14) (b:=muV2) (by rw [vl];omega)
  rw [vl] at this;exact this
 ·have:=putw (xs:=xs) fb93 (by simp [prfs]) (a:= .lvar 15) (b:=muV4) (by rw [vl];omega)
  rw [vl] at this;exact this
 ·have:=putw (xs:=xs) fb94 (by simp [pafs]) (a:= .lvar 16) (b:=muV5) (by rw [vl];omega)
  rw [vl] at this;exact this
 ·have:=putw (xs:=xs) fb95 (by simp [pefs]) (a:= .lvar 23) (b:=muV8) (by rw [vl];omega)
  rw [vl] at this;exact this
 ·unfold muV0;simp only [qc3,List.length_append,q09,zsj]
 ·unfold muV2;simp only [qc3,List.length_append,q09]
 ·unfold muV4;simp only [qc3,List.length_append,q09]
 ·unfold muV8;simp only [qc3,List.length_append,q09]
theorem z9x (xs:List Int) (hp:PreF muY (FT qdp) xs):muT.ok (qaa (FT qdp) xs):=by
 refine ⟨fun _=>trivial,fun h=> ?_⟩
 have h:(mpT.get (qaa (FT qd_) (muA.vals (qaa (FT qdp) xs)))).2.getD 0 0≠0:=by
  rw [qec] at h
  have h:((SE.app 30001 1 none muA).val (qaa (FT qdp) xs) !=0)=true:=by
   have q:(!((SE.app 30001 1 none muA).val (qaa (FT qdp) xs) !=0))=false:=h
   simpa using q
  rw [qgk,fb01] at h
  have h2:(mpT.get (qaa (FT qd_) (muA.vals (qaa (FT qdp) xs)))).2.getD 0 0≠0:=by
   intro q
   have:((qv0 mpT (FT qd_) (muA.vals (qaa (FT qdp) xs))).getD 1 0)=0:=by unfold qv0;exact q
   rw [this] at h
   exact absurd h (by decide)
  exact h2
 obtain ⟨a13,a14,a15,a16,a23,b1,b3,b5,b6,b9,l0,l2,l4,l8⟩:=zpg xs h _ rfl
 have vl:∀j,(SE.lvar j).lst (qaa (FT qdp) xs)=dec (xs.getD j 0):=fun j=>by simp only [SE.lst,SE.val];rfl
 have l1:=congrArg List.length b1
 have l3:=congrArg List.length b3
 have l5:=congrArg List.length b5
 have l6:=congrArg List.length b6
 have l9:=congrArg List.length b9
 rw [List.length_append,qdl,show pbfs.length=20 from rfl] at l1
 rw [List.length_append,qdl,show ptfs.length=6 from rfl] at l3
 rw [List.length_append,qdl,show prfs.length=10 from rfl] at l5
 rw [List.length_append,qdl,show pafs.length=1 from rfl] at l6
 rw [List.length_append,qdl,show pefs.length=4 from rfl] at l9
 exact ⟨qkl (n:=400) rfl (by rw [vl];omega) (by omega),qkl (n:=20000) rfl (by omega) (by omega),qkl (n:=1000000) rfl (by omega) (by omega),
  qkl (n:=400) rfl (by rw [vl];omega) (by omega),qkl (n:=20000) rfl (by omega) (by omega),qkl (n:=1000000) rfl (by omega) (by omega),
  qkl (n:=400) rfl (by rw [vl];omega) (by omega),qkl (n:=20000) rfl (by omega) (by omega),
  qkl (n:=400) rfl (by rw [vl];omega) (by omega),qkl (n:=20000) rfl (by omega) (by omega),qkl (n:=1000000) rfl (by omega) (by omega),qkl (n:=100000) rfl (by omega) (by omega),
  qkl (n:=400) rfl (by rw [vl];omega) (by omega),qkl (n:=20000) rfl (by omega) (by omega),qkl (n:=1000000) rfl (by omega) (by omega),leq_0 rfl (by omega) (by omega),trivial⟩
theorem ya7:qg1 (bW.loops zfb) qdp kNo zs1 300 muY muT []=true:=by kernel_rfl
theorem ycb:FCT Tryz.prog muY (FT qdp) (fun xs=>(muT.get (qaa (FT qdp) xs)).2):=
 qum (b:=bW.loops zfb) (Tb:=qdp) (y:=muY) (qag qbi _) (qtx) (qbj zos) zqs zqd (d:=300) (T:=muT) (by kernel_rfl) (by kernel_rfl) ya7 (fun xs hp=>z9x xs hp)
noncomputable def qs0:List Ent:=⟨30004,[],.tup [],qv0 muT,true⟩::qdp
def zah:List FEnt:=muY::zs1
theorem zmh:qcd Tryz.prog qs0:=qbw zqs rfl (by kernel_rfl)
theorem zmu:LBs Tryz.prog zfb qs0:=qao zos (by kernel_rfl)
theorem zhy:FBs Tryz.prog zah qs0:=qqh zqd (by kernel_rfl) (by kernel_rfl) (by kernel_rfl) ycb (fun _=>rfl)
noncomputable def qdw:List Ent:=qs0
def q5d:List LEnt:=zfb
def zhl:List FEnt:=zah
theorem zo3:qcd Tryz.prog qdw:=zmh
theorem zqh:LBs Tryz.prog q5d qdw:=zmu
theorem zn7:FBs Tryz.prog zhl qdw:=zhy
end Go.Proofs.YtilkebpcjklmfaaGreat.Own
namespace Go.Proofs.YtilkebpcjklmfaaGreat.Own
open Go Go.RowKit Go.Proofs Go.Proofs.YtilkebpcjklmfaaGreat.Plain
set_option maxRecDepth 100000
set_option maxHeartbeats 40000000
def HolL (E:Env):List (SE×Bool)→Prop
 |[]=>True
 |p::r=>Hol E p∧HolL E r
theorem q6y {E:Env}:∀{l:List (SE×Bool)},(∀p∈l,Hol E p)→HolL E l
 |[],_=>trivial
 |p::r,h=>⟨h p (.head _),q6y fun q hq=>h q (.tail _ hq)⟩
def AllJ (E:Env):List Ju→Prop
 |[]=>True
 |j::r=>(HolL E j.pre→(j.q.val E !=0)=j.v)∧AllJ E r
theorem AllJ.mem {E:Env}:∀{J:List Ju},AllJ E J→∀j∈J,(∀p∈j.pre,Hol E p)→(j.q.val E !=0)=j.v
 |j::r,h,k,hk,hp=>by
  rcases List.mem_cons.1 hk with rfl |hk
  ·exact h.1 (q6y hp)
  ·exact AllJ.mem h.2 k hk hp
section
variable {Tb:List Ent} {xs:List Int}
structure GetL (E:Env) (f m:Nat) (fs:List (Bool×Nat)) (a b c:SE):Prop where
 l:((SE.lap f 2 (.cons a (.cons b (.cons c .nil)))).lst E).length=(a.lst E).length
 r:((SE.lap f 3 (.cons a (.cons b (.cons c .nil)))).lst E).length≤(b.lst E).length
 d:((SE.app f 4 none (.cons a (.cons b (.cons c .nil)))).val E !=0)=true↔(c.val E≠0∨(b.lst E).length<8 * m * (a.lst E).length)
 s:((SE.app f 4 none (.cons a (.cons b (.cons c .nil)))).val E !=0)=true→c.val E=0→((SE.lap f 3 (.cons a (.cons b (.cons c .nil)))).lst E).length<8
 g:((SE.app f 4 none (.cons a (.cons b (.cons c .nil)))).val E !=0)=false→(SE.lap f 3 (.cons a (.cons b (.cons c .nil)))).lst E=(b.lst E).drop (8 * m * (a.lst E).length)∧∀j,j<(a.lst E).length→((SE.lap f 2 (.cons a (.cons b (.cons c .nil)))).lst E).getD j []=q52 ((b.lst E).drop (8 * m * j)) fs 0 ((a.lst E).getD j [])
theorem yfe {f m:Nat} {fs:List (Bool×Nat)} {F:Nat→List Int→List Int} (hf:FT Tb f=gpG fs F) (hm:fs.length=m) (hm2:m≤100) {a b c:SE} (hN:(a.lst (qaa (FT Tb) xs)).length≤1000) (hS:(b.lst (qaa (FT Tb) xs)).length≤1000000):GetL (qaa (FT Tb) xs) f m fs a b c:=by
 subst hm
 obtain ⟨y1,y2,y3,h1,h2,h3,h4,h5,h6⟩:=yb_ (fs:=fs) (F:=F) (xs:=[a.val (qaa (FT Tb) xs),b.val (qaa (FT Tb) xs),c.val (qaa (FT Tb) xs)]) hN hS hm2
 have e:FT Tb f ((SE.cons a (.cons b (.cons c .nil))).vals (qaa (FT Tb) xs))=[0,a.val (qaa (FT Tb) xs),y1,y2,b2i y3]:=by
  rw [hf,qab,qab,qab,qad];exact h1
 have e2:(SE.lap f 2 (.cons a (.cons b (.cons c .nil)))).lst (qaa (FT Tb) xs)=dec y1:=by
  show dec _=_;rw [qcp,e];rfl
 have e3:(SE.lap f 3 (.cons a (.cons b (.cons c .nil)))).lst (qaa (FT Tb) xs)=dec y2:=by
  show dec _=_;rw [qcp,e];rfl
 have e4:((SE.app f 4 none (.cons a (.cons b (.cons c .nil)))).val (qaa (FT Tb) xs) !=0)=y3:=by
  rw [qgk,e];cases y3<;>rfl
 refine ⟨by rw [e2];exact h2,by rw [e3];exact h3,by rw [e4];exact h4,fun q q2=> ?_,fun q=> ?_⟩
 ·rw [e4] at q;rw [e3];exact h5 q q2
 ·rw [e4] at q;rw [e2,e3];exact h6 q
end
section
variable {E:Env}
theorem ql9 {x:SE} {n:Nat} (hn:n≤1000000) (h:Hol E (.cmp .leq (.len x) (.lit .i64 (n:Int)),true)):(x.lst E).length≤n:=by
 have h:((SE.cmp .leq (.len x) (.lit .i64 (n:Int))).val E !=0)=true:=h
 rw [qce,qai,qck (by unfold maxLen;omega),qgn] at h
 have h:=of_decide_eq_true h
 exact qei (by omega) (by unfold maxLen;omega)
theorem zp7 {x:SE} {n:Nat} (hn:n≤1000000) (h:Hol E (.cmp .lss (.len x) (.lit .i64 (n:Int)),false)):n≤(x.lst E).length:=by
 have h:((SE.cmp .lss (.len x) (.lit .i64 (n:Int))).val E !=0)=false:=h
 rw [qce,qai,qck (by unfold maxLen;omega),qgn] at h
 have h:=of_decide_eq_false h
 have:=qm6 (x.lst E).length
 omega
theorem qhh {x:SE} {n:Nat} (hn:n≤1000000) (h:(x.lst E).length≤n):((SE.cmp .leq (.len x) (.lit .i64 (n:Int))).val E !=0)=true:=qkl rfl h hn
theorem qi9 {x y:SE} (h:(x.lst E).length=(y.lst E).length):((SE.cmp .neq (.len x) (.len y)).val E !=0)=false:=by
 rw [qce,qgn,qgn,h]
 show (_ !=_)=false
 rw [bne_eq_false_iff_eq]
theorem qz3 {n z:SE}:((SE.lrep n z).lst E).length=(n.val E).toNat:=by
 have:(SE.lrep n z).lst E=List.replicate (n.val E).toNat (z.vals E):=by simp only [SE.lst,SE.val,qan]
 rw [this,List.length_replicate]
theorem qrl {n z:SE} {m:Nat} (hm:m≤1000) (h0:Hol E (.cmp .lss n (.lit .i64 0),false)) (h1:Hol E (.cmp .gtr n (.lit .i64 (m:Int)),false)):((SE.lrep n z).lst E).length≤m:=by
 have h1:((SE.cmp .gtr n (.lit .i64 (m:Int))).val E !=0)=false:=h1
 rw [qce,qai,qck (by unfold maxLen;omega)] at h1
 have h1:=of_decide_eq_false h1
 rw [qz3];omega
theorem z4t {a z:SE} (h:(a.lst E).length≤1000):((SE.lrep (.len a) z).lst E).length=(a.lst E).length:=by
 rw [qz3,qgn,qcz (by unfold maxLen;omega)];rfl
theorem qus {x n:SE}:((SE.ldr x n).lst E).length≤(x.lst E).length:=by
 have:(SE.ldr x n).lst E=(x.lst E).drop (n.val E).toNat:=by simp only [SE.lst,SE.val,qan]
 rw [this,List.length_drop];omega
theorem zib:(SE.cmp .eql (.lit .i64 1) (.lit .i64 1)).val E=1:=by simp only [SE.val];rfl
theorem zqp:(SE.cmp .eql (.lit .i64 0) (.lit .i64 1)).val E=0:=by simp only [SE.val];rfl
end
theorem fg01:FT qdw 20101=gpG gbfs (FT qfz):=by kernel_rfl
theorem fg02:FT qdw 20102=gpG gtfs (FT qfr):=by kernel_rfl
theorem fg03:FT qdw 20103=gpG grfs (FT qd2):=by kernel_rfl
theorem fg04:FT qdw 20104=gpG gafs (FT qhu):=by kernel_rfl
theorem fg05:FT qdw 20105=gpG gefs (FT qga):=by kernel_rfl
end Go.Proofs.YtilkebpcjklmfaaGreat.Own
namespace Go.Proofs.YtilkebpcjklmfaaGreat.Own
open Go Go.RowKit Go.Proofs
set_option maxRecDepth 100000
set_option maxHeartbeats 40000000
abbrev Iv:SE:=.ldr Ab (.lit .i64 108)
abbrev EM:SE:=.conv .i64 (.wd Iv 8)
abbrev Iw:SE:=.cons Aa (.cons Aa .nil)
def mgV0:SE:=.lrep EM (.cons Aa (.cons Al (.cons Aa (.cons Al (.cons Aa (.cons Al (.cons Aa (.cons Al (.cons Aa (.cons Al (.cons Aa (.cons Al (.cons Aa (.cons Al (.cons Aa (.cons Al (.cons Aa (.cons Al Iw))))))))))))))))))
def mgV1:SE:=.len mgV0
abbrev Ix:SE:=.ldr Ab (.lit .i64 116)
def mgV2:SE:=.cons mgV0 (.cons Ix (.cons EI .nil))
def mgV3:SE:=.lap 20101 3 mgV2
def zy4:SE:=.len mgV3
def mgV5:SE:=.lrep mgV1 (.cons Aa .nil)
def mgV6:SE:=.len mgV5
def qme:SE:=.cmp .leq mgV6 Bg
abbrev CS:SE:=.cons Ap .nil
def mgV8:SE:=.cons mgV5 (.cons mgV3 CS)
def q0s:SE:=.lap 20104 3 mgV8
def zbh:SE:=.len q0s
def mgV11:SE:=.app 20101 4 none mgV2
def mgV12:SE:=.conv .i64 (.wd mgV3 8)
def mgV13:SE:=.ldr mgV3 Ae
def zdj:SE:=.cons mgV5 (.cons mgV13 CS)
def qh8:SE:=.lap 20104 3 zdj
def qx6:SE:=.len qh8
def q76:SE:=.cons mgV5 (.cons (.ldr mgV3 BC) CS)
def qia:SE:=.lap 20104 3 q76
def qxr:SE:=.len qia
abbrev Iy:SE:=.cons Aa (.cons Al .nil)
def mgV20:SE:=.lrep mgV12 (.cons Aa (.cons Aa (.cons Aa (.cons Al Iy))))
def qwv:SE:=.len mgV20
def zz9:SE:=.cons mgV20 (.cons mgV13 (.cons mgV11 .nil))
def mgV23:SE:=.lap 20102 3 zz9
def qwz:SE:=.len mgV23
def zhm:SE:=.cons mgV5 (.cons mgV23 CS)
def ql5:SE:=.lap 20104 3 zhm
def zcz:SE:=.len ql5
def mgV28:SE:=.app 20102 4 none zz9
def mgV29:SE:=.conv .i64 (.wd mgV23 8)
def mgV30:SE:=.ldr mgV23 Ae
def q9p:SE:=.cons mgV5 (.cons mgV30 CS)
def qh3:SE:=.lap 20104 3 q9p
def qw9:SE:=.len qh3
def mgV34:SE:=.lrep mgV29 (.cons Aa (.cons Aa (.cons Al (.cons Aa (.cons Al (.cons Aa (.cons Aa (.cons Aa Iy))))))))
def qx5:SE:=.len mgV34
def qts:SE:=.cons mgV34 (.cons mgV30 (.cons mgV28 .nil))
def mgV37:SE:=.lap 20103 3 qts
def z1j:SE:=.cons mgV5 (.cons mgV37 (.cons (.app 20103 4 none qts) .nil))
def mgV39:SE:=.lap 20104 3 z1j
def q4j:SE:=.len mgV39
def zhr:SE:=.ldr mgV39 Ae
def zm_:SE:=.ldr mgV39 BC
abbrev Cr:SE:=.lit .i64 24
def zny:SE:=.ldr mgV39 Cr
def zld:SE:=.ldr mgV39 Bq
abbrev Cs:SE:=.lit .i64 40
def zku:SE:=.ldr mgV39 Cs
abbrev Ct:SE:=.lit .i64 48
def mgV46:SE:=.ldr mgV39 Ct
def mgV47:SE:=.app 20104 4 none z1j
def mgV48:SE:=.conv .i64 (.wd mgV46 8)
def mgV49:SE:=.lrep mgV48 (.cons Aa (.cons Aa Iw))
def qv8:SE:=.len mgV49
def qk3:SE:=.cons mgV49 (.cons (.ldr mgV39 (.lit .i64 56)) (.cons mgV47 .nil))
def mgV52:SE:=.lap 20101 2 mgV2
def mgV53:SE:=.lap 20102 2 zz9
def mgV54:SE:=.lap 20103 2 qts
def mgV55:SE:=.lap 20104 2 z1j
def mgV56:SE:=.lap 20105 2 qk3
def mgV57:SE:=.conv .i64 (.wd mgV39 8)
def zd7:SE:=.wd zhr 8
def zdx:SE:=.conv .i64 (.wd zm_ 8)
def za2:SE:=.wd zny 8
def za0:SE:=.conv .i64 (.wd zld 8)
def q9j:SE:=.wd zku 8
def mgT4:RT:=.out 0 [Aa,Aa,Al,Aa,Al,Aa,Al,Aa,Al,Aa,Al,Aa,Aa,.lnil,.lnil,.lnil,.lnil,Aa,Al,Aa,Al,Aa,Al,.lnil,EI]
def mgT6:RT:=.out 0 [Aa,Aa,Al,Aa,Al,Aa,Al,Aa,Al,Aa,Al,Aa,Aa,.lnil,.lnil,.lnil,.lnil,Aa,Al,Aa,Al,Aa,Al,.lnil,EI]
def mgT8:RT:=.out 0 [Aa,Aa,Al,Aa,Al,Aa,Al,Aa,Al,Aa,Al,Aa,Aa,.lnil,.lnil,.lnil,.lnil,Aa,Al,Aa,Al,Aa,Al,.lnil,EI]
def z2j:RT:=.out 0 [Aa,Aa,Al,Aa,Al,Aa,Al,Aa,Al,Aa,Al,Aa,Aa,.lnil,.lnil,.lnil,.lnil,Aa,Al,Aa,Al,Aa,Al,.lnil,EI]
def zt3:RT:=.out 0 [Aa,Aa,Al,Aa,Al,Aa,Al,Aa,Al,Aa,Al,Aa,Aa,.lnil,.lnil,.lnil,.lnil,Aa,Al,Aa,Al,Aa,Al,.lnil,EI]
def z1q:RT:=.out 0 [Aa,Aa,Al,Aa,Al,Aa,Al,Aa,Al,Aa,Al,Aa,Aa,.lnil,.lnil,.lnil,.lnil,Aa,Al,Aa,Al,Aa,Al,.lnil,EI]
def zw2:RT:=.out 0 [Aa,Aa,Al,Aa,Al,Aa,Al,Aa,Al,Aa,Al,Aa,Aa,.lnil,.lnil,.lnil,.lnil,Aa,Al,Aa,Al,Aa,Al,.lnil,EI]
def zyp:RT:=.out 0 [Aa,Aa,Al,Aa,Al,Aa,Al,Aa,Al,Aa,Al,Aa,Aa,.lnil,.lnil,.lnil,.lnil,Aa,Al,Aa,Al,Aa,Al,.lnil,EI]
def zvw:RT:=.out 0 [Aa,Aa,Al,Aa,Al,Aa,Al,Aa,Al,Aa,Al,Aa,Aa,.lnil,.lnil,.lnil,.lnil,Aa,Al,Aa,Al,Aa,Al,.lnil,EI]
def zyt:RT:=.out 0 [Aa,Aa,Al,Aa,Al,Aa,Al,Aa,Al,Aa,Al,Aa,Aa,.lnil,.lnil,.lnil,.lnil,Aa,Al,Aa,Al,Aa,Al,.lnil,EI]
def z10:RT:=.out 0 [Aa,Aa,Al,Aa,Al,Aa,Al,Aa,Al,Aa,Al,Aa,Aa,.lnil,.lnil,.lnil,.lnil,Aa,Al,Aa,Al,Aa,Al,.lnil,EI]
def z0h:RT:=.out 0 [Aa,Aa,Al,Aa,Al,Aa,Al,Aa,Al,Aa,Al,Aa,Aa,.lnil,.lnil,.lnil,.lnil,Aa,Al,Aa,Al,Aa,Al,.lnil,EI]
def z3c:RT:=.out 0 [Aa,Aa,Al,Aa,Al,Aa,Al,Aa,Al,Aa,Al,Aa,Aa,.lnil,.lnil,.lnil,.lnil,Aa,Al,Aa,Al,Aa,Al,.lnil,EI]
def zzm:RT:=.out 0 [Aa,Aa,Al,Aa,Al,Aa,Al,Aa,Al,Aa,Al,Aa,Aa,.lnil,.lnil,.lnil,.lnil,Aa,Al,Aa,Al,Aa,Al,.lnil,EI]
def z0y:RT:=.out 0 [Aa,Aa,Al,Aa,Al,Aa,Al,Aa,Al,Aa,Al,Aa,Aa,.lnil,.lnil,.lnil,.lnil,Aa,Al,Aa,Al,Aa,Al,.lnil,EI]
def z06:RT:=.out 0 [Aa,Aa,Al,Aa,Al,Aa,Al,Aa,Al,Aa,Al,Aa,Aa,.lnil,.lnil,.lnil,.lnil,Aa,Al,Aa,Al,Aa,Al,.lnil,EI]
def z1z:RT:=.out 0 [Aa,Aa,Al,Aa,Al,Aa,Al,Aa,Al,Aa,Al,Aa,Aa,.lnil,.lnil,.lnil,.lnil,Aa,Al,Aa,Al,Aa,Al,.lnil,EI]
def z0a:RT:=.out 0 [Aa,Aa,Al,Aa,Al,Aa,Al,Aa,Al,Aa,Al,Aa,Aa,.lnil,.lnil,.lnil,.lnil,Aa,Al,Aa,Al,Aa,Al,.lnil,EI]
def zr1:RT:=.out 0 [Aa,Aa,Al,Aa,Al,Aa,Al,Aa,Al,Aa,Al,Aa,Aa,.lnil,.lnil,.lnil,.lnil,Aa,Al,Aa,Al,Aa,Al,.lnil,EI]
def zz1:RT:=.out 0 [Aa,Aa,Al,Aa,Al,Aa,Al,Aa,Al,Aa,Al,Aa,Aa,.lnil,.lnil,.lnil,.lnil,Aa,Al,Aa,Al,Aa,Al,.lnil,EI]
def z0p:RT:=.out 0 [Aa,Aa,Al,Aa,Al,Aa,Al,Aa,Al,Aa,Al,Aa,Aa,.lnil,.lnil,.lnil,.lnil,Aa,Al,Aa,Al,Aa,Al,.lnil,EI]
def zr3:RT:=.out 0 [Aa,Aa,Al,Aa,Al,Aa,Al,Aa,Al,Aa,Al,Aa,Aa,.lnil,.lnil,.lnil,.lnil,Aa,Al,Aa,Al,Aa,Al,.lnil,EI]
def zs_:RT:=.out 0 [Aa,Aa,Al,Aa,Al,Aa,Al,Aa,Al,Aa,Al,Aa,Aa,.lnil,.lnil,.lnil,.lnil,Aa,Al,Aa,Al,Aa,Al,.lnil,EI]
def zt0:RT:=.out 0 [Aa,Aa,Al,Aa,Al,Aa,Al,Aa,Al,Aa,Al,Aa,Aa,.lnil,.lnil,.lnil,.lnil,Aa,Al,Aa,Al,Aa,Al,.lnil,EI]
def z22:RT:=.out 0 [Aa,Aa,Al,Aa,Al,Aa,Al,Aa,Al,Aa,Al,Aa,Aa,.lnil,.lnil,.lnil,.lnil,Aa,Al,Aa,Al,Aa,Al,.lnil,EI]
abbrev Dh:SE:=.cmp .lss (.len (.ldr Ab (.lit .i64 180))) Ae
def z12:RT:=.ask Dh zt0 z22
abbrev Di:SE:=.cmp .lss (.len (.ldr Ab (.lit .i64 172))) Ae
def zru:RT:=.ask Di zs_ z12
abbrev Dj:SE:=.cmp .lss (.len (.ldr Ab (.lit .i64 164))) Ae
def zsr:RT:=.ask Dj zr3 zru
abbrev Dk:SE:=.cmp .lss (.len (.ldr Ab (.lit .i64 156))) Ae
def z3h:RT:=.ask Dk z0p zsr
abbrev Dl:SE:=.cmp .lss (.len (.ldr Ab (.lit .i64 148))) Ae
def z07:RT:=.ask Dl zz1 z3h
abbrev Dm:SE:=.cmp .lss (.len (.ldr Ab (.lit .i64 140))) Ae
def zv0:RT:=.ask Dm zr1 z07
abbrev Dn:SE:=.cmp .lss (.len (.ldr Ab (.lit .i64 132))) Ae
def zy0:RT:=.ask Dn z0a zv0
abbrev Do:SE:=.cmp .lss (.len (.ldr Ab (.lit .i64 124))) Ae
def zu8:RT:=.ask Do z1z zy0
abbrev Dp:SE:=.cmp .lss (.len Ix) Ae
def zuh:RT:=.ask Dp z06 zu8
def z20:RT:=.out 0 [Aa,Aa,Al,Aa,Al,Aa,Al,Aa,Al,Aa,Al,Aa,Aa,.lnil,.lnil,.lnil,.lnil,Aa,Al,Aa,Al,Aa,Al,.lnil,EI]
def zrq:RT:=.out 0 [Aa,Aa,Al,Aa,Al,Aa,Al,Aa,Al,Aa,Al,Aa,Aa,.lnil,.lnil,.lnil,.lnil,Aa,Al,Aa,Al,Aa,Al,.lnil,EI]
def z3m:RT:=.out 0 [Aa,Aa,Al,Aa,Al,Aa,Al,Aa,Al,Aa,Al,Aa,Aa,.lnil,.lnil,.lnil,.lnil,Aa,Al,Aa,Al,Aa,Al,.lnil,EI]
def z2x:RT:=.out 0 [Aa,Aa,Al,Aa,Al,Aa,Al,Aa,Al,Aa,Al,Aa,Aa,.lnil,.lnil,.lnil,.lnil,Aa,Al,Aa,Al,Aa,Al,.lnil,EI]
def zzy:RT:=.out 0 [Aa,Aa,Al,Aa,Al,Aa,Al,Aa,Al,Aa,Al,Aa,Aa,.lnil,.lnil,.lnil,.lnil,Aa,Al,Aa,Al,Aa,Al,.lnil,EI]
def z1x:RT:=.out 0 [Aa,Aa,Al,Aa,Al,Aa,Al,Aa,Al,Aa,Al,Aa,Aa,.lnil,.lnil,.lnil,.lnil,Aa,Al,Aa,Al,Aa,Al,.lnil,EI]
def zyb:RT:=.out 0 [Aa,Aa,Al,Aa,Al,Aa,Al,Aa,Al,Aa,Al,Aa,Aa,.lnil,.lnil,.lnil,.lnil,Aa,Al,Aa,Al,Aa,Al,.lnil,EI]
def zuk:RT:=.out 0 [Aa,Aa,Al,Aa,Al,Aa,Al,Aa,Al,Aa,Al,Aa,Aa,.lnil,.lnil,.lnil,.lnil,Aa,Al,Aa,Al,Aa,Al,.lnil,EI]
def ztr:RT:=.out 0 [Aa,Aa,Al,Aa,Al,Aa,Al,Aa,Al,Aa,Al,Aa,Aa,.lnil,.lnil,.lnil,.lnil,Aa,Al,Aa,Al,Aa,Al,.lnil,EI]
def z3a:RT:=.out 0 [Aa,Aa,Al,Aa,Al,Aa,Al,Aa,Al,Aa,Al,Aa,Aa,.lnil,.lnil,.lnil,.lnil,Aa,Al,Aa,Al,Aa,Al,.lnil,EI]
def zsn:RT:=.ask Dh ztr z3a
def z1d:RT:=.ask Di zuk zsn
def zwi:RT:=.ask Dj zyb z1d
def zsu:RT:=.ask Dk z1x zwi
def z1p:RT:=.ask Dl zzy zsu
def zva:RT:=.ask Dm z2x z1p
def zvy:RT:=.ask Dn z3m zva
def z0w:RT:=.ask Do zrq zvy
def zry:RT:=.ask Dp z20 z0w
def z2l:RT:=.out 0 [Aa,Aa,Al,Aa,Al,Aa,Al,Aa,Al,Aa,Al,Aa,Aa,.lnil,.lnil,.lnil,.lnil,Aa,Al,Aa,Al,Aa,Al,.lnil,EI]
def ztu:RT:=.out 0 [Aa,Aa,Al,Aa,Al,Aa,Al,Aa,Al,Aa,Al,Aa,Aa,.lnil,.lnil,.lnil,.lnil,Aa,Al,Aa,Al,Aa,Al,.lnil,EI]
def zrw:RT:=.out 0 [Aa,Aa,Al,Aa,Al,Aa,Al,Aa,Al,Aa,Al,Aa,Aa,.lnil,.lnil,.lnil,.lnil,Aa,Al,Aa,Al,Aa,Al,.lnil,EI]
def zyu:RT:=.out 0 [Aa,Aa,Al,Aa,Al,Aa,Al,Aa,Al,Aa,Al,Aa,Aa,.lnil,.lnil,.lnil,.lnil,Aa,Al,Aa,Al,Aa,Al,.lnil,EI]
def z2v:RT:=.out 0 [Aa,Aa,Al,Aa,Al,Aa,Al,Aa,Al,Aa,Al,Aa,Aa,.lnil,.lnil,.lnil,.lnil,Aa,Al,Aa,Al,Aa,Al,.lnil,EI]
def ztj:RT:=.out 0 [Aa,Aa,Al,Aa,Al,Aa,Al,Aa,Al,Aa,Al,Aa,Aa,.lnil,.lnil,.lnil,.lnil,Aa,Al,Aa,Al,Aa,Al,.lnil,EI]
def zrd:RT:=.out 0 [Aa,Aa,Al,Aa,Al,Aa,Al,Aa,Al,Aa,Al,Aa,Aa,.lnil,.lnil,.lnil,.lnil,Aa,Al,Aa,Al,Aa,Al,.lnil,EI]
def zwk:RT:=.out 0 [Aa,Aa,Al,Aa,Al,Aa,Al,Aa,Al,Aa,Al,Aa,Aa,.lnil,.lnil,.lnil,.lnil,Aa,Al,Aa,Al,Aa,Al,.lnil,EI]
abbrev Iz:SE:=.app 20104 4 none mgV8
def zvs:RT:=.know Iz true zwk
abbrev EN:SE:=.cmp .lss (.len (.ldr q0s Ct)) Ae
def zre:RT:=.ask EN zrd zvs
abbrev EO:SE:=.cmp .lss (.len (.ldr q0s Cs)) Ae
def zta:RT:=.ask EO ztj zre
abbrev EP:SE:=.cmp .lss (.len (.ldr q0s Bq)) Ae
def zyi:RT:=.ask EP z2v zta
abbrev EQ:SE:=.cmp .lss (.len (.ldr q0s Cr)) Ae
def zys:RT:=.ask EQ zyu zyi
abbrev ER:SE:=.cmp .lss (.len (.ldr q0s BC)) Ae
def zxh:RT:=.ask ER zrw zys
abbrev ES:SE:=.cmp .lss (.len (.ldr q0s Ae)) Ae
def z0e:RT:=.ask ES ztu zxh
abbrev ET:SE:=.cmp .lss zbh Ae
def zuw:RT:=.ask ET z2l z0e
abbrev IA:SE:=.cmp .leq zbh AC
def zu3:RT:=.know IA true zuw
def z3g:RT:=.know qme true zu3
def q7h:RT:=.out 0 [Aa,Aa,Al,Aa,Al,Aa,Al,Aa,Al,Aa,Al,Aa,Aa,.lnil,.lnil,.lnil,.lnil,Aa,Al,Aa,Al,Aa,Al,.lnil,EI]
def zd4:RT:=.out 0 [Aa,Aa,Al,Aa,Al,Aa,Al,Aa,Al,Aa,Al,Aa,Aa,.lnil,.lnil,.lnil,.lnil,Aa,Al,Aa,Al,Aa,Al,.lnil,EI]
def q9l:RT:=.out 0 [Aa,Aa,Al,Aa,Al,Aa,Al,Aa,Al,Aa,Al,Aa,Aa,.lnil,.lnil,.lnil,.lnil,Aa,Al,Aa,Al,Aa,Al,.lnil,EI]
def zgg:RT:=.out 0 [Aa,Aa,Al,Aa,Al,Aa,Al,Aa,Al,Aa,Al,Aa,Aa,.lnil,.lnil,.lnil,.lnil,Aa,Al,Aa,Al,Aa,Al,.lnil,EI]
def q68:RT:=.out 0 [Aa,Aa,Al,Aa,Al,Aa,Al,Aa,Al,Aa,Al,Aa,Aa,.lnil,.lnil,.lnil,.lnil,Aa,Al,Aa,Al,Aa,Al,.lnil,EI]
def zap:RT:=.out 0 [Aa,Aa,Al,Aa,Al,Aa,Al,Aa,Al,Aa,Al,Aa,Aa,.lnil,.lnil,.lnil,.lnil,Aa,Al,Aa,Al,Aa,Al,.lnil,EI]
def q6e:RT:=.out 0 [Aa,Aa,Al,Aa,Al,Aa,Al,Aa,Al,Aa,Al,Aa,Aa,.lnil,.lnil,.lnil,.lnil,Aa,Al,Aa,Al,Aa,Al,.lnil,EI]
def zct:RT:=.out 0 [Aa,Aa,Al,Aa,Al,Aa,Al,Aa,Al,Aa,Al,Aa,Aa,.lnil,.lnil,.lnil,.lnil,Aa,Al,Aa,Al,Aa,Al,.lnil,EI]
abbrev EU:SE:=.app 20104 4 none zdj
def zgm:RT:=.know EU true zct
abbrev Dq:SE:=.cmp .lss (.len (.ldr qh8 Ct)) Ae
def zgj:RT:=.ask Dq q6e zgm
abbrev Dr:SE:=.cmp .lss (.len (.ldr qh8 Cs)) Ae
def q6g:RT:=.ask Dr zap zgj
abbrev Ds:SE:=.cmp .lss (.len (.ldr qh8 Bq)) Ae
def q90:RT:=.ask Ds q68 q6g
abbrev Dt:SE:=.cmp .lss (.len (.ldr qh8 Cr)) Ae
def q7m:RT:=.ask Dt zgg q90
abbrev Du:SE:=.cmp .lss (.len (.ldr qh8 BC)) Ae
def q8n:RT:=.ask Du q9l q7m
abbrev Dv:SE:=.cmp .lss (.len (.ldr qh8 Ae)) Ae
def q86:RT:=.ask Dv zd4 q8n
abbrev Dw:SE:=.cmp .lss qx6 Ae
def zuq:RT:=.ask Dw q7h q86
abbrev EW:SE:=.cmp .leq qx6 AC
def z09:RT:=.know EW true zuq
def z25:RT:=.know qme true z09
def zag:RT:=.out 0 [Aa,Aa,Al,Aa,Al,Aa,Al,Aa,Al,Aa,Al,Aa,Aa,.lnil,.lnil,.lnil,.lnil,Aa,Al,Aa,Al,Aa,Al,.lnil,EI]
def q6t:RT:=.out 0 [Aa,Aa,Al,Aa,Al,Aa,Al,Aa,Al,Aa,Al,Aa,Aa,.lnil,.lnil,.lnil,.lnil,Aa,Al,Aa,Al,Aa,Al,.lnil,EI]
def zdi:RT:=.out 0 [Aa,Aa,Al,Aa,Al,Aa,Al,Aa,Al,Aa,Al,Aa,Aa,.lnil,.lnil,.lnil,.lnil,Aa,Al,Aa,Al,Aa,Al,.lnil,EI]
def q7l:RT:=.out 0 [Aa,Aa,Al,Aa,Al,Aa,Al,Aa,Al,Aa,Al,Aa,Aa,.lnil,.lnil,.lnil,.lnil,Aa,Al,Aa,Al,Aa,Al,.lnil,EI]
def zf_:RT:=.out 0 [Aa,Aa,Al,Aa,Al,Aa,Al,Aa,Al,Aa,Al,Aa,Aa,.lnil,.lnil,.lnil,.lnil,Aa,Al,Aa,Al,Aa,Al,.lnil,EI]
def zds:RT:=.out 0 [Aa,Aa,Al,Aa,Al,Aa,Al,Aa,Al,Aa,Al,Aa,Aa,.lnil,.lnil,.lnil,.lnil,Aa,Al,Aa,Al,Aa,Al,.lnil,EI]
def zff:RT:=.out 0 [Aa,Aa,Al,Aa,Al,Aa,Al,Aa,Al,Aa,Al,Aa,Aa,.lnil,.lnil,.lnil,.lnil,Aa,Al,Aa,Al,Aa,Al,.lnil,EI]
def q9i:RT:=.out 0 [Aa,Aa,Al,Aa,Al,Aa,Al,Aa,Al,Aa,Al,Aa,Aa,.lnil,.lnil,.lnil,.lnil,Aa,Al,Aa,Al,Aa,Al,.lnil,EI]
abbrev EX:SE:=.app 20104 4 none q76
def zer:RT:=.know EX true q9i
abbrev Dx:SE:=.cmp .lss (.len (.ldr qia Ct)) Ae
def q6s:RT:=.ask Dx zff zer
abbrev Dy:SE:=.cmp .lss (.len (.ldr qia Cs)) Ae
def zb7:RT:=.ask Dy zds q6s
abbrev Dz:SE:=.cmp .lss (.len (.ldr qia Bq)) Ae
def zfc:RT:=.ask Dz zf_ zb7
abbrev DA:SE:=.cmp .lss (.len (.ldr qia Cr)) Ae
def zaf:RT:=.ask DA q7l zfc
abbrev DB:SE:=.cmp .lss (.len (.ldr qia BC)) Ae
def zbw:RT:=.ask DB zdi zaf
abbrev DC:SE:=.cmp .lss (.len (.ldr qia Ae)) Ae
def zcf:RT:=.ask DC q6t zbw
abbrev DD:SE:=.cmp .lss qxr Ae
def zfw:RT:=.ask DD zag zcf
abbrev EY:SE:=.cmp .leq qxr AC
def q9y:RT:=.know EY true zfw
def q7k:RT:=.know qme true q9y
abbrev DE:SE:=.cmp .lss (.len mgV13) Ae
def zy2:RT:=.ask DE z25 q7k
def q94:RT:=.out 0 [Aa,Aa,Al,Aa,Al,Aa,Al,Aa,Al,Aa,Al,Aa,Aa,.lnil,.lnil,.lnil,.lnil,Aa,Al,Aa,Al,Aa,Al,.lnil,EI]
def zgd:RT:=.out 0 [Aa,Aa,Al,Aa,Al,Aa,Al,Aa,Al,Aa,Al,Aa,Aa,.lnil,.lnil,.lnil,.lnil,Aa,Al,Aa,Al,Aa,Al,.lnil,EI]
def q8u:RT:=.out 0 [Aa,Aa,Al,Aa,Al,Aa,Al,Aa,Al,Aa,Al,Aa,Aa,.lnil,.lnil,.lnil,.lnil,Aa,Al,Aa,Al,Aa,Al,.lnil,EI]
def q6l:RT:=.out 0 [Aa,Aa,Al,Aa,Al,Aa,Al,Aa,Al,Aa,Al,Aa,Aa,.lnil,.lnil,.lnil,.lnil,Aa,Al,Aa,Al,Aa,Al,.lnil,EI]
def zfi:RT:=.out 0 [Aa,Aa,Al,Aa,Al,Aa,Al,Aa,Al,Aa,Al,Aa,Aa,.lnil,.lnil,.lnil,.lnil,Aa,Al,Aa,Al,Aa,Al,.lnil,EI]
def ze0:RT:=.out 0 [Aa,Aa,Al,Aa,Al,Aa,Al,Aa,Al,Aa,Al,Aa,Aa,.lnil,.lnil,.lnil,.lnil,Aa,Al,Aa,Al,Aa,Al,.lnil,EI]
def q6u:RT:=.out 0 [Aa,Aa,Al,Aa,Al,Aa,Al,Aa,Al,Aa,Al,Aa,Aa,.lnil,.lnil,.lnil,.lnil,Aa,Al,Aa,Al,Aa,Al,.lnil,EI]
def q99:RT:=.out 0 [Aa,Aa,Al,Aa,Al,Aa,Al,Aa,Al,Aa,Al,Aa,Aa,.lnil,.lnil,.lnil,.lnil,Aa,Al,Aa,Al,Aa,Al,.lnil,EI]
def zfz:RT:=.know EU true q99
def zeb:RT:=.ask Dq q6u zfz
def q80:RT:=.ask Dr ze0 zeb
def zc9:RT:=.ask Ds zfi q80
def zf7:RT:=.ask Dt q6l zc9
def zeu:RT:=.ask Du q8u zf7
def zd8:RT:=.ask Dv zgd zeu
def q95:RT:=.ask Dw q94 zd8
def q9r:RT:=.know EW true q95
def zak:RT:=.know qme true q9r
def zc6:RT:=.out 0 [Aa,Aa,Al,Aa,Al,Aa,Al,Aa,Al,Aa,Al,Aa,Aa,.lnil,.lnil,.lnil,.lnil,Aa,Al,Aa,Al,Aa,Al,.lnil,EI]
def q9g:RT:=.out 0 [Aa,Aa,Al,Aa,Al,Aa,Al,Aa,Al,Aa,Al,Aa,Aa,.lnil,.lnil,.lnil,.lnil,Aa,Al,Aa,Al,Aa,Al,.lnil,EI]
def zc7:RT:=.out 0 [Aa,Aa,Al,Aa,Al,Aa,Al,Aa,Al,Aa,Al,Aa,Aa,.lnil,.lnil,.lnil,.lnil,Aa,Al,Aa,Al,Aa,Al,.lnil,EI]
def zcd:RT:=.out 0 [Aa,Aa,Al,Aa,Al,Aa,Al,Aa,Al,Aa,Al,Aa,Aa,.lnil,.lnil,.lnil,.lnil,Aa,Al,Aa,Al,Aa,Al,.lnil,EI]
def q8g:RT:=.out 0 [Aa,Aa,Al,Aa,Al,Aa,Al,Aa,Al,Aa,Al,Aa,Aa,.lnil,.lnil,.lnil,.lnil,Aa,Al,Aa,Al,Aa,Al,.lnil,EI]
def q8e:RT:=.out 0 [Aa,Aa,Al,Aa,Al,Aa,Al,Aa,Al,Aa,Al,Aa,Aa,.lnil,.lnil,.lnil,.lnil,Aa,Al,Aa,Al,Aa,Al,.lnil,EI]
def zdk:RT:=.out 0 [Aa,Aa,Al,Aa,Al,Aa,Al,Aa,Al,Aa,Al,Aa,Aa,.lnil,.lnil,.lnil,.lnil,Aa,Al,Aa,Al,Aa,Al,.lnil,EI]
def zad:RT:=.out 0 [Aa,Aa,Al,Aa,Al,Aa,Al,Aa,Al,Aa,Al,Aa,Aa,.lnil,.lnil,.lnil,.lnil,Aa,Al,Aa,Al,Aa,Al,.lnil,EI]
def q8w:RT:=.know EX true zad
def zd3:RT:=.ask Dx zdk q8w
def zbi:RT:=.ask Dy q8e zd3
def q58:RT:=.ask Dz q8g zbi
def zcq:RT:=.ask DA zcd q58
def q8p:RT:=.ask DB zc7 zcq
def zas:RT:=.ask DC q9g q8p
def zbn:RT:=.ask DD zc6 zas
def zdr:RT:=.know EY true zbn
def zdv:RT:=.know qme true zdr
def zg9:RT:=.ask DE zak zdv
def q9w:RT:=.out 0 [Aa,Aa,Al,Aa,Al,Aa,Al,Aa,Al,Aa,Al,Aa,Aa,.lnil,.lnil,.lnil,.lnil,Aa,Al,Aa,Al,Aa,Al,.lnil,EI]
def q7z:RT:=.out 0 [Aa,Aa,Al,Aa,Al,Aa,Al,Aa,Al,Aa,Al,Aa,Aa,.lnil,.lnil,.lnil,.lnil,Aa,Al,Aa,Al,Aa,Al,.lnil,EI]
def zdy:RT:=.out 0 [Aa,Aa,Al,Aa,Al,Aa,Al,Aa,Al,Aa,Al,Aa,Aa,.lnil,.lnil,.lnil,.lnil,Aa,Al,Aa,Al,Aa,Al,.lnil,EI]
def zd6:RT:=.out 0 [Aa,Aa,Al,Aa,Al,Aa,Al,Aa,Al,Aa,Al,Aa,Aa,.lnil,.lnil,.lnil,.lnil,Aa,Al,Aa,Al,Aa,Al,.lnil,EI]
def q7j:RT:=.out 0 [Aa,Aa,Al,Aa,Al,Aa,Al,Aa,Al,Aa,Al,Aa,Aa,.lnil,.lnil,.lnil,.lnil,Aa,Al,Aa,Al,Aa,Al,.lnil,EI]
def zfr:RT:=.out 0 [Aa,Aa,Al,Aa,Al,Aa,Al,Aa,Al,Aa,Al,Aa,Aa,.lnil,.lnil,.lnil,.lnil,Aa,Al,Aa,Al,Aa,Al,.lnil,EI]
def zai:RT:=.out 0 [Aa,Aa,Al,Aa,Al,Aa,Al,Aa,Al,Aa,Al,Aa,Aa,.lnil,.lnil,.lnil,.lnil,Aa,Al,Aa,Al,Aa,Al,.lnil,EI]
def q72:RT:=.out 0 [Aa,Aa,Al,Aa,Al,Aa,Al,Aa,Al,Aa,Al,Aa,Aa,.lnil,.lnil,.lnil,.lnil,Aa,Al,Aa,Al,Aa,Al,.lnil,EI]
abbrev IB:SE:=.app 20104 4 none zhm
def q6i:RT:=.know IB true q72
abbrev E0:SE:=.cmp .lss (.len (.ldr ql5 Ct)) Ae
def q70:RT:=.ask E0 zai q6i
abbrev E1:SE:=.cmp .lss (.len (.ldr ql5 Cs)) Ae
def zf2:RT:=.ask E1 zfr q70
abbrev E2:SE:=.cmp .lss (.len (.ldr ql5 Bq)) Ae
def zgw:RT:=.ask E2 q7j zf2
abbrev E3:SE:=.cmp .lss (.len (.ldr ql5 Cr)) Ae
def q6h:RT:=.ask E3 zd6 zgw
abbrev E4:SE:=.cmp .lss (.len (.ldr ql5 BC)) Ae
def zed:RT:=.ask E4 zdy q6h
abbrev E5:SE:=.cmp .lss (.len (.ldr ql5 Ae)) Ae
def zg6:RT:=.ask E5 q7z zed
abbrev E6:SE:=.cmp .lss zcz Ae
def q7g:RT:=.ask E6 q9w zg6
abbrev IC:SE:=.cmp .leq zcz AC
def q6m:RT:=.know IC true q7g
def q9m:RT:=.know qme true q6m
def zab:RT:=.out 0 [Aa,Aa,Al,Aa,Al,Aa,Al,Aa,Al,Aa,Al,Aa,Aa,.lnil,.lnil,.lnil,.lnil,Aa,Al,Aa,Al,Aa,Al,.lnil,EI]
def zcl:RT:=.out 0 [Aa,Aa,Al,Aa,Al,Aa,Al,Aa,Al,Aa,Al,Aa,Aa,.lnil,.lnil,.lnil,.lnil,Aa,Al,Aa,Al,Aa,Al,.lnil,EI]
def ze9:RT:=.out 0 [Aa,Aa,Al,Aa,Al,Aa,Al,Aa,Al,Aa,Al,Aa,Aa,.lnil,.lnil,.lnil,.lnil,Aa,Al,Aa,Al,Aa,Al,.lnil,EI]
def zgc:RT:=.out 0 [Aa,Aa,Al,Aa,Al,Aa,Al,Aa,Al,Aa,Al,Aa,Aa,.lnil,.lnil,.lnil,.lnil,Aa,Al,Aa,Al,Aa,Al,.lnil,EI]
def zfn:RT:=.out 0 [Aa,Aa,Al,Aa,Al,Aa,Al,Aa,Al,Aa,Al,Aa,Aa,.lnil,.lnil,.lnil,.lnil,Aa,Al,Aa,Al,Aa,Al,.lnil,EI]
def zb8:RT:=.out 0 [Aa,Aa,Al,Aa,Al,Aa,Al,Aa,Al,Aa,Al,Aa,Aa,.lnil,.lnil,.lnil,.lnil,Aa,Al,Aa,Al,Aa,Al,.lnil,EI]
def q6v:RT:=.out 0 [Aa,Aa,Al,Aa,Al,Aa,Al,Aa,Al,Aa,Al,Aa,Aa,.lnil,.lnil,.lnil,.lnil,Aa,Al,Aa,Al,Aa,Al,.lnil,EI]
def q7e:RT:=.out 0 [Aa,Aa,Al,Aa,Al,Aa,Al,Aa,Al,Aa,Al,Aa,Aa,.lnil,.lnil,.lnil,.lnil,Aa,Al,Aa,Al,Aa,Al,.lnil,EI]
abbrev E7:SE:=.app 20104 4 none q9p
def zbo:RT:=.know E7 true q7e
abbrev DF:SE:=.cmp .lss (.len (.ldr qh3 Ct)) Ae
def ze1:RT:=.ask DF q6v zbo
abbrev DG:SE:=.cmp .lss (.len (.ldr qh3 Cs)) Ae
def q9a:RT:=.ask DG zb8 ze1
abbrev DH:SE:=.cmp .lss (.len (.ldr qh3 Bq)) Ae
def q9c:RT:=.ask DH zfn q9a
abbrev DI:SE:=.cmp .lss (.len (.ldr qh3 Cr)) Ae
def zeg:RT:=.ask DI zgc q9c
abbrev DJ:SE:=.cmp .lss (.len (.ldr qh3 BC)) Ae
def zf1:RT:=.ask DJ ze9 zeg
abbrev DK:SE:=.cmp .lss (.len (.ldr qh3 Ae)) Ae
def q9v:RT:=.ask DK zcl zf1
abbrev DL:SE:=.cmp .lss qw9 Ae
def zbm:RT:=.ask DL zab q9v
abbrev E8:SE:=.cmp .leq qw9 AC
def zd0:RT:=.know E8 true zbm
def q6_:RT:=.know qme true zd0
def zek:RT:=.out 0 [Aa,Aa,Al,Aa,Al,Aa,Al,Aa,Al,Aa,Al,Aa,Aa,.lnil,.lnil,.lnil,.lnil,Aa,Al,Aa,Al,Aa,Al,.lnil,EI]
def zdm:RT:=.out 0 [Aa,Aa,Al,Aa,Al,Aa,Al,Aa,Al,Aa,Al,Aa,Aa,.lnil,.lnil,.lnil,.lnil,Aa,Al,Aa,Al,Aa,Al,.lnil,EI]
def q74:RT:=.out 0 [Aa,Aa,Al,Aa,Al,Aa,Al,Aa,Al,Aa,Al,Aa,Aa,.lnil,.lnil,.lnil,.lnil,Aa,Al,Aa,Al,Aa,Al,.lnil,EI]
def ze7:RT:=.out 0 [Aa,Aa,Al,Aa,Al,Aa,Al,Aa,Al,Aa,Al,Aa,Aa,.lnil,.lnil,.lnil,.lnil,Aa,Al,Aa,Al,Aa,Al,.lnil,EI]
def zaw:RT:=.out 0 [Aa,Aa,Al,Aa,Al,Aa,Al,Aa,Al,Aa,Al,Aa,Aa,.lnil,.lnil,.lnil,.lnil,Aa,Al,Aa,Al,Aa,Al,.lnil,EI]
def q8_:RT:=.out 0 [Aa,Aa,Al,Aa,Al,Aa,Al,Aa,Al,Aa,Al,Aa,Aa,.lnil,.lnil,.lnil,.lnil,Aa,Al,Aa,Al,Aa,Al,.lnil,EI]
def zfp:RT:=.out 0 [Aa,Aa,Al,Aa,Al,Aa,Al,Aa,Al,Aa,Al,Aa,Aa,.lnil,.lnil,.lnil,.lnil,Aa,Al,Aa,Al,Aa,Al,.lnil,EI]
def q6p:RT:=.out 0 [Aa,Aa,Al,Aa,Al,Aa,Al,Aa,Al,Aa,Al,Aa,Aa,.lnil,.lnil,.lnil,.lnil,Aa,Al,Aa,Al,Aa,Al,.lnil,EI]
def q7n:RT:=.know E7 true q6p
def q91:RT:=.ask DF zfp q7n
def zcm:RT:=.ask DG q8_ q91
def zg5:RT:=.ask DH zaw zcm
def zel:RT:=.ask DI ze7 zg5
def zax:RT:=.ask DJ q74 zel
def q5_:RT:=.ask DK zdm zax
def zb3:RT:=.ask DL zek q5_
def zej:RT:=.know E8 true zb3
def zd2:RT:=.know qme true zej
def q9n:RT:=.out 0 [Aa,Aa,Al,Aa,Al,Aa,Al,Aa,Al,Aa,Al,Aa,Aa,.lnil,.lnil,.lnil,.lnil,Aa,Al,Aa,Al,Aa,Al,.lnil,EI]
def zfa:RT:=.out 0 [Aa,Aa,Al,Aa,Al,Aa,Al,Aa,Al,Aa,Al,Aa,Aa,.lnil,.lnil,.lnil,.lnil,Aa,Al,Aa,Al,Aa,Al,.lnil,EI]
def q8a:RT:=.out 0 [Aa,Aa,Al,Aa,Al,Aa,Al,Aa,Al,Aa,Al,Aa,Aa,.lnil,.lnil,.lnil,.lnil,Aa,Al,Aa,Al,Aa,Al,.lnil,EI]
def zcy:RT:=.out 0 [Aa,Aa,Al,Aa,Al,Aa,Al,Aa,Al,Aa,Al,Aa,Aa,.lnil,.lnil,.lnil,.lnil,Aa,Al,Aa,Al,Aa,Al,.lnil,EI]
def zfu:RT:=.out 0 [Aa,Aa,Al,Aa,Al,Aa,Al,Aa,Al,Aa,Al,Aa,Aa,.lnil,.lnil,.lnil,.lnil,Aa,Al,Aa,Al,Aa,Al,.lnil,EI]
def zfj:RT:=.out 0 [Aa,Aa,Al,Aa,Al,Aa,Al,Aa,Al,Aa,Al,Aa,Aa,.lnil,.lnil,.lnil,.lnil,Aa,Al,Aa,Al,Aa,Al,.lnil,EI]
def zez:RT:=.out 0 [Aa,Aa,Al,Aa,Al,Aa,Al,Aa,Al,Aa,Al,Aa,Aa,.lnil,.lnil,.lnil,.lnil,Aa,Al,Aa,Al,Aa,Al,.lnil,EI]
def q89:RT:=.out 0 [Aa,Aa,Al,Aa,Al,Aa,Al,Aa,Al,Aa,Al,Aa,Aa,.lnil,.lnil,.lnil,.lnil,Aa,Al,Aa,Al,Aa,Al,.lnil,EI]
def zdl:RT:=.out 0 [Aa,Aa,Al,Aa,Al,Aa,Al,Aa,Al,Aa,Al,Aa,Aa,.lnil,.lnil,.lnil,.lnil,Aa,Al,Aa,Al,Aa,Al,.lnil,EI]
def zgb:RT:=.out 0 [Aa,Aa,Al,Aa,Al,Aa,Al,Aa,Al,Aa,Al,Aa,Aa,.lnil,.lnil,.lnil,.lnil,Aa,Al,Aa,Al,Aa,Al,.lnil,EI]
def zfq:RT:=.out 0 [Aa,Aa,Al,Aa,Al,Aa,Al,Aa,Al,Aa,Al,Aa,Aa,.lnil,.lnil,.lnil,.lnil,Aa,Al,Aa,Al,Aa,Al,.lnil,EI]
def zf3:RT:=.out 0 [Aa,Aa,Al,Aa,Al,Aa,Al,Aa,Al,Aa,Al,Aa,Aa,.lnil,.lnil,.lnil,.lnil,Aa,Al,Aa,Al,Aa,Al,.lnil,EI]
def q8q:RT:=.out 0 [Aa,Aa,Al,Aa,Al,Aa,Al,Aa,Al,Aa,Al,Aa,Aa,.lnil,.lnil,.lnil,.lnil,Aa,Al,Aa,Al,Aa,Al,.lnil,EI]
abbrev E9:SE:=.conv .i64 (.wd (.ldr Ab Bs) 8)
abbrev ID:SE:=.ldr Ab (.lit .i64 12)
abbrev IE:SE:=.conv .i64 (.wd ID 8)
abbrev IF:SE:=.ldr Ab (.lit .i64 20)
abbrev IG:SE:=.ldr Ab (.lit .i64 28)
abbrev IH:SE:=.conv .i64 (.wd IG 8)
abbrev II:SE:=.ldr Ab (.lit .i64 36)
abbrev IJ:SE:=.ldr Ab (.lit .i64 44)
abbrev IK:SE:=.conv .i64 (.wd IJ 8)
abbrev IL:SE:=.ldr Ab (.lit .i64 52)
abbrev IM:SE:=.ldr Ab (.lit .i64 60)
abbrev IP:SE:=.conv .i64 (.wd IM 8)
abbrev IQ:SE:=.ldr Ab (.lit .i64 68)
abbrev IR:SE:=.ldr Ab (.lit .i64 76)
abbrev IU:SE:=.conv .i64 (.wd IR 8)
abbrev IV:SE:=.ldr Ab (.lit .i64 84)
abbrev IW:SE:=.ldr Ab (.lit .i64 92)
abbrev IX:SE:=.conv .i64 (.wd IW 8)
abbrev IY:SE:=.ldr Ab (.lit .i64 100)
abbrev IZ:SE:=.conv .i64 (.wd IY 8)
def q9o:RT:=.out 0 [E9,IE,(.wd IF 8),IH,(.wd II 8),IK,(.wd IL 8),IP,(.wd IQ 8),IU,(.wd IV 8),IX,IZ,mgV52,mgV53,mgV54,mgV55,mgV57,zd7,zdx,za2,za0,q9j,mgV56,Ap]
abbrev I0:SE:=.cons IE (.cons (.wd IF 8) (.cons IH (.cons (.wd II 8) (.cons IK (.cons (.wd IL 8) (.cons IP (.cons (.wd IQ 8) (.cons IU (.cons (.wd IV 8) (.cons IX (.cons IZ (.cons mgV52 (.cons mgV53 (.cons mgV54 (.cons mgV55 (.cons mgV57 (.cons zd7 (.cons zdx (.cons za2 (.cons za0 (.cons q9j (.cons mgV56 .nil))))))))))))))))))))))
abbrev Fa:SE:=.not (.app 30001 1 none (.cons E9 I0))
def za3:RT:=.ask Fa q8q q9o
abbrev I1:SE:=.cmp .neq qv8 (.len mgV56)
def zau:RT:=.know I1 false za3
abbrev I2:SE:=.cmp .neq mgV6 (.len mgV55)
def zg4:RT:=.know I2 false zau
abbrev I3:SE:=.cmp .neq qx5 (.len mgV54)
def zcj:RT:=.know I3 false zg4
abbrev I4:SE:=.cmp .neq qwv (.len mgV53)
def zf9:RT:=.know I4 false zcj
abbrev I5:SE:=.cmp .neq mgV1 (.len mgV52)
def q7c:RT:=.know I5 false zf9
abbrev JA:SE:=.not (.seq (.lap 20105 3 qk3) (.lbs []))
def zb0:RT:=.ask JA zf3 q7c
abbrev Fc:SE:=.app 20105 4 none qk3
def q9z:RT:=.ask Fc zfq zb0
abbrev I6:SE:=.cmp .leq qv8 Bg
def q9_:RT:=.know I6 true q9z
abbrev Fe:SE:=.cmp .gtr mgV48 BF
def ze5:RT:=.ask Fe zgb q9_
abbrev Ff:SE:=.cmp .lss mgV48 Aa
def q88:RT:=.ask Ff zdl ze5
def q8s:RT:=.ask mgV47 q89 q88
abbrev Fg:SE:=.cmp .lss (.len mgV46) Ae
def zcw:RT:=.ask Fg zez q8s
abbrev Fh:SE:=.cmp .lss (.len zku) Ae
def q53:RT:=.ask Fh zfj zcw
abbrev Fi:SE:=.cmp .lss (.len zld) Ae
def zfv:RT:=.ask Fi zfu q53
abbrev Fj:SE:=.cmp .lss (.len zny) Ae
def zam:RT:=.ask Fj zcy zfv
abbrev Fk:SE:=.cmp .lss (.len zm_) Ae
def zc8:RT:=.ask Fk q8a zam
abbrev Fm:SE:=.cmp .lss (.len zhr) Ae
def zeh:RT:=.ask Fm zfa zc8
abbrev Fo:SE:=.cmp .lss q4j Ae
def q6n:RT:=.ask Fo q9n zeh
abbrev I7:SE:=.cmp .leq q4j AC
def zeo:RT:=.know I7 true q6n
def zac:RT:=.know qme true zeo
abbrev I8:SE:=.cmp .leq (.len mgV37) AC
def q8y:RT:=.know I8 true zac
abbrev I9:SE:=.cmp .leq qx5 Bg
def zcv:RT:=.know I9 true q8y
abbrev Fp:SE:=.cmp .gtr mgV29 BC
def q6b:RT:=.ask Fp zd2 zcv
abbrev Fq:SE:=.cmp .lss mgV29 Aa
def q75:RT:=.ask Fq q6_ q6b
def zbk:RT:=.know mgV28 false q75
abbrev Ft:SE:=.cmp .lss qwz Ae
def zee:RT:=.ask Ft q9m zbk
abbrev Ja:SE:=.cmp .leq qwz AC
def zc1:RT:=.know Ja true zee
abbrev Jb:SE:=.cmp .leq qwv Bg
def q8x:RT:=.know Jb true zc1
abbrev Fu:SE:=.cmp .gtr mgV12 Bq
def zdb:RT:=.ask Fu zg9 q8x
abbrev Fv:SE:=.cmp .lss mgV12 Aa
def z1l:RT:=.ask Fv zy2 zdb
def zrg:RT:=.know mgV11 false z1l
abbrev Fw:SE:=.cmp .lss zy4 Ae
def zum:RT:=.ask Fw z3g zrg
abbrev Jc:SE:=.cmp .leq zy4 AC
def zrs:RT:=.know Jc true zum
abbrev Jd:SE:=.cmp .leq mgV1 Bg
def zw_:RT:=.know Jd true zrs
abbrev Fz:SE:=.cmp .gtr EM Bq
def zzb:RT:=.ask Fz zry zw_
abbrev FA:SE:=.cmp .lss EM Aa
def zt8:RT:=.ask FA zuh zzb
abbrev FB:SE:=.cmp .lss (.len Iv) Ae
def zxb:RT:=.ask FB z0y zt8
abbrev FC:SE:=.cmp .lss (.len IY) Ae
def z2y:RT:=.ask FC zzm zxb
abbrev FD:SE:=.cmp .lss (.len IW) Ae
def zs2:RT:=.ask FD z3c z2y
abbrev FE:SE:=.cmp .lss (.len IV) Ae
def zrt:RT:=.ask FE z0h zs2
abbrev FG:SE:=.cmp .lss (.len IR) Ae
def z1t:RT:=.ask FG z10 zrt
abbrev FH:SE:=.cmp .lss (.len IQ) Ae
def z1i:RT:=.ask FH zyt z1t
abbrev FI:SE:=.cmp .lss (.len IM) Ae
def zrh:RT:=.ask FI zvw z1i
abbrev FJ:SE:=.cmp .lss (.len IL) Ae
def z1h:RT:=.ask FJ zyp zrh
abbrev FK:SE:=.cmp .lss (.len IJ) Ae
def ztt:RT:=.ask FK zw2 z1h
abbrev FL:SE:=.cmp .lss (.len II) Ae
def z3i:RT:=.ask FL z1q ztt
abbrev FM:SE:=.cmp .lss (.len IG) Ae
def z2n:RT:=.ask FM zt3 z3i
abbrev FN:SE:=.cmp .lss (.len IF) Ae
def mgT9:RT:=.ask FN z2j z2n
abbrev FO:SE:=.cmp .lss (.len ID) Ae
def mgT7:RT:=.ask FO mgT8 mgT9
abbrev FP:SE:=.cmp .lss (.len (.ldr Ab Bs)) Ae
def mgT5:RT:=.ask FP mgT6 mgT7
abbrev FQ:SE:=.not (.seq (.ltk Ab Bs) Iu)
def mgT3:RT:=.ask FQ mgT4 mgT5
abbrev Je:SE:=.cmp .leq Bs AD
def mgT2:RT:=.know Je true mgT3
def q8r:RT:=.out 0 [Aa,Aa,Al,Aa,Al,Aa,Al,Aa,Al,Aa,Al,Aa,Aa,.lnil,.lnil,.lnil,.lnil,Aa,Al,Aa,Al,Aa,Al,.lnil,EI]
abbrev FU:SE:=.cmp .geq AD Bs
def mgT1:RT:=.ask FU mgT2 q8r
abbrev Jf:SE:=.cmp .leq AD EL
def mgT:RT:=.know Jf true mgT1
def mgA:SE:=.cons E9 I0
def mgY:FEnt:={f:=10,num:=30005,nx:=5,A:=[(.one (.sts Ab))],M:=[],F:=[],ny:=5,R:=[EJ,(.one (.opq (.bvar 24)))],N:=[(0,Jm,54,true),(1,Jn,70,true),(2,Jo,72,true),(3,Jp,3,true),(4,Jq,38,true)],lv:=[],sm:=[0],pre:=[(Jf,true)]}
def mgN1:SE:=.conv .i64 (.wd Iv 8)
def qjd:SE×Bool:=(.cmp .leq mgV1 Bg,true)
def qqg:SE×Bool:=(.cmp .leq qwv Bg,true)
def zhe:SE×Bool:=(.cmp .leq qx5 Bg,true)
def mgK5:SE×Bool:=(.cmp .leq qv8 Bg,true)
def mgJ:List Ju:=[⟨.cmp .leq AD EL,true,[]⟩,⟨.cmp .leq Bs AD,true,[(.cmp .geq AD Bs,true)]⟩,⟨.cmp .leq mgV1 Bg,true,[(.cmp .lss mgN1 Aa,false),(.cmp .gtr mgN1 Bq,false)]⟩,⟨.cmp .leq zy4 AC,true,[qjd]⟩,⟨qme,true,[qjd]⟩,⟨.cmp .leq zbh AC,true,[qjd]⟩,⟨.app 20104 4 none mgV8,true,[qjd]⟩,⟨mgV11,false,[qjd,(.cmp .lss zy4 Ae,false)]⟩,⟨.cmp .leq qx6 AC,true,[qjd]⟩,⟨.app 20104 4 none zdj,true,[qjd]⟩,⟨.cmp .leq qxr AC,true,[qjd]⟩,⟨.app 20104 4 none q76,true,[qjd]⟩,⟨.cmp .leq qwv Bg,true,[(.cmp .lss mgV12 Aa,false),(.cmp .gtr mgV12 Bq,false)]⟩,⟨.cmp .leq qwz AC,true,[qjd,qqg]⟩,⟨.cmp .leq zcz AC,true,[qjd,qqg]⟩,⟨.app 20104 4 none zhm,true,[qjd,qqg]⟩,⟨mgV28,false,[qjd,qqg,(mgV11,false),(.cmp .lss qwz Ae,false)]⟩,⟨.cmp .leq qw9 AC,true,[qjd,qqg]⟩,⟨.app 20104 4 none q9p,true,[qjd,qqg]⟩,⟨.cmp .leq qx5 Bg,true,[(.cmp .lss mgV29 Aa,false),(.cmp .gtr mgV29 BC,false)]⟩,⟨.cmp .leq (.len mgV37) AC,true,[qjd,qqg,zhe]⟩,⟨.cmp .leq q4j AC,true,[qjd,qqg,zhe]⟩,⟨.cmp .leq qv8 Bg,true,[(.cmp .lss mgV48 Aa,false),(.cmp .gtr mgV48 BF,false)]⟩,⟨.cmp .neq mgV1 (.len mgV52),false,[qjd]⟩,⟨.cmp .neq qwv (.len mgV53),false,[qjd,qqg]⟩,⟨.cmp .neq qx5 (.len mgV54),false,[qjd,qqg,zhe]⟩,⟨.cmp .neq mgV6 (.len mgV55),false,[qjd,qqg,zhe]⟩,⟨.cmp .neq qv8 (.len mgV56),false,[qjd,qqg,zhe,mgK5]⟩]
noncomputable def mgE (xs:List Int):Env:=qaa (FT qdw) xs
section
variable {xs:List Int} (hs:(dec (xs.getD 0 0)).length≤100000)
include hs
theorem mg_s {n:SE}:((SE.ldr (.lvar 0) n).lst (mgE xs)).length≤100000:=by
 have h:(SE.lvar 0).lst (mgE xs)=dec (xs.getD 0 0):=by simp only [SE.lst,SE.val];rfl
 have:=qus (E:=mgE xs) (x:= .lvar 0) (n:=n)
 rw [h] at this;omega
theorem z37 (k1:Hol (mgE xs) qjd):GetL (mgE xs) 20101 20 gbfs mgV0 (.ldr (.lvar 0) (.lit .i64 116)) (.cmp .eql (.lit .i64 0) (.lit .i64 1)):=
 yfe (m:=20) fg01 rfl (by omega) (ql9 (by omega) k1) (Nat.le_trans (mg_s hs) (by omega))
theorem ybv (k1:Hol (mgE xs) qjd):(mgV3.lst (mgE xs)).length≤100000:=Nat.le_trans (z37 hs k1).r (mg_s hs)
theorem qsp (k1:Hol (mgE xs) qjd) {n:SE}:((SE.ldr mgV3 n).lst (mgE xs)).length≤100000:=Nat.le_trans qus (ybv hs k1)
omit hs in
theorem mg_5 (k1:Hol (mgE xs) qjd):(mgV5.lst (mgE xs)).length≤1000:=by
 have h:(mgV0.lst (mgE xs)).length≤1000:=ql9 (by omega) k1
 have:(mgV5.lst (mgE xs)).length=(mgV0.lst (mgE xs)).length:=z4t h
 omega
omit hs in
theorem zdz (k1:Hol (mgE xs) qjd) {b c:SE} (hb:(b.lst (mgE xs)).length≤100000):GetL (mgE xs) 20104 1 gafs mgV5 b c:=
 yfe (m:=1) fg04 rfl (by omega) (mg_5 k1) (Nat.le_trans hb (by omega))
theorem z4c (k1:Hol (mgE xs) qjd) (k2:Hol (mgE xs) qqg):GetL (mgE xs) 20102 6 gtfs mgV20 mgV13 mgV11:=
 yfe (m:=6) fg02 rfl (by omega) (ql9 (by omega) k2) (Nat.le_trans (qsp hs k1) (by omega))
theorem zaj (k1:Hol (mgE xs) qjd) (k2:Hol (mgE xs) qqg):(mgV23.lst (mgE xs)).length≤100000:=Nat.le_trans (z4c hs k1 k2).r (qsp hs k1)
theorem q5k (k1:Hol (mgE xs) qjd) (k2:Hol (mgE xs) qqg) {n:SE}:((SE.ldr mgV23 n).lst (mgE xs)).length≤100000:=Nat.le_trans qus (zaj hs k1 k2)
theorem z97 (k1:Hol (mgE xs) qjd) (k2:Hol (mgE xs) qqg) (k3:Hol (mgE xs) zhe):GetL (mgE xs) 20103 10 grfs mgV34 mgV30 mgV28:=
 yfe (m:=10) fg03 rfl (by omega) (ql9 (by omega) k3) (Nat.le_trans (q5k hs k1 k2) (by omega))
theorem qvl (k1:Hol (mgE xs) qjd) (k2:Hol (mgE xs) qqg) (k3:Hol (mgE xs) zhe):(mgV37.lst (mgE xs)).length≤100000:=Nat.le_trans (z97 hs k1 k2 k3).r (q5k hs k1 k2)
theorem zx2 (k1:Hol (mgE xs) qjd) (k2:Hol (mgE xs) qqg) (k3:Hol (mgE xs) zhe):(mgV39.lst (mgE xs)).length≤100000:=Nat.le_trans (zdz k1 (qvl hs k1 k2 k3)).r (qvl hs k1 k2 k3)
theorem zk3 (k1:Hol (mgE xs) qjd) (k2:Hol (mgE xs) qqg) (k3:Hol (mgE xs) zhe) (k5:Hol (mgE xs) mgK5):GetL (mgE xs) 20105 4 gefs mgV49 (.ldr mgV39 (.lit .i64 56)) mgV47:=
 yfe (m:=4) fg05 rfl (by omega) (ql9 (by omega) k5) (Nat.le_trans (Nat.le_trans qus (zx2 hs k1 k2 k3)) (by omega))
theorem zy_:AllJ (mgE xs) mgJ:=by
 have m6:∀{x:SE},(x.lst (mgE xs)).length≤100000→((SE.cmp .leq (.len x) (.lit .i64 1000000)).val (mgE xs) !=0)=true:=fun h=>qhh (n:=1000000) (by omega) (Nat.le_trans h (by omega))
 have one:∀{b:SE},Hol (mgE xs) qjd→(b.lst (mgE xs)).length≤100000→((SE.app 20104 4 none (.cons mgV5 (.cons b (.cons (.cmp .eql (.lit .i64 1) (.lit .i64 1)) .nil)))).val (mgE xs) !=0)=true:=fun k1 hb=>(zdz k1 hb).d.2 (.inl (by rw [zib];decide))
 refine ⟨fun _=> ?_,fun p=> ?_,fun p=> ?_,fun p=> ?_,fun p=> ?_,fun p=> ?_,fun p=> ?_,fun p=> ?_,fun p=> ?_,fun p=> ?_,fun p=> ?_,fun p=> ?_,fun p=> ?_,fun p=> ?_,fun p=> ?_,fun p=> ?_,fun p=> ?_,fun p=> ?_,fun p=> ?_,fun p=> ?_,fun p=> ?_,fun p=> ?_,fun p=> ?_,fun p=> ?_,fun p=> ?_,fun p=> ?_,fun p=> ?_,fun p=> ?_,trivial⟩
 ·exact qhh (x:= .lvar 0) (n:=100000) (by omega) (by have h:(SE.lvar 0).lst (mgE xs)=dec (xs.getD 0 0):=by {simp only [SE.lst,SE.val];rfl};rw [h];exact hs)
 ·have h:((SE.cmp .geq (.len (.lvar 0)) (.lit .i64 4)).val (mgE xs) !=0)=true:=p.1
  rw [qce] at h
  have h:=of_decide_eq_true h
  show ((SE.cmp .leq (.lit .i64 4) (.len (.lvar 0))).val (mgE xs) !=0)=true
  rw [qce];exact decide_eq_true h
 ·exact qhh (x:=mgV0) (n:=1000) (by omega) (Nat.le_trans (qrl (m:=32) (by omega) p.1 p.2.1) (by omega))
 ·exact m6 (ybv hs p.1)
 ·exact qhh (x:=mgV5) (n:=1000) (by omega) (mg_5 p.1)
 ·exact m6 (x:=q0s) (Nat.le_trans (zdz p.1 (ybv hs p.1)).r (ybv hs p.1))
 ·exact one p.1 (ybv hs p.1)
 ·have h8:8≤(mgV3.lst (mgE xs)).length:=zp7 (by omega) p.2.1
  cases hb:(mgV11.val (mgE xs) !=0) with
  |false=>rfl
  |true=>have:(mgV3.lst (mgE xs)).length<8:=(z37 hs p.1).s hb zqp;omega
 ·exact m6 (x:=qh8) (Nat.le_trans (zdz p.1 (qsp hs p.1)).r (qsp hs p.1))
 ·exact one p.1 (qsp hs p.1)
 ·exact m6 (x:=qia) (Nat.le_trans (zdz p.1 (qsp hs p.1)).r (qsp hs p.1))
 ·exact one p.1 (qsp hs p.1)
 ·exact qhh (x:=mgV20) (n:=1000) (by omega) (Nat.le_trans (qrl (m:=32) (by omega) p.1 p.2.1) (by omega))
 ·exact m6 (zaj hs p.1 p.2.1)
 ·exact m6 (x:=ql5) (Nat.le_trans (zdz p.1 (zaj hs p.1 p.2.1)).r (zaj hs p.1 p.2.1))
 ·exact one p.1 (zaj hs p.1 p.2.1)
 ·have h8:8≤(mgV23.lst (mgE xs)).length:=zp7 (by omega) p.2.2.2.1
  have h0:mgV11.val (mgE xs)=0:=by {have:(mgV11.val (mgE xs) !=0)=false:=p.2.2.1;simpa using this}
  cases hb:(mgV28.val (mgE xs) !=0) with
  |false=>rfl
  |true=>have:(mgV23.lst (mgE xs)).length<8:=(z4c hs p.1 p.2.1).s hb h0;omega
 ·exact m6 (x:=qh3) (Nat.le_trans (zdz p.1 (q5k hs p.1 p.2.1)).r (q5k hs p.1 p.2.1))
 ·exact one p.1 (q5k hs p.1 p.2.1)
 ·exact qhh (x:=mgV34) (n:=1000) (by omega) (Nat.le_trans (qrl (m:=16) (by omega) p.1 p.2.1) (by omega))
 ·exact m6 (qvl hs p.1 p.2.1 p.2.2.1)
 ·exact m6 (zx2 hs p.1 p.2.1 p.2.2.1)
 ·exact qhh (x:=mgV49) (n:=1000) (by omega) (Nat.le_trans (qrl (m:=400) (by omega) p.1 p.2.1) (by omega))
 ·exact qi9 (x:=mgV0) (y:=mgV52) (z37 hs p.1).l.symm
 ·exact qi9 (x:=mgV20) (y:=mgV53) (z4c hs p.1 p.2.1).l.symm
 ·exact qi9 (x:=mgV34) (y:=mgV54) (z97 hs p.1 p.2.1 p.2.2.1).l.symm
 ·exact qi9 (x:=mgV5) (y:=mgV55) (zdz p.1 (qvl hs p.1 p.2.1 p.2.2.1)).l.symm
 ·exact qi9 (x:=mgV49) (y:=mgV56) (zk3 hs p.1 p.2.1 p.2.2.1 p.2.2.2.1).l.symm
end
theorem ydk (xs:List Int) (hp:PreF mgY (FT qdw) xs):mgT.ok (qaa (FT qdw) xs):=
 qrg (J:=mgJ) (ds:=[]) (zy_ (zp3 (F:=FT qdw) (ys:=xs) (j:=0) (n:=100000) (by omega) (hp.pre _ (.head _)))).mem (by kernel_rfl) (fun _ h=>by cases h)
def mgD0:List (SE×Bool):=[]
def mgD1:List (SE×Bool):=(Jf,true)::mgD0
def mgD2:List (SE×Bool):=(FU,true)::mgD1
def mgD3:List (SE×Bool):=(Je,true)::mgD2
def mgD4:List (SE×Bool):=(FQ,true)::mgD3
def mgD5:List (SE×Bool):=(FQ,false)::mgD3
def mgD6:List (SE×Bool):=(FP,true)::mgD5
def mgD7:List (SE×Bool):=(FP,false)::mgD5
def mgD8:List (SE×Bool):=(FO,true)::mgD7
def mgD9:List (SE×Bool):=(FO,false)::mgD7
def mgD10:List (SE×Bool):=(FN,true)::mgD9
def zjr:List (SE×Bool):=(FN,false)::mgD9
def mgD12:List (SE×Bool):=(FM,true)::zjr
def znn:List (SE×Bool):=(FM,false)::zjr
def mgD14:List (SE×Bool):=(FL,true)::znn
def zml:List (SE×Bool):=(FL,false)::znn
def mgD16:List (SE×Bool):=(FK,true)::zml
def zjn:List (SE×Bool):=(FK,false)::zml
def mgD18:List (SE×Bool):=(FJ,true)::zjn
def zk8:List (SE×Bool):=(FJ,false)::zjn
def mgD20:List (SE×Bool):=(FI,true)::zk8
def zia:List (SE×Bool):=(FI,false)::zk8
def mgD22:List (SE×Bool):=(FH,true)::zia
def zlo:List (SE×Bool):=(FH,false)::zia
def mgD24:List (SE×Bool):=(FG,true)::zlo
def zk7:List (SE×Bool):=(FG,false)::zlo
def mgD26:List (SE×Bool):=(FE,true)::zk7
def zk4:List (SE×Bool):=(FE,false)::zk7
def mgD28:List (SE×Bool):=(FD,true)::zk4
def zh7:List (SE×Bool):=(FD,false)::zk4
def mgD30:List (SE×Bool):=(FC,true)::zh7
def zi6:List (SE×Bool):=(FC,false)::zh7
def mgD32:List (SE×Bool):=(FB,true)::zi6
def zlg:List (SE×Bool):=(FB,false)::zi6
def zih:List (SE×Bool):=(FA,true)::zlg
def mgD35:List (SE×Bool):=(Dp,true)::zih
def zmm:List (SE×Bool):=(Dp,false)::zih
def mgD37:List (SE×Bool):=(Do,true)::zmm
def znk:List (SE×Bool):=(Do,false)::zmm
def mgD39:List (SE×Bool):=(Dn,true)::znk
def zmp:List (SE×Bool):=(Dn,false)::znk
def mgD41:List (SE×Bool):=(Dm,true)::zmp
def zh6:List (SE×Bool):=(Dm,false)::zmp
def mgD43:List (SE×Bool):=(Dl,true)::zh6
def znb:List (SE×Bool):=(Dl,false)::zh6
def mgD45:List (SE×Bool):=(Dk,true)::znb
def znx:List (SE×Bool):=(Dk,false)::znb
def mgD47:List (SE×Bool):=(Dj,true)::znx
def zms:List (SE×Bool):=(Dj,false)::znx
def mgD49:List (SE×Bool):=(Di,true)::zms
def zj1:List (SE×Bool):=(Di,false)::zms
def mgD51:List (SE×Bool):=(Dh,true)::zj1
def mgD52:List (SE×Bool):=(Dh,false)::zj1
def zji:List (SE×Bool):=(FA,false)::zlg
def zjk:List (SE×Bool):=(Fz,true)::zji
def mgD55:List (SE×Bool):=(Dp,true)::zjk
def zm1:List (SE×Bool):=(Dp,false)::zjk
def mgD57:List (SE×Bool):=(Do,true)::zm1
def zi9:List (SE×Bool):=(Do,false)::zm1
def mgD59:List (SE×Bool):=(Dn,true)::zi9
def zip:List (SE×Bool):=(Dn,false)::zi9
def mgD61:List (SE×Bool):=(Dm,true)::zip
def zkh:List (SE×Bool):=(Dm,false)::zip
def mgD63:List (SE×Bool):=(Dl,true)::zkh
def zk0:List (SE×Bool):=(Dl,false)::zkh
def mgD65:List (SE×Bool):=(Dk,true)::zk0
def zjq:List (SE×Bool):=(Dk,false)::zk0
def mgD67:List (SE×Bool):=(Dj,true)::zjq
def zk_:List (SE×Bool):=(Dj,false)::zjq
def mgD69:List (SE×Bool):=(Di,true)::zk_
def zlr:List (SE×Bool):=(Di,false)::zk_
def mgD71:List (SE×Bool):=(Dh,true)::zlr
def mgD72:List (SE×Bool):=(Dh,false)::zlr
def z3b:List (SE×Bool):=(Fz,false)::zji
def zrm:List (SE×Bool):=(Jd,true)::z3b
def zkc:List (SE×Bool):=(Jc,true)::zrm
def z03:List (SE×Bool):=(Fw,true)::zkc
def zvg:List (SE×Bool):=(qme,true)::z03
def zmv:List (SE×Bool):=(IA,true)::zvg
def mgD79:List (SE×Bool):=(ET,true)::zmv
def zkz:List (SE×Bool):=(ET,false)::zmv
def mgD81:List (SE×Bool):=(ES,true)::zkz
def zjl:List (SE×Bool):=(ES,false)::zkz
def mgD83:List (SE×Bool):=(ER,true)::zjl
def zjv:List (SE×Bool):=(ER,false)::zjl
def mgD85:List (SE×Bool):=(EQ,true)::zjv
def zin:List (SE×Bool):=(EQ,false)::zjv
def mgD87:List (SE×Bool):=(EP,true)::zin
def znc:List (SE×Bool):=(EP,false)::zin
def mgD89:List (SE×Bool):=(EO,true)::znc
def zif:List (SE×Bool):=(EO,false)::znc
def mgD91:List (SE×Bool):=(EN,true)::zif
def zx7:List (SE×Bool):=(EN,false)::zif
def mgD93:List (SE×Bool):=(Iz,true)::zx7
def zyc:List (SE×Bool):=(Fw,false)::zkc
def zm8:List (SE×Bool):=(mgV11,false)::zyc
def zkf:List (SE×Bool):=(Fv,true)::zm8
def zyf:List (SE×Bool):=(DE,true)::zkf
def zv9:List (SE×Bool):=(qme,true)::zyf
def zjo:List (SE×Bool):=(EW,true)::zv9
def yhl:List (SE×Bool):=(Dw,true)::zjo
def q2e:List (SE×Bool):=(Dw,false)::zjo
def yad:List (SE×Bool):=(Dv,true)::q2e
def q28:List (SE×Bool):=(Dv,false)::q2e
def z6o:List (SE×Bool):=(Du,true)::q28
def q2h:List (SE×Bool):=(Du,false)::q28
def yam:List (SE×Bool):=(Dt,true)::q2h
def q4e:List (SE×Bool):=(Dt,false)::q2h
def ybi:List (SE×Bool):=(Ds,true)::q4e
def q3p:List (SE×Bool):=(Ds,false)::q4e
def z93:List (SE×Bool):=(Dr,true)::q3p
def qz5:List (SE×Bool):=(Dr,false)::q3p
def z6n:List (SE×Bool):=(Dq,true)::qz5
def zco:List (SE×Bool):=(Dq,false)::qz5
def z5h:List (SE×Bool):=(EU,true)::zco
def zfx:List (SE×Bool):=(DE,false)::zkf
def za7:List (SE×Bool):=(qme,true)::zfx
def qy4:List (SE×Bool):=(EY,true)::za7
def ybx:List (SE×Bool):=(DD,true)::qy4
def q4i:List (SE×Bool):=(DD,false)::qy4
def z88:List (SE×Bool):=(DC,true)::q4i
def qy9:List (SE×Bool):=(DC,false)::q4i
def z62:List (SE×Bool):=(DB,true)::qy9
def q1t:List (SE×Bool):=(DB,false)::qy9
def z8h:List (SE×Bool):=(DA,true)::q1t
def qyl:List (SE×Bool):=(DA,false)::q1t
def ya1:List (SE×Bool):=(Dz,true)::qyl
def q1a:List (SE×Bool):=(Dz,false)::qyl
def yem:List (SE×Bool):=(Dy,true)::q1a
def q3e:List (SE×Bool):=(Dy,false)::q1a
def yfo:List (SE×Bool):=(Dx,true)::q3e
def zdt:List (SE×Bool):=(Dx,false)::q3e
def ydb:List (SE×Bool):=(EX,true)::zdt
def q4c:List (SE×Bool):=(Fv,false)::zm8
def q2v:List (SE×Bool):=(Fu,true)::q4c
def zdu:List (SE×Bool):=(DE,true)::q2v
def q7f:List (SE×Bool):=(qme,true)::zdu
def qy2:List (SE×Bool):=(EW,true)::q7f
def yan:List (SE×Bool):=(Dw,true)::qy2
def q18:List (SE×Bool):=(Dw,false)::qy2
def yhj:List (SE×Bool):=(Dv,true)::q18
def q1z:List (SE×Bool):=(Dv,false)::q18
def z82:List (SE×Bool):=(Du,true)::q1z
def q06:List (SE×Bool):=(Du,false)::q1z
def z8x:List (SE×Bool):=(Dt,true)::q06
def q21:List (SE×Bool):=(Dt,false)::q06
def ybo:List (SE×Bool):=(Ds,true)::q21
def q1w:List (SE×Bool):=(Ds,false)::q21
def ydq:List (SE×Bool):=(Dr,true)::q1w
def q2t:List (SE×Bool):=(Dr,false)::q1w
def yen:List (SE×Bool):=(Dq,true)::q2t
def q6w:List (SE×Bool):=(Dq,false)::q2t
def yex:List (SE×Bool):=(EU,true)::q6w
def zbv:List (SE×Bool):=(DE,false)::q2v
def q9s:List (SE×Bool):=(qme,true)::zbv
def qzb:List (SE×Bool):=(EY,true)::q9s
def yca:List (SE×Bool):=(DD,true)::qzb
def qzu:List (SE×Bool):=(DD,false)::qzb
def ygh:List (SE×Bool):=(DC,true)::qzu
def q08:List (SE×Bool):=(DC,false)::qzu
def z6s:List (SE×Bool):=(DB,true)::q08
def qyi:List (SE×Bool):=(DB,false)::q08
def ydr:List (SE×Bool):=(DA,true)::qyi
def q25:List (SE×Bool):=(DA,false)::qyi
def yb2:List (SE×Bool):=(Dz,true)::q25
def q16:List (SE×Bool):=(Dz,false)::q25
def yge:List (SE×Bool):=(Dy,true)::q16
def q2i:List (SE×Bool):=(Dy,false)::q16
def z4y:List (SE×Bool):=(Dx,true)::q2i
def q71:List (SE×Bool):=(Dx,false)::q2i
def ya0:List (SE×Bool):=(EX,true)::q71
def q9q:List (SE×Bool):=(Fu,false)::q4c
def zbz:List (SE×Bool):=(Jb,true)::q9q
def qyh:List (SE×Bool):=(Ja,true)::zbz
def q64:List (SE×Bool):=(Ft,true)::qyh
def zce:List (SE×Bool):=(qme,true)::q64
def qzo:List (SE×Bool):=(IC,true)::zce
def z7t:List (SE×Bool):=(E6,true)::qzo
def qzl:List (SE×Bool):=(E6,false)::qzo
def yel:List (SE×Bool):=(E5,true)::qzl
def q37:List (SE×Bool):=(E5,false)::qzl
def z6q:List (SE×Bool):=(E4,true)::q37
def q1j:List (SE×Bool):=(E4,false)::q37
def z42:List (SE×Bool):=(E3,true)::q1j
def qyo:List (SE×Bool):=(E3,false)::q1j
def z75:List (SE×Bool):=(E2,true)::qyo
def q3u:List (SE×Bool):=(E2,false)::qyo
def yg4:List (SE×Bool):=(E1,true)::q3u
def qzc:List (SE×Bool):=(E1,false)::q3u
def yao:List (SE×Bool):=(E0,true)::qzc
def zfy:List (SE×Bool):=(E0,false)::qzc
def yd_:List (SE×Bool):=(IB,true)::zfy
def zdw:List (SE×Bool):=(Ft,false)::qyh
def qz8:List (SE×Bool):=(mgV28,false)::zdw
def zd9:List (SE×Bool):=(Fq,true)::qz8
def ze_:List (SE×Bool):=(qme,true)::zd9
def q1c:List (SE×Bool):=(E8,true)::ze_
def yhm:List (SE×Bool):=(DL,true)::q1c
def q29:List (SE×Bool):=(DL,false)::q1c
def z6h:List (SE×Bool):=(DK,true)::q29
def q1v:List (SE×Bool):=(DK,false)::q29
def z4n:List (SE×Bool):=(DJ,true)::q1v
def qyx:List (SE×Bool):=(DJ,false)::q1v
def ydg:List (SE×Bool):=(DI,true)::qyx
def q0c:List (SE×Bool):=(DI,false)::qyx
def z68:List (SE×Bool):=(DH,true)::q0c
def q3x:List (SE×Bool):=(DH,false)::q0c
def z4o:List (SE×Bool):=(DG,true)::q3x
def q0o:List (SE×Bool):=(DG,false)::q3x
def z6w:List (SE×Bool):=(DF,true)::q0o
def zg1:List (SE×Bool):=(DF,false)::q0o
def yho:List (SE×Bool):=(E7,true)::zg1
def qzw:List (SE×Bool):=(Fq,false)::qz8
def q6q:List (SE×Bool):=(Fp,true)::qzw
def zc5:List (SE×Bool):=(qme,true)::q6q
def q1o:List (SE×Bool):=(E8,true)::zc5
def z4_:List (SE×Bool):=(DL,true)::q1o
def q32:List (SE×Bool):=(DL,false)::q1o
def yco:List (SE×Bool):=(DK,true)::q32
def q3z:List (SE×Bool):=(DK,false)::q32
def yc3:List (SE×Bool):=(DJ,true)::q3z
def q07:List (SE×Bool):=(DJ,false)::q3z
def z7x:List (SE×Bool):=(DI,true)::q07
def qyw:List (SE×Bool):=(DI,false)::q07
def z8p:List (SE×Bool):=(DH,true)::qyw
def qzs:List (SE×Bool):=(DH,false)::qyw
def z4z:List (SE×Bool):=(DG,true)::qzs
def qzt:List (SE×Bool):=(DG,false)::qzs
def z5d:List (SE×Bool):=(DF,true)::qzt
def zem:List (SE×Bool):=(DF,false)::qzt
def yek:List (SE×Bool):=(E7,true)::zem
def zbp:List (SE×Bool):=(Fp,false)::qzw
def zdq:List (SE×Bool):=(I9,true)::zbp
def zdn:List (SE×Bool):=(I8,true)::zdq
def q63:List (SE×Bool):=(qme,true)::zdn
def q05:List (SE×Bool):=(I7,true)::q63
def yed:List (SE×Bool):=(Fo,true)::q05
def qz7:List (SE×Bool):=(Fo,false)::q05
def yfg:List (SE×Bool):=(Fm,true)::qz7
def qzh:List (SE×Bool):=(Fm,false)::qz7
def z48:List (SE×Bool):=(Fk,true)::qzh
def qyp:List (SE×Bool):=(Fk,false)::qzh
def z8t:List (SE×Bool):=(Fj,true)::qyp
def q0i:List (SE×Bool):=(Fj,false)::qyp
def yg9:List (SE×Bool):=(Fi,true)::q0i
def q2o:List (SE×Bool):=(Fi,false)::q0i
def yc5:List (SE×Bool):=(Fh,true)::q2o
def q0y:List (SE×Bool):=(Fh,false)::q2o
def ya2:List (SE×Bool):=(Fg,true)::q0y
def q3w:List (SE×Bool):=(Fg,false)::q0y
def z7f:List (SE×Bool):=(mgV47,true)::q3w
def q04:List (SE×Bool):=(mgV47,false)::q3w
def z6b:List (SE×Bool):=(Ff,true)::q04
def q11:List (SE×Bool):=(Ff,false)::q04
def z40:List (SE×Bool):=(Fe,true)::q11
def q8c:List (SE×Bool):=(Fe,false)::q11
def qzv:List (SE×Bool):=(I6,true)::q8c
def yak:List (SE×Bool):=(Fc,true)::qzv
def qyj:List (SE×Bool):=(Fc,false)::qzv
def z7m:List (SE×Bool):=(JA,true)::qyj
def q69:List (SE×Bool):=(JA,false)::qyj
def zep:List (SE×Bool):=(I5,false)::q69
def zfs:List (SE×Bool):=(I4,false)::zep
def q61:List (SE×Bool):=(I3,false)::zfs
def zbb:List (SE×Bool):=(I2,false)::q61
def qz6:List (SE×Bool):=(I1,false)::zbb
def z54:List (SE×Bool):=(Fa,true)::qz6
def z9r:List (SE×Bool):=(Fa,false)::qz6
def z6f:List (SE×Bool):=(FU,false)::mgD1
noncomputable def qay (t:RT) (ds:List (SE×Bool)):Bool:=qg1 (bW.loops q5d) qdw kNo zhl 300 mgY t ds
theorem qae {x:SE} {t e:RT} {ds:List (SE×Bool)} (h0:qea x=true) (h1:qay t ((x,true)::ds)=true) (h2:qay e ((x,false)::ds)=true):qay (.ask x t e) ds=true:=by
 unfold qay at *
 simp only [qg1,h0,h1,h2,Bool.and_self]
theorem qa2 {x:SE} {v:Bool} {t:RT} {ds:List (SE×Bool)} (h0:qea x=true) (h1:qay t ((x,v)::ds)=true):qay (.know x v t) ds=true:=by
 unfold qay at *
 simp only [qg1,h0,h1,Bool.and_self]
theorem zzk {a b:Nat} (hb:b<256):(256 * a)|||b=256 * a+b:=by
 have h:=Nat.two_pow_add_eq_or_of_lt (i:=8) (b:=b) (by simpa using hb) a
 simpa using h.symm
theorem qp7 {n:Nat} (h:n<18446744073709551616):IntKind.u64.wrap (n:Int)=(n:Int):=by
 rw [IntKind.wrap_u64];omega
theorem zsm {l:List (List Int)} {i a b:Nat} (h:rdN l i=(a:Int)) (ha:a<72057594037927936) (hb:IntKind.u8.wrap ((l.getD i []).getD 0 0)=(b:Int)) (hb2:b<256):rdN l (i+1)=((256 * a+b:Nat):Int):=by
 have e1:qbg .shl .u64 (a:Int) 8=((256 * a:Nat):Int):=by
  show IntKind.u64.wrap ((a:Int) * 2 ^ (min (8:Int).toNat IntKind.u64.bits))=_
  rw [show (2:Int) ^ (min (8:Int).toNat IntKind.u64.bits)=256 from rfl,show (a:Int) * 256=((256 * a:Nat):Int) by omega]
  exact qp7 (by omega)
 have e2:IntKind.u64.wrap (b:Int)=(b:Int):=qp7 (by omega)
 show qbg .or .u64 (qbg .shl .u64 (rdN l i) 8) (IntKind.u64.wrap (IntKind.u8.wrap ((l.getD i []).getD 0 0)))=_
 rw [h,hb,e1,e2]
 show IntKind.u64.wrap (bits .or .u64 _ _)=_
 rw [bits_or_u64_nat _ _ (by omega) (by omega),zzk hb2]
 exact qp7 (by omega)
theorem be1_v {n:Nat} (hn:n<18446744073709551616) {s:Nat} (hs:s≤56):IntKind.u8.wrap ((be1 (n:Int) (s:Int)).getD 0 0)=((n / 2 ^ s % 256:Nat):Int):=by
 have e1:IntKind.i64.wrap (s:Int)=(s:Int):=qck (by unfold maxLen;omega)
 have e2:qbg .shr .u64 (n:Int) (s:Int)=((n / 2 ^ s:Nat):Int):=by
  show IntKind.u64.wrap ((n:Int).fdiv (2 ^ (min (s:Int).toNat IntKind.u64.bits)))=_
  rw [show min (s:Int).toNat IntKind.u64.bits=s from by show min _ 64=s;omega]
  have e3:(n:Int).fdiv (2 ^ s)=((n / 2 ^ s:Nat):Int):=by
   rw [Int.fdiv_eq_ediv_of_nonneg _ (by exact Int.le_of_lt (Int.pow_pos (by decide)))]
   simp
  rw [e3]
  exact qp7 (Nat.lt_of_le_of_lt (Nat.div_le_self _ _) hn)
 show IntKind.u8.wrap (IntKind.u8.wrap (qbg .shr .u64 (n:Int) (IntKind.i64.wrap (s:Int))))=_
 rw [e1,e2,IntKind.wrap_u8,IntKind.wrap_u8]
 omega
theorem zqw {n:Nat} (hn:n<18446744073709551616) (t:List (List Int)):∀i,i≤8→rdN (be8 (n:Int)++t) i=((n / 2 ^ (64 - 8 * i):Nat):Int)
 |0,_=>by rw [show n / 2 ^ (64 - 8 * 0)=0 from Nat.div_eq_of_lt hn];rfl
 |i+1,h=>by
  have hg:(be8 (n:Int)++t).getD i []=be1 (n:Int) ((56 - 8 * i:Nat):Int):=by
   match i,h with
   |0,_ |1,_ |2,_ |3,_ |4,_ |5,_ |6,_ |7,_=>rfl
   |k+8,h=>omega
  have hb:=be1_v hn (s:=56 - 8 * i) (by omega)
  rw [←hg] at hb
  have ha:n / 2 ^ (64 - 8 * i)<72057594037927936:=by
   have:n / 2 ^ (64 - 8 * i)≤n / 2 ^ 8:=Nat.div_le_div_left (Nat.pow_le_pow_right (by omega) (by omega)) (by decide)
   omega
  rw [zsm (zqw hn t i (by omega)) ha hb (Nat.mod_lt _ (by omega))]
  have e:n / 2 ^ (64 - 8 * i)=n / 2 ^ (56 - 8 * i) / 256:=by
   rw [Nat.div_div_eq_div_mul,show (256:Nat)=2 ^ 8 from rfl,←Nat.pow_add,show 56 - 8 * i+8=64 - 8 * i by omega]
  rw [e,show 64 - 8 * (i+1)=56 - 8 * i by omega]
  congr 1
  omega
theorem qv5 {n:Int} (h0:0≤n) (h1:n<18446744073709551616) (t:List (List Int)):rd8 (be8 n++t)=n:=by
 obtain ⟨m,rfl⟩:∃m:Nat,n=(m:Int):=⟨n.toNat,by omega⟩
 unfold rd8
 rw [zqw (by omega) t 8 (by omega)]
 rw [show 64 - 8 * 8=0 from rfl,Nat.pow_zero,Nat.div_one]
 exact qp7 (by omega)
def nrm (p:Bool×Nat) (z:Int):Int:=match p.1 with |true=>IntKind.u64.wrap z |false=>IntKind.i64.wrap z
theorem zql (z:Int):0≤IntKind.u64.wrap z:=by rw [IntKind.wrap_u64];omega
theorem zpz (z:Int):IntKind.u64.wrap z<18446744073709551616:=by rw [IntKind.wrap_u64];omega
theorem zvl (z:Int):IntKind.i64.wrap (IntKind.u64.wrap (IntKind.i64.wrap z))=IntKind.i64.wrap z:=by
 rw [IntKind.wrap_u64,IntKind.wrap_i64,IntKind.wrap_i64];omega
theorem qkc (p:Bool×Nat) (el:List Int) (t:List (List Int)):gval p (be8 (fld p el)++t)=nrm p (el.getD p.2 0):=by
 obtain ⟨b,j⟩:=p
 cases b with
 |true=>show rd8 _=_;unfold fld;simp only [];rw [qv5 (zql _) (zpz _)];rfl
 |false=>show IntKind.i64.wrap (rd8 _)=_;unfold fld;simp only [];rw [qv5 (zql _) (zpz _),zvl];rfl
def ql8:List (Bool×Nat)→List Int→List Int→List Int
 |[],_,el=>el
 |p::r,row,el=>ql8 r row (qb1 el p.2 [nrm p (row.getD p.2 0)])
theorem qur:∀(r:List (Bool×Nat)) (k:Nat) (s:List (List Int)) (row el:List Int) (t:List (List Int)),s.drop (8 * k)=qvz r row++t→q52 s r k el=ql8 r row el
 |[],_,_,_,_,_,_=>rfl
 |p::r,k,s,row,el,t,h=>by
  have h1:s.drop (8 * k)=be8 (fld p row)++(qvz r row++t):=by rw [h];simp only [qvz,List.flatMap_cons,List.append_assoc]
  have h2:s.drop (8 * (k+1))=qvz r row++t:=by
   rw [show 8 * (k+1)=8 * k+8 by omega,←List.drop_drop,h1,List.drop_append_of_le_length (by rw [qjs];exact Nat.le_refl _),List.drop_of_length_le (by rw [qjs];exact Nat.le_refl _),List.nil_append]
  unfold q52 ql8
  rw [h1,qkc]
  exact qur r (k+1) s row _ t h2
theorem zi_ {fs:List (Bool×Nat)} {a:List Int} {t:List (List Int)}:(qvz fs a++t).drop (8 * fs.length)=t:=by
 rw [List.drop_append_of_le_length (by rw [qlh];exact Nat.le_refl _),List.drop_of_length_le (by rw [qlh];exact Nat.le_refl _),List.nil_append]
theorem qqn (fs:List (Bool×Nat)):∀(l:List (List Int)) (t:List (List Int)) (j:Nat),j<l.length→(qd1 fs l++t).drop (8 * fs.length * j)=qvz fs (l.getD j [])++(qd1 fs (l.drop (j+1))++t)
 |[],_,_,h=>by cases h
 |a::l,t,0,_=>by simp [qd1,List.flatMap_cons]
 |a::l,t,j+1,h=>by
  have:=qqn fs l t j (by simpa using h)
  have e:qd1 fs (a::l)++t=qvz fs a++(qd1 fs l++t):=by simp [qd1,List.flatMap_cons]
  rw [e,show 8 * fs.length * (j+1)=8 * fs.length+8 * fs.length * j by rw [Nat.mul_add];omega,←List.drop_drop,zi_,this]
  simp
theorem qjv (fs:List (Bool×Nat)) (l t:List (List Int)):(qd1 fs l++t).drop (8 * fs.length * l.length)=t:=by
 rw [List.drop_append_of_le_length (by rw [qdl];exact Nat.le_refl _),List.drop_of_length_le (by rw [qdl];exact Nat.le_refl _),List.nil_append]
def z1y (fs:List (Bool×Nat)) (row:List Int):Prop:=row=fs.map fun p=>nrm p (row.getD p.2 0)
def zla (fs:List (Bool×Nat)) (l:List (List Int)):Prop:=∀r∈l,z1y fs r
theorem qj6 {fs:List (Bool×Nat)} {z:List Int} (hz:∀row,ql8 fs row z=fs.map fun p=>nrm p (row.getD p.2 0)) {l g:List (List Int)} {t:List (List Int)} (hn:zla fs l) (hl:g.length=l.length)
  (hg:∀j,j<l.length→g.getD j []=q52 ((qd1 fs l++t).drop (8 * fs.length * j)) fs 0 z):g=l:=by
 apply List.ext_getElem hl
 intro j h1 h2
 have h3:=hg j h2
 rw [qqn fs l t j h2,qur fs 0 _ (l.getD j []) z _ (by rw [Nat.mul_zero,List.drop_zero]),hz] at h3
 have h4:=hn (l[j]) (List.getElem_mem h2)
 have e1:g.getD j []=g[j]:=by simp [h1]
 have e2:l.getD j []=l[j]:=by simp [h2]
 rw [e1,e2] at h3
 rw [h3];exact h4.symm
theorem qhz {el:List Int} {j:Nat} {v:Int} (h:j<el.length):qb1 el j [v]=el.set j v:=by
 unfold qb1
 apply List.ext_getElem
 ·simp only [List.length_map,List.length_range,List.length_set,List.length_cons,List.length_nil];omega
 ·intro n h1 h2
  rw [List.length_set] at h2
  rw [List.getElem_map,List.getElem_range,List.getElem_set,List.length_singleton]
  by_cases q:j=n
  ·subst q
   rw [if_pos ⟨Nat.le_refl _,by omega⟩,if_pos rfl,Nat.sub_self];rfl
  ·rw [if_neg (by omega),if_neg q,List.getD_eq_getElem?_getD,List.getElem?_eq_getElem h2];rfl
theorem z_b (row:List Int):ql8 gbfs row [0,0,0,0,0,0,0,0,0,0,0,0,0,0,0,0,0,0,0,0]=gbfs.map fun p=>nrm p (row.getD p.2 0):=by
 simp [gbfs,ql8,qhz]
theorem z_t (row:List Int):ql8 gtfs row [0,0,0,0,0,0]=gtfs.map fun p=>nrm p (row.getD p.2 0):=by
 simp [gtfs,ql8,qhz]
theorem z_r (row:List Int):ql8 grfs row [0,0,0,0,0,0,0,0,0,0]=grfs.map fun p=>nrm p (row.getD p.2 0):=by
 simp [grfs,ql8,qhz]
theorem z_a (row:List Int):ql8 gafs row [0]=gafs.map fun p=>nrm p (row.getD p.2 0):=by
 simp [gafs,ql8,qhz]
theorem z_e (row:List Int):ql8 gefs row [0,0,0,0]=gefs.map fun p=>nrm p (row.getD p.2 0):=by
 simp [gefs,ql8,qhz]
def Cod (n:Int):Prop:=∃l,n=enc l
theorem Cod.eq {n:Int} (h:Cod n):enc (dec n)=n:=by obtain ⟨l,rfl⟩:=h;rw [qan]
theorem qpk {n m:Int} (h:Cod n) (g:Cod m) (e:dec n=dec m):n=m:=by rw [←h.eq,←g.eq,e]
theorem q3l {E:Env} {l i az:SE} {off:Nat}:Cod ((SE.lset l i off az).val E):=⟨qkn (dec (l.val E)) (i.val E).toNat off (az.vals E),by simp only [SE.val]⟩
theorem qoz {E:Env}:∀(r:List (Bool×Nat)) (l:SE),Cod (l.val E)→Cod ((qdf l r).val E)
 |[],l,h=>h
 |(true,_)::r,l,h=>qoz r l h
 |(false,j)::r,l,h=>qoz r _ q3l
section
variable {F:Nat→List Int→List Int} {ys:List Int}
theorem quj:∀(r:List (Bool×Nat)) (l:SE) (k:Nat) (zs:List Int),Cod (l.val (qaa F ys))→(qjb l k r).get (qaa F ys)=(none,zs)→Cod (zs.getD 1 0)
 |[],l,k,zs,hl,h=>by
  unfold qjb at h
  simp only [RT.get] at h
  cases h
  exact hl
 |p::r,l,k,zs,hl,h=>by
  unfold qjb at h
  simp only [RT.get] at h
  cases hq:((SE.cmp .lss (.len (zk k)) (.lit .i64 8)).val (qaa F ys) !=0) with
  |true=>
   rw [hq,cond_true] at h
   cases h
   exact qoz (p::r) l hl
  |false=>
   rw [hq,cond_false] at h
   exact quj r (zhb l p k) (k+1) zs q3l h
end
section
variable {F:Nat→List Int→List Int} {fs:List (Bool×Nat)} {xs:List Int} (hN:(dec (xs.getD 0 0)).length≤1000) (hS:(dec (xs.getD 1 0)).length≤1000000) (hm:fs.length≤100)
include hN hS hm
theorem z9j (hc:Cod (xs.getD 0 0)):Cod ((gpG fs F xs).getD 2 0):=by
 obtain ⟨e,zs,h1,h2,ys,h3,h4⟩:=qfm (F:=F) (T:=gpT fs) (fun i (ys:List Int)=>gpJ fs (xs.getD 0 0) (xs.getD 1 0) (xs.getD 2 0) i ys∧Cod (ys.getD 1 0)) (dec (xs.getD 0 0)).length (fun e zs=>e=0∧∃ys:List Int,Cod (ys.getD 1 0)∧zs=[xs.getD 0 0,ys.getD 1 0,ys.getD 2 0,b2i (ys.getD 3 0 !=0)])
  (fun i ys zs hi hj hy=>by
   obtain ⟨q1,q2⟩:=(qj1 hN hS hm hj.1).2.1 zs hy
   refine ⟨q1,q2,?_⟩
   have ei:=qez (F:=F) hj.1.ix (by omega)
   have el:=qby (F:=F) (lv:=0) (xs:=ys) (n:=(dec (xs.getD 0 0)).length) (by rw [hj.1.x]) (by unfold maxLen;omega)
   have c:=qdx (F:=F) ei el
   have e1:(SE.lvar 1).val (qaa F ys)=ys.getD 1 0:=lvar_at
   unfold gpT at hy
   simp only [RT.get,c] at hy
   rw [decide_eq_true q1,cond_true] at hy
   cases hb:((SE.not (.bvar 3)).val (qaa F ys) !=0) with
   |true=>rw [hb,cond_true] at hy;exact quj fs (.lvar 1) 0 zs (by rw [e1];exact hj.2) hy
   |false=>
    rw [hb,cond_false] at hy
    cases hy
    show Cod ((SE.lvar 1).val (qaa F ys))
    rw [e1];exact hj.2) (fun i ys e zs hi hj hy=>by
   obtain ⟨q1,q2,q3⟩:=(qj1 hN hS hm hj.1).2.2 e zs hy
   exact ⟨q1,ys,hj.2,q3⟩) ((dec (xs.getD 0 0)).length+1) 0 0 (gpI.map (SE.val (qaa F xs))) (by omega) (by omega) ⟨q9k,by
    have e0:(SE.lvar 0).val (qaa F xs)=xs.getD 0 0:=lvar_at
    show Cod ((SE.lvar 0).val (qaa F xs));rw [e0];exact hc⟩
 subst h2
 have:gpG fs F xs=[0,xs.getD 0 0,ys.getD 1 0,ys.getD 2 0,b2i (ys.getD 3 0 !=0)]:=by
  unfold gpG qfv gpU
  rw [h1,h4];rfl
 rw [this];exact h3
end
end Go.Proofs.YtilkebpcjklmfaaGreat.Own
namespace Go.Proofs.YtilkebpcjklmfaaGreat.Own
open Go Go.RowKit Go.Proofs Go.Proofs.YtilkebpcjklmfaaGreat.Plain
set_option maxRecDepth 100000
set_option maxHeartbeats 40000000
def qly (A:List (SE×Bool)):RT→Option (List SE)
 | .out _ ys=>some ys
 | .next _=>none
 | .ask x t e=>bif qyf (x,true) A then qly A t else bif qyf (x,false) A then qly A e else none
 | .know _ _ t=>qly A t
theorem qh0 {E:Env} {A:List (SE×Bool)} (hA:∀p∈A,Hol E p):∀{t:RT} {ys:List SE},qly A t=some ys→(t.get E).2=ys.map (SE.val E)
 | .out _ _,ys,h=>by cases h;rfl
 | .next _,ys,h=>by cases h
 | .ask x t e,ys,h=>by
  simp only [qly] at h
  cases h1:qyf (x,true) A with
  |true=>
   rw [h1,cond_true] at h
   have:(x.val E !=0)=true:=hA _ (qiq h1)
   simp only [RT.get,this,cond_true]
   exact qh0 hA h
  |false=>
   rw [h1,cond_false] at h
   cases h2:qyf (x,false) A with
   |true=>
    rw [h2,cond_true] at h
    have:(x.val E !=0)=false:=hA _ (qiq h2)
    simp only [RT.get,this,cond_false]
    exact qh0 hA h
   |false=>rw [h2,cond_false] at h;cases h
 | .know _ _ t,ys,h=>by
  simp only [qly] at h
  simp only [RT.get]
  exact qh0 hA h
def AllH (E:Env):List (SE×Bool)→Prop
 |[]=>True
 |p::r=>(p.1.val E !=0)=p.2∧AllH E r
theorem AllH.mem {E:Env}:∀{l:List (SE×Bool)},AllH E l→∀p∈l,Hol E p
 |p::r,h,q,hq=>by
  rcases List.mem_cons.1 hq with rfl |hq
  ·exact h.1
  ·exact h.2.mem q hq
def prgL:List (List Int):=[[80],[82],[71],[49]]
def hwfs:List (Bool×Nat):=[(false,0),(false,1),(true,2),(false,3),(true,4),(false,5),(true,6),(false,7),(true,8),(false,9),(true,10),(false,11),(false,12)]
def mwfs:List (Bool×Nat):=[(false,17),(true,18),(false,19),(true,20),(false,21),(true,22)]
noncomputable def wl (vs:List Int) (j:Nat):List (List Int):=dec (vs.getD j 0)
noncomputable def qwi (vs:List Int):List (List Int):=qvz mwfs vs++(be8 ((wl vs 23).length:Int)++qd1 gefs (wl vs 23))
noncomputable def zps (vs:List Int):List (List Int):=qd1 gafs (wl vs 16)++qwi vs
noncomputable def z36 (vs:List Int):List (List Int):=qd1 grfs (wl vs 15)++zps vs
noncomputable def zq7 (vs:List Int):List (List Int):=be8 ((wl vs 15).length:Int)++z36 vs
noncomputable def z33 (vs:List Int):List (List Int):=qd1 gtfs (wl vs 14)++zq7 vs
noncomputable def wb3 (vs:List Int):List (List Int):=be8 ((wl vs 14).length:Int)++z33 vs
noncomputable def wb0 (vs:List Int):List (List Int):=qd1 gbfs (wl vs 13)++wb3 vs
noncomputable def qf6 (vs:List Int):List (List Int):=prgL++(qvz hwfs vs++(be8 ((wl vs 13).length:Int)++wb0 vs))
structure WOK (vs:List Int):Prop where
 l13:(wl vs 13).length≤32
 l14:(wl vs 14).length≤32
 l15:(wl vs 15).length≤16
 l16:(wl vs 16).length=(wl vs 13).length
 l23:(wl vs 23).length≤400
 n13:zla gbfs (wl vs 13)
 n14:zla gtfs (wl vs 14)
 n15:zla grfs (wl vs 15)
 n16:zla gafs (wl vs 16)
 n23:zla gefs (wl vs 23)
 c13:Cod (vs.getD 13 0)
 c14:Cod (vs.getD 14 0)
 c15:Cod (vs.getD 15 0)
 c16:Cod (vs.getD 16 0)
 c23:Cod (vs.getD 23 0)
theorem qs7 (vs:List Int):(qwi vs).length=56+32 * (wl vs 23).length:=by
 unfold qwi;simp only [List.length_append,qlh,qdl,qjs];show 8 * 6+(8+8 * 4 * _)=_;omega
theorem qr8 (vs:List Int):(zps vs).length=8 * (wl vs 16).length+(qwi vs).length:=by
 unfold zps;simp only [List.length_append,qdl];show 8 * 1 * _+_=_;omega
theorem qre (vs:List Int):(z36 vs).length=80 * (wl vs 15).length+(zps vs).length:=by
 unfold z36;simp only [List.length_append,qdl];show 8 * 10 * _+_=_;omega
theorem q0k (vs:List Int):(zq7 vs).length=8+(z36 vs).length:=by
 unfold zq7;simp only [List.length_append,qjs]
theorem qq8 (vs:List Int):(z33 vs).length=48 * (wl vs 14).length+(zq7 vs).length:=by
 unfold z33;simp only [List.length_append,qdl];show 8 * 6 * _+_=_;omega
theorem zgu (vs:List Int):(wb3 vs).length=8+(z33 vs).length:=by
 unfold wb3;simp only [List.length_append,qjs]
theorem q82 (vs:List Int):(wb0 vs).length=160 * (wl vs 13).length+(wb3 vs).length:=by
 unfold wb0;simp only [List.length_append,qdl];show 8 * 20 * _+_=_;omega
theorem q40 (vs:List Int):(qf6 vs).length=116+(wb0 vs).length:=by
 unfold qf6;simp only [List.length_append,qlh,qjs];show 4+(8 * 13+(8+_))=_;omega
section
variable {E:Env}
theorem ybr {x:SE} (h:8≤(x.lst E).length) (h2:(x.lst E).length≤1000000):((SE.cmp .lss (.len x) (.lit .i64 8)).val E !=0)=false:=by
 rw [qce,qai,qmb (n:=(x.lst E).length) rfl h2]
 exact decide_eq_false (by show ¬_<IntKind.i64.wrap 8;rw [show IntKind.i64.wrap 8=8 from rfl];omega)
theorem wd_v {x:SE}:(SE.wd x 8).val E=rd8 (x.lst E):=by simp only [SE.val,SE.lst];rfl
theorem qv_ {x:SE}:(SE.conv .i64 (.wd x 8)).val E=IntKind.i64.wrap (rd8 (x.lst E)):=by
 rw [←wd_v];simp only [SE.val]
theorem q96 {x:SE} {k:Nat} (hk:k≤1000000):(SE.ldr x (.lit .i64 (k:Int))).lst E=(x.lst E).drop k:=by
 have:(SE.ldr x (.lit .i64 (k:Int))).lst E=(x.lst E).drop ((SE.lit .i64 (k:Int)).val E).toNat:=by simp only [SE.lst,SE.val,qan]
 rw [this,qai,qck (by unfold maxLen;omega)];rfl
theorem lt0 {x:SE} {n:Nat} (h:x.val E=(n:Int)):((SE.cmp .lss x (.lit .i64 0)).val E !=0)=false:=by
 rw [qce,qai,h];exact decide_eq_false (p:=(n:Int)<IntKind.i64.wrap 0) (by rw [show IntKind.i64.wrap 0=0 from rfl];omega)
theorem gtm {x:SE} {n m:Nat} (h:x.val E=(n:Int)) (hm:m≤1000000) (hn:n≤m):((SE.cmp .gtr x (.lit .i64 (m:Int))).val E !=0)=false:=by
 rw [qce,qai,h,qck (by unfold maxLen;omega)];exact decide_eq_false (by omega)
theorem zcx {n z:SE} {m:Nat} (h:n.val E=(m:Int)):(SE.lrep n z).lst E=List.replicate m (z.vals E):=by
 have:(SE.lrep n z).lst E=List.replicate (n.val E).toNat (z.vals E):=by simp only [SE.lst,SE.val,qan]
 rw [this,h];rfl
theorem znl {n:Nat} (hn:n≤1000000) (t:List (List Int)):IntKind.i64.wrap (rd8 (be8 (n:Int)++t))=(n:Int):=by
 rw [qv5 (by omega) (by omega),qck (by unfold maxLen;omega)]
end
end Go.Proofs.YtilkebpcjklmfaaGreat.Own
