/- A walk by reckoning: an argument of a struct type opened into numbers and lists. The row: a slice argument opened. Lists that loops make are within their kinds: a check of the loop's tree. The lists of a world by numbers are within their kinds. A world by numbers, made of one list alone: its lists are those of WorldMade's with the others empty. CodecEvents: the world's lists are within; lengths. -/
import Derived.Test.YtilkebpcjklmfaaGreatLeL
set_option linter.unusedVariables false
set_option linter.unusedSimpArgs false
set_option linter.unusedSectionVars false
namespace Go.Proofs.YtilkebpcjklmfaaGreat.Own
open Go Go.RowKit Go.Proofs Go.ChangeShapes Go.WideShapes Go.ChangeAt
set_option maxRecDepth 100000
set_option maxHeartbeats 40000000
theorem quz {P:Program} {w:World} {base:Nat} {t:TypeId} {v:Value} (h:Cell.okWide P w .any base t v):q8h v:=by
 intro a n c hv
 subst hv
 unfold Cell.okWide at h
 split at h
 ·rename_i h2;cases h2
 ·rename_i h2;cases h2
 ·rename_i h2;cases h2
 ·rename_i h2;cases h2
 ·rename_i h2;cases h2
 ·rename_i h2;cases h2
 ·rename_i h2;cases h2
 ·unfold Cell.ok at h
  split at h
  all_goals first
   |(rename_i h2;cases h2;done)
   |(rename_i h2 h3;cases h3;done)
   |(rename_i h2 h3;cases h3;exact h.2.2.2.1)
   |exact h.elim
section
variable {H:Type} {enc':TypeId×Value→H} {P:Program} {w:World} {base b2:Nat} {sp:Nat→Bool} {held:Bool}
theorem open_agg {t:TypeId} {v:Value} {d:DataW H} {ps:List MemPlace} {fs:Array Field} {ls:List Lf} {dd:Nat} (hu:P.underlying t=some (.struct fs)) (hok:Value.okWide P w .any b2 t v) (h:DataW.Trod enc' P w base sp held t v d ps) (hlf:z27 P dd t=some ls):
  ∃cs xs ss,v= .agg (List.toArray cs)∧LfsOK w ls cs xs ss:=by
 unfold Value.okWide at hok
 rw [hu] at hok
 obtain ⟨cs,rfl,hsz,ts,hts,hn,hrow⟩:=hok
 obtain ⟨fuel,hf⟩:=h
 obtain ⟨xs,ss,hl⟩:=qrv dd hlf hf (.inr fun v hv=>by
  have hv':v∈cs.toList:=hv
  obtain ⟨i,hi⟩:=List.getElem?_of_mem hv'
  obtain ⟨u,_,hu2⟩:=hrow i v (by simpa using hi)
  exact quz hu2)
 exact ⟨cs.toList,xs,ss,by cases cs;rfl,hl⟩
end
theorem LfsOK.at {w:World} {k:Option IntKind}:∀{ls:List Lf} {cs:List Value} {xs:List Int} {ss:List (Nat×Nat×Nat)} (i:Nat),LfsOK w ls cs xs ss→ls[i]? =some (.num k)→inK k (xs.getD i 0)
 |_,_,_,_,i,.nil,h=>by cases i<;>cases h
 |_,_,_,_,0,.num hk t,h=>by cases h;exact hk
 |_,_,_,_,i+1,.num hk t,h=>by rw [List.getD_cons_succ];exact LfsOK.at i t h
 |_,_,_,_,0,.sl hk t,h=>by cases h
 |_,_,_,_,i+1,.sl hk t,h=>by rw [List.getD_cons_succ];exact LfsOK.at i t h
theorem LfsOK.atL {w:World} {e:TypeId} {ks:Ks}:∀{ls:List Lf} {cs:List Value} {xs:List Int} {ss:List (Nat×Nat×Nat)} (i:Nat),LfsOK w ls cs xs ss→ls[i]? =some (.sl e ks)→(dec (xs.getD i 0)).length≤maxLen
 |_,_,_,_,i,.nil,h=>by cases i<;>cases h
 |_,_,_,_,0,.num hk t,h=>by cases h
 |_,_,_,_,i+1,.num hk t,h=>by rw [List.getD_cons_succ];exact LfsOK.atL i t h
 |_,_,_,_,0,.sl hk t,h=>by rw [List.getD_cons_zero,qan];exact hk.l
 |_,_,_,_,i+1,.sl hk t,h=>by rw [List.getD_cons_succ];exact LfsOK.atL i t h
def slN:List Lf→Nat
 |[]=>0
 | .num _::r=>slN r
 | .sl _ _::r=>slN r+1
theorem LfsOK.slen {w:World}:∀{ls:List Lf} {cs:List Value} {xs:List Int} {ss:List (Nat×Nat×Nat)},LfsOK w ls cs xs ss→ss.length=slN ls
 |_,_,_,_,.nil=>rfl
 |_,_,_,_,.num _ t=>by rw [slN];exact LfsOK.slen t
 |_,_,_,_,.sl _ t=>by rw [slN,List.length_cons,LfsOK.slen t]
section
variable {H:Type} {enc':TypeId×Value→H} {P:Program} {w:World} {base b2:Nat} {sp:Nat→Bool} {held:Bool}
theorem open_slice {t e:TypeId} {v:Value} {d:DataW H} {ps:List MemPlace} {ls:List Lf} {dd:Nat} (hu:P.underlying t=some (.slice e)) (hok:Value.okWide P w .any b2 t v) (h:DataW.Trod enc' P w base sp held t v d ps) (hlf:z27 P dd t=some ls):
  ∃xs ss,LfsOK w ls [v] xs ss:=by
 unfold Value.okWide at hok
 rw [hu] at hok
 obtain ⟨fuel,hf⟩:=h
 have hv:v.cells.toList=[v]:=by
  unfold Cell.okWide at hok
  cases v<;>first |rfl |skip
  all_goals simp [Cell.ok,hu] at hok
 rw [hv] at hf
 exact qrv dd hlf hf (.inr fun u hu2=>by
  simp only [List.mem_singleton] at hu2
  subst hu2
  exact quz hok)
end
end Go.Proofs.YtilkebpcjklmfaaGreat.Own
namespace Go.Proofs.YtilkebpcjklmfaaGreat.Own
open Go Go.RowKit Go.Proofs
set_option maxRecDepth 100000
set_option maxHeartbeats 40000000
def fsK (p:Bool×Nat):IntKind:=match p.1 with |true=> .u64 |false=> .i64
theorem nrm_K (p:Bool×Nat) (z:Int):nrm p z=(fsK p).wrap z:=by obtain ⟨b,j⟩:=p;cases b<;>rfl
def qht:List (Bool×Nat)→Nat→Bool
 |[],_=>true
 |p::r,k=>Nat.beq p.2 k&&qht r (k+1)
def NrmQ (fs:List (Bool×Nat)) (row:List Int):Prop:=row.length=fs.length∧∀j p,fs[j]? =some p→nrm p (row.getD j 0)=row.getD j 0
theorem qwl:∀{fs:List (Bool×Nat)} {k:Nat},qht fs k=true→∀j p,fs[j]? =some p→p.2=k+j
 |[],_,_,j,p,h=>by simp at h
 |q::r,k,h,0,p,hp=>by
  simp only [qht,Bool.and_eq_true] at h
  simp at hp;subst hp
  exact Nat.eq_of_beq_eq_true h.1
 |q::r,k,h,j+1,p,hp=>by
  simp only [qht,Bool.and_eq_true] at h
  have:=qwl h.2 j p (by simpa using hp)
  omega
theorem zor {fs:List (Bool×Nat)} (he:qht fs 0=true) {row:List Int} (h:NrmQ fs row):z1y fs row:=by
 unfold z1y
 apply List.ext_getElem (by rw [List.length_map];exact h.1)
 intro j h1 h2
 rw [List.getElem_map]
 have hj:j<fs.length:=by rw [←h.1];exact h1
 have e1:fs[j]? =some fs[j]:=List.getElem?_eq_getElem hj
 have e2:=qwl he j _ e1
 have e3:=h.2 j _ e1
 rw [e2,Nat.zero_add,e3]
 simp [h1]
theorem z57 {fs:List (Bool×Nat)} (he:qht fs 0=true) {row:List Int} (h:z1y fs row):NrmQ fs row:=by
 have hl:row.length=fs.length:=by unfold z1y at h;rw [h,List.length_map]
 refine ⟨hl,fun j p hp=> ?_⟩
 have e2:=qwl he j p hp
 have hj:j<fs.length:=by
  rcases Nat.lt_or_ge j fs.length with q |q
  ·exact q
  ·rw [List.getElem?_eq_none q] at hp;cases hp
 have:row.getD j 0=nrm p (row.getD p.2 0):=by
  have h2:row[j]? =(fs.map fun p=>nrm p (row.getD p.2 0))[j]? :=congrArg (fun l:List Int=>l[j]?) h
  rw [List.getElem?_map,hp] at h2
  rw [List.getD_eq_getElem?_getD,h2];rfl
 rw [e2,Nat.zero_add] at this
 exact this.symm
def zhf:List (Bool×Nat)→SE→Bool
 |_,.nil=>true
 |p::r,.cons t az=>decide (t.ty=some (some (fsK p)))&&zhf r az
 |_,_=>false
def q20:SE→Nat
 | .cons _ az=>q20 az+1
 |_=>0
theorem zo9 {E:Env}:∀{fs:List (Bool×Nat)} {az:SE},zhf fs az=true→(az.vals E).length=q20 az∧q20 az≤fs.length∧∀j p,j<q20 az→fs[j]? =some p→nrm p ((az.vals E).getD j 0)=(az.vals E).getD j 0:=by
 intro fs az
 induction az generalizing fs with
 |nil=>intro _;exact ⟨by simp only [SE.vals,q20];rfl,Nat.zero_le _,fun j p hj _=>by simp [q20] at hj⟩
 |cons t az _ ih=>
  intro h
  match fs,h with
  |p::r,h=>
   simp only [zhf,Bool.and_eq_true,decide_eq_true_eq] at h
   obtain ⟨h1,h2,h3⟩:=ih h.2
   refine ⟨by simp only [SE.vals,q20,List.length_cons,h1],by simp only [q20,List.length_cons];omega,fun j q hj hq=> ?_⟩
   cases j with
   |zero=>
    simp at hq;subst hq
    simp only [SE.vals,List.getD_cons_zero]
    rw [nrm_K];exact qbn E h.1
   |succ j=>
    simp only [SE.vals,List.getD_cons_succ]
    exact h3 j q (by simp only [q20] at hj;omega) (by simpa using hq)
  |[],h=>simp [zhf] at h
 |_=>intro h;cases fs<;>simp [zhf] at h
def Shp (fs:List (Bool×Nat)) (n:Int):Prop:=zla fs (dec n)∧Cod n
def zhc (K:List (Nat×List (Bool×Nat))) (fs:List (Bool×Nat)):SE→Bool
 | .lvar j=>K.any fun k=>Nat.beq k.1 j&&decide (k.2=fs)
 | .lnil=>true
 | .lcat a b=>zhc K fs a&&zhc K fs b
 | .lone az=>zhf fs az&&Nat.beq (q20 az) fs.length
 | .lrep _ az=>zhf fs az&&Nat.beq (q20 az) fs.length
 | .lset x _ off az=>zhc K fs x&&(zhf (fs.drop off) az&&Nat.ble (off+q20 az) fs.length)
 |_=>false
theorem zfg {E:Env} {fs:List (Bool×Nat)} (he:qht fs 0=true) {az:SE} (h:(zhf fs az&&Nat.beq (q20 az) fs.length)=true):z1y fs (az.vals E):=by
 simp only [Bool.and_eq_true] at h
 obtain ⟨h1,_,h3⟩:=zo9 (E:=E) h.1
 have hl:=Nat.eq_of_beq_eq_true h.2
 refine zor he ⟨h1.trans hl,fun j p hp=> ?_⟩
 have hj:j<fs.length:=by
  rcases Nat.lt_or_ge j fs.length with q |q
  ·exact q
  ·rw [List.getElem?_eq_none q] at hp;cases hp
 exact h3 j p (by omega) hp
theorem zjm {E:Env} {fs:List (Bool×Nat)} {row:List Int} (h:NrmQ fs row) {off:Nat} {az:SE} (ht:zhf (fs.drop off) az=true) (hb:off+q20 az≤fs.length):NrmQ fs (qb1 row off (az.vals E)):=by
 obtain ⟨h1,_,h3⟩:=zo9 (E:=E) ht
 have hm:max row.length (off+(az.vals E).length)=fs.length:=by rw [h.1,h1];omega
 refine ⟨by unfold qb1;rw [List.length_map,List.length_range,hm],fun j p hp=> ?_⟩
 have hj:j<fs.length:=by
  rcases Nat.lt_or_ge j fs.length with q |q
  ·exact q
  ·rw [List.getElem?_eq_none q] at hp;cases hp
 have hg:(qb1 row off (az.vals E)).getD j 0=if off≤j∧j<off+(az.vals E).length then (az.vals E).getD (j - off) 0 else row.getD j 0:=by
  unfold qb1
  rw [hm,List.getD_eq_getElem?_getD,List.getElem?_map,List.getElem?_range hj];rfl
 rw [hg]
 by_cases q:off≤j∧j<off+(az.vals E).length
 ·rw [if_pos q]
  exact h3 (j - off) p (by omega) (by rw [List.getElem?_drop,show off+(j - off)=j by omega];exact hp)
 ·rw [if_neg q];exact h.2 j p hp
theorem z2i {E:Env} {K:List (Nat×List (Bool×Nat))} {fs:List (Bool×Nat)} (he:qht fs 0=true) (hK:∀k∈K,Shp k.2 (E.iv k.1)):∀{x:SE},zhc K fs x=true→Shp fs (x.val E):=by
 intro x
 induction x with
 |lvar j=>
  intro h
  obtain ⟨k,hk,h2⟩:=List.any_eq_true.1 h
  simp only [Bool.and_eq_true,decide_eq_true_eq] at h2
  have:=hK k hk
  rw [Nat.eq_of_beq_eq_true h2.1,h2.2] at this
  simp only [SE.val];exact this
 |lnil=>
  intro _
  have e:(SE.lnil).val E=enc []:=by simp only [SE.val]
  rw [e];exact ⟨(by rw [qan];intro r hr;cases hr),[],rfl⟩
 |lcat a b iha ihb=>
  intro h
  simp only [zhc,Bool.and_eq_true] at h
  have e:(SE.lcat a b).val E=enc (dec (a.val E)++dec (b.val E)):=by simp only [SE.val]
  rw [e]
  refine ⟨?_,_,rfl⟩
  rw [qan]
  intro r hr
  rcases List.mem_append.1 hr with hr |hr
  ·exact (iha h.1).1 r hr
  ·exact (ihb h.2).1 r hr
 |lone az _=>
  intro h
  have e:(SE.lone az).val E=enc [az.vals E]:=by simp only [SE.val]
  rw [e]
  refine ⟨?_,_,rfl⟩
  rw [qan]
  intro r hr
  rw [List.mem_singleton] at hr;subst hr
  exact zfg he h
 |lrep n az _ _=>
  intro h
  have e:(SE.lrep n az).val E=enc (List.replicate (n.val E).toNat (az.vals E)):=by simp only [SE.val]
  rw [e]
  refine ⟨?_,_,rfl⟩
  rw [qan]
  intro r hr
  rw [List.eq_of_mem_replicate hr]
  exact zfg he h
 |lset x i off az ihx _ _=>
  intro h
  simp only [zhc,Bool.and_eq_true,Nat.ble_eq] at h
  have e:(SE.lset x i off az).val E=enc (qkn (dec (x.val E)) (i.val E).toNat off (az.vals E)):=by simp only [SE.val]
  rw [e]
  refine ⟨?_,_,rfl⟩
  rw [qan]
  intro r hr
  have hx:=(ihx h.1).1
  unfold qkn at hr
  rcases Nat.lt_or_ge (i.val E).toNat (dec (x.val E)).length with q |q
  ·rcases List.mem_or_eq_of_mem_set hr with hr |hr
   ·exact hx r hr
   ·subst hr
    have hm:(dec (x.val E)).getD (i.val E).toNat []=(dec (x.val E))[(i.val E).toNat]:=by simp [q]
    have:=hx _ (List.getElem_mem q)
    rw [←hm] at this
    exact zor he (zjm (z57 he this) h.2.1 h.2.2)
  ·rw [List.set_eq_of_length_le q] at hr
   exact hx r hr
 |_=>intro h;simp [zhc] at h
def zj9 (K O:List (Nat×List (Bool×Nat))):RT→Bool
 | .next ys=>K.all fun k=>match ys[k.1]? with |some y=>zhc K k.2 y |none=>false
 | .out _ ys=>O.all fun k=>match ys[k.1]? with |some y=>zhc K k.2 y |none=>false
 | .ask _ t e=>zj9 K O t&&zj9 K O e
 | .know _ _ t=>zj9 K O t
theorem zoc {E:Env} {K:List (Nat×List (Bool×Nat))} (he:∀k∈K,Shp k.2 (E.iv k.1)) {O:List (Nat×List (Bool×Nat))} (hO:∀k∈O,qht k.2 0=true) {ys:List SE} (h:(O.all fun k=>match ys[k.1]? with |some y=>zhc K k.2 y |none=>false)=true):∀k∈O,Shp k.2 ((ys.map (SE.val E)).getD k.1 0):=by
 intro k hk
 have:=List.all_eq_true.1 h k hk
 split at this
 ·rename_i y hy
  have e:(ys.map (SE.val E)).getD k.1 0=y.val E:=by rw [List.getD_eq_getElem?_getD,List.getElem?_map,hy];rfl
  rw [e];exact z2i (hO k hk) he this
 ·cases this
theorem qmc {E:Env} {K O:List (Nat×List (Bool×Nat))} (hK:∀k∈K,Shp k.2 (E.iv k.1)) (heK:∀k∈K,qht k.2 0=true) (heO:∀k∈O,qht k.2 0=true):∀{t:RT},zj9 K O t=true→
  (∀zs,t.get E=(none,zs)→∀k∈K,Shp k.2 (zs.getD k.1 0))∧(∀e zs,t.get E=(some e,zs)→∀k∈O,Shp k.2 (zs.getD k.1 0))
 | .next ys,h=>⟨fun zs hz=>(by simp only [RT.get] at hz;cases hz;exact zoc hK heK h),fun e zs hz=>(by simp only [RT.get] at hz;cases hz)⟩
 | .out _ ys,h=>⟨fun zs hz=>(by simp only [RT.get] at hz;cases hz),fun e zs hz=>(by simp only [RT.get] at hz;cases hz;exact zoc hK heO h)⟩
 | .know _ _ t,h=>by
  have:=qmc hK heK heO (t:=t) h
  simp only [RT.get];exact this
 | .ask x t e,h=>by
  simp only [zj9,Bool.and_eq_true] at h
  simp only [RT.get]
  cases hb:(x.val E !=0) with
  |true=>simp only [cond_true];exact qmc hK heK heO h.1
  |false=>simp only [cond_false];exact qmc hK heK heO h.2
theorem shp_0 (fs:List (Bool×Nat)):Shp fs 0:=by
 have e:(0:Int)=enc []:=rfl
 rw [e];exact ⟨(by rw [qan];intro r hr;cases hr),[],rfl⟩
theorem zao {T:RT} {F:Nat→List Int→List Int} {K O:List (Nat×List (Bool×Nat))} (hT:zj9 K O T=true) (heK:∀k∈K,qht k.2 0=true) (heO:∀k∈O,qht k.2 0=true):
  ∀(n j:Nat) (xs:List Int),(∀k∈K,Shp k.2 (xs.getD k.1 0))→∀e ys,qkx (fun _=>T) F j n xs=some (e,ys)→∀k∈O,Shp k.2 (ys.getD k.1 0)
 |0,_,_,_,e,ys,h=>by cases h
 |n+1,j,xs,hx,e,ys,h=>by
  unfold qkx at h
  have hs:=qmc (E:=qaa F xs) (K:=K) (O:=O) hx heK heO hT
  cases hg:T.get (qaa F xs) with
  |mk a zs=>
   rw [hg] at h
   cases a with
   |none=>exact zao hT heK heO n (j+1) zs (hs.1 zs hg) e ys h
   |some e'=>cases h;exact hs.2 _ _ hg
theorem qor {T:RT} {I:List SE} {U:List Int→Nat} {F:Nat→List Int→List Int} {xs:List Int} {K O:List (Nat×List (Bool×Nat))} (hT:zj9 K O T=true) (heK:∀k∈K,qht k.2 0=true) (heO:∀k∈O,qht k.2 0=true)
  (hI:∀k∈K,Shp k.2 ((I.map (SE.val (qaa F xs))).getD k.1 0)):∀k∈O,Shp k.2 ((qfv I (fun _=>T) U F xs).getD (k.1+1) 0):=by
 intro k hk
 unfold qfv
 cases hr:qkx (fun _=>T) F 0 (U xs) (I.map (SE.val (qaa F xs))) with
 |none=>exact shp_0 k.2
 |some p=>obtain ⟨e,ys⟩:=p;exact zao hT heK heO (U xs) 0 _ hI e ys hr k hk
theorem qoo {E:Env} {fs:List (Bool×Nat)}:Shp fs (SE.lnil.val E):=by
 have e:(SE.lnil).val E=enc []:=by simp only [SE.val]
 rw [e];exact ⟨(by rw [qan];intro r hr;cases hr),[],rfl⟩
theorem q26 {K:List (Nat×List (Bool×Nat))} (h:(K.all fun k=>qht k.2 0)=true):∀k∈K,qht k.2 0=true:=fun k hk=>List.all_eq_true.1 h k hk
section
variable {F:Nat→List Int→List Int} {xs:List Int}
theorem z4g:Shp gbfs ((boG F xs).getD 1 0):=qor (T:=boT) (K:=[(1,gbfs)]) (O:=[(0,gbfs)]) (by kernel_rfl) (q26 (by kernel_rfl)) (q26 (by kernel_rfl)) (fun k hk=>by
  rcases List.mem_cons.1 hk with rfl |hk
  ·exact qoo (E:=qaa F xs)
  ·cases hk) (0,gbfs) (.head _)
theorem yg5:Shp gafs ((waG F xs).getD 8 0):=qor (T:=waT) (K:=[(7,gafs)]) (O:=[(7,gafs)]) (by kernel_rfl) (q26 (by kernel_rfl)) (q26 (by kernel_rfl)) (fun k hk=>by
  rcases List.mem_cons.1 hk with rfl |hk
  ·exact qoo (E:=qaa F xs)
  ·cases hk) (7,gafs) (.head _)
theorem yep:Shp grfs ((raG F xs).getD 1 0):=qor (T:=raT) (K:=[(1,grfs)]) (O:=[(0,grfs)]) (by kernel_rfl) (q26 (by kernel_rfl)) (q26 (by kernel_rfl)) (fun k hk=>by
  rcases List.mem_cons.1 hk with rfl |hk
  ·exact qoo (E:=qaa F xs)
  ·cases hk) (0,grfs) (.head _)
theorem yar:Shp gtfs ((twG F xs).getD 8 0):=qor (T:=twT) (K:=[(8,gtfs)]) (O:=[(7,gtfs)]) (by kernel_rfl) (q26 (by kernel_rfl)) (q26 (by kernel_rfl)) (fun k hk=>by
  rcases List.mem_cons.1 hk with rfl |hk
  ·exact qoo (E:=qaa F xs)
  ·cases hk) (7,gtfs) (.head _)
theorem z5s:Shp gefs ((xvG F xs).getD 11 0):=qor (T:=xvT) (K:=[(11,gefs)]) (O:=[(10,gefs)]) (by kernel_rfl) (q26 (by kernel_rfl)) (q26 (by kernel_rfl)) (fun k hk=>by
  rcases List.mem_cons.1 hk with rfl |hk
  ·exact qoo (E:=qaa F xs)
  ·cases hk) (10,gefs) (.head _)
theorem zb1 {j:Nat} {fs:List (Bool×Nat)} (h:Shp fs (xs.getD j 0)):Shp fs ((SE.lvar j).val (qaa F xs)):=by rw [show (SE.lvar j).val (qaa F xs)=xs.getD j 0 from lvar_at];exact h
theorem zn4 (h6:Shp gbfs (xs.getD 6 0)) (h7:Shp gafs (xs.getD 7 0)):Shp gafs ((clG F xs).getD 8 0)∧Shp gbfs ((clG F xs).getD 9 0):=by
 have:=qor (T:=clT) (I:=clI) (U:=clU) (F:=F) (xs:=xs) (K:=[(7,gafs),(8,gbfs)]) (O:=[(7,gafs),(8,gbfs)]) (by kernel_rfl) (q26 (by kernel_rfl)) (q26 (by kernel_rfl)) (fun k hk=>by
  rcases List.mem_cons.1 hk with rfl |hk
  ·exact zb1 (F:=F) h7
  ·rcases List.mem_cons.1 hk with rfl |hk
   ·exact zb1 (F:=F) h6
   ·cases hk)
 exact ⟨this (7,gafs) (.head _),this (8,gbfs) (.tail _ (.head _))⟩
theorem z7c (h:Shp gbfs (xs.getD 10 0)):Shp gbfs ((wlG F xs).getD 11 0):=qor (T:=wlT) (K:=[(10,gbfs)]) (O:=[(10,gbfs)]) (by kernel_rfl) (q26 (by kernel_rfl)) (q26 (by kernel_rfl)) (fun k hk=>by
  rcases List.mem_cons.1 hk with rfl |hk
  ·exact zb1 (F:=F) h
  ·cases hk) (10,gbfs) (.head _)
end
end Go.Proofs.YtilkebpcjklmfaaGreat.Own
namespace Go.Proofs.YtilkebpcjklmfaaGreat.Own
open Go Go.RowKit Go.Proofs Go.Proofs.YtilkebpcjklmfaaGreat.Plain
set_option maxRecDepth 100000
set_option maxHeartbeats 40000000
noncomputable def ceE (xs:List Int):Env:=qaa (FT qgs) xs
noncomputable def ceX (xs:List Int):List Int:=[xs.getD 0 0,enc [],enc [],enc [],0]
def ceL0:SE:= .lap 20051 1 (.cons (.lvar 0) .nil)
def ceL3:SE:= .lap 20052 8 (.cons (.lit .i64 1) (.cons (.lit .u64 0) (.cons (.lit .u64 0) (.cons (.lit .u64 0) (.cons (.lit .i64 0) (.cons (.lit .i64 0) (.cons .lnil .nil)))))))
def ceA1:SE:= .cons (.lit .i64 1) (.cons (.lit .u64 0) (.cons (.lit .u64 0) (.cons (.lit .u64 0) (.cons (.lit .i64 0) (.cons (.lit .i64 0) (.cons ceL0 (.cons ceL3 .nil)))))))
def ceL7:SE:= .lap 20053 9 ceA1
def ceL8:SE:= .lap 20053 8 ceA1
def ceL9:SE:= .lap 20054 8 (.cons .lnil (.cons (.lit .i64 1) (.cons (.lit .u64 0) (.cons (.lit .u64 0) (.cons (.lit .u64 0) (.cons (.lit .i64 0) (.cons (.lit .i64 0) (.cons ceL0 (.cons ceL8 (.cons ceL7 .nil))))))))))
def ceL10:SE:= .lap 20056 11 (.cons .lnil (.cons (.lit .i64 1) (.cons (.lit .u64 0) (.cons (.lit .u64 0) (.cons (.lit .u64 0) (.cons (.lit .i64 0) (.cons (.lit .i64 0) (.cons ceL0 (.cons ceL9 (.cons ceL8 (.cons ceL7 .nil)))))))))))
def ceL6:SE:= .lap 20057 1 (.cons .lnil .nil)
theorem ce51:FT qgs 20051=FT qcn 20051:=by kernel_rfl
theorem ce52:FT qgs 20052=FT qcn 20052:=by kernel_rfl
theorem ce53:FT qgs 20053=FT qcn 20053:=by kernel_rfl
theorem ce54:FT qgs 20054=FT qcn 20054:=by kernel_rfl
theorem ce56:FT qgs 20056=FT qcn 20056:=by kernel_rfl
theorem qx9 {e:Env}:SE.lnil.val e=enc []:=by simp only [SE.val]
theorem z8f:wrK (some .i64) ((FT qcn 33 [1]).getD 0 0)=1:=by kernel_rfl
theorem yd1:wrK (some .u64) ((FT qcn 33 [1]).getD 1 0)=0:=by kernel_rfl
theorem shl0 (n:Int):qbg .shl .u64 (IntKind.u64.wrap 0) n=0:=by
 show IntKind.u64.wrap (0 * _)=0
 rw [Int.zero_mul];rfl
section
variable {xs:List Int}
theorem ya3:(SE.ivar .u8 4).val (qac (ceX xs))=0:=rfl
theorem ydn:wtL1.val (qac (ceX xs))=1:=by
 unfold wtL1 qac
 rw [qgk]
 have:(SE.cons (.bin .add .i64 (.lit .i64 1) (.bin .rem .i64 (.conv .i64 (.ivar .u8 4)) (.lit .i64 3))) .nil).vals (qaa (FT qcn) (ceX xs))=[1]:=rfl
 rw [this];exact z8f
theorem z5w:wtL2.val (qac (ceX xs))=0:=by
 unfold wtL2 qac
 rw [qgk]
 have:(SE.cons (.bin .add .i64 (.lit .i64 1) (.bin .rem .i64 (.conv .i64 (.ivar .u8 4)) (.lit .i64 3))) .nil).vals (qaa (FT qcn) (ceX xs))=[1]:=rfl
 rw [this];exact yd1
theorem zb9:(SE.bin .shl .u64 (.conv .u64 (.ivar .u8 4)) (.lit .u64 56)).val (qac (ceX xs))=0:=by
 have e:(SE.bin .shl .u64 (.conv .u64 (.ivar .u8 4)) (.lit .u64 56)).val (qac (ceX xs))=qbg .shl .u64 (IntKind.u64.wrap ((SE.ivar .u8 4).val (qac (ceX xs)))) ((SE.lit .u64 56).val (qac (ceX xs))):=by simp only [SE.val]
 rw [e,ya3];exact shl0 _
theorem zey:(SE.bin .shl .u64 (.conv .u64 (.bin .rem .u8 (.ivar .u8 4) (.lit .u8 4))) (.lit .u64 62)).val (qac (ceX xs))=0:=by
 have e:(SE.bin .shl .u64 (.conv .u64 (.bin .rem .u8 (.ivar .u8 4) (.lit .u8 4))) (.lit .u64 62)).val (qac (ceX xs))=qbg .shl .u64 (IntKind.u64.wrap ((SE.bin .rem .u8 (.ivar .u8 4) (.lit .u8 4)).val (qac (ceX xs)))) ((SE.lit .u64 62).val (qac (ceX xs))):=by simp only [SE.val]
 have e2:(SE.bin .rem .u8 (.ivar .u8 4) (.lit .u8 4)).val (qac (ceX xs))=0:=rfl
 rw [e,e2];exact shl0 _
theorem zal:(SE.bin .rem .i64 (.bin .quo .i64 (.conv .i64 (.ivar .u8 4)) (.lit .i64 4)) (.lit .i64 2)).val (qac (ceX xs))=0:=rfl
theorem q7o:(SE.bin .rem .i64 (.bin .quo .i64 (.conv .i64 (.ivar .u8 4)) (.lit .i64 8)) (.lit .i64 2)).val (qac (ceX xs))=0:=rfl
theorem zcg:(SE.lit .i64 1).val (ceE xs)=1:=by rw [qai];rfl
theorem zev:(SE.lit .i64 0).val (ceE xs)=0:=by rw [qai];rfl
theorem zfh:(SE.lit .u64 0).val (ceE xs)=0:=by rw [qai];rfl
theorem zm3:(SE.lvar 1).val (qac (ceX xs))=enc []:=lvar_at
theorem zl9:(SE.lvar 3).val (qac (ceX xs))=enc []:=lvar_at
theorem qyd:ceL0.val (ceE xs)=wtL0.val (qac (ceX xs)):=by
 unfold ceL0 wtL0 ceE qac
 rw [qcp,qcp,ce51];simp only [qab,qad,lvar_at];rfl
theorem zxl:ceL3.val (ceE xs)=wtL3.val (qac (ceX xs)):=by
 have h1:ceL3.val (ceE xs)=(FT qcn 20052 [1,0,0,0,0,0,enc []]).getD 8 0:=by
  have h:= @zcg xs;have h':= @zev xs;have h'':= @zfh xs
  unfold ceE at h h' h''
  unfold ceL3 ceE;rw [qcp,ce52];simp only [qab,qad,h,h',h'',qx9]
 have h2:wtL3.val (qac (ceX xs))=(FT qcn 20052 [1,0,0,0,0,0,enc []]).getD 8 0:=by
  have g1:= @ydn xs;have g2:= @z5w xs;have g3:= @zb9 xs;have g4:= @zey xs;have g5:= @zal xs;have g6:= @q7o xs
  unfold qac at g1 g2 g3 g4 g5 g6
  unfold wtL3 qac;rw [qcp];simp only [qab,qad,g1,g2,g3,g4,g5,g6,qx9]
 rw [h1,h2]
theorem z18:ceL7.val (ceE xs)=wtL7.val (qac (ceX xs)):=by
 have h1:ceL7.val (ceE xs)=(FT qcn 20053 [1,0,0,0,0,0,wtL0.val (qac (ceX xs)),wtL3.val (qac (ceX xs))]).getD 9 0:=by
  have h:= @zcg xs;have h':= @zev xs;have h'':= @zfh xs
  have c0:= @qyd xs
  have c3:= @zxl xs
  unfold ceE at h h' h'' c0 c3
  unfold ceL7 ceA1 ceE;rw [qcp,ce53];simp only [qab,qad,h,h',h'',qx9,c0,c3]
 have h2:wtL7.val (qac (ceX xs))=(FT qcn 20053 [1,0,0,0,0,0,wtL0.val (qac (ceX xs)),wtL3.val (qac (ceX xs))]).getD 9 0:=by
  have g1:= @ydn xs;have g2:= @z5w xs;have g3:= @zb9 xs;have g4:= @zey xs;have g5:= @zal xs;have g6:= @q7o xs;have v1:= @zm3 xs;have v3:= @zl9 xs
  unfold qac at g1 g2 g3 g4 g5 g6 v1 v3 ⊢
  unfold wtL7;rw [qcp];simp only [qab,qad,g1,g2,g3,g4,g5,g6,v1,v3]
 rw [h1,h2]
theorem yc7:ceL8.val (ceE xs)=wtL8.val (qac (ceX xs)):=by
 have h1:ceL8.val (ceE xs)=(FT qcn 20053 [1,0,0,0,0,0,wtL0.val (qac (ceX xs)),wtL3.val (qac (ceX xs))]).getD 8 0:=by
  have h:= @zcg xs;have h':= @zev xs;have h'':= @zfh xs
  have c0:= @qyd xs
  have c3:= @zxl xs
  unfold ceE at h h' h'' c0 c3
  unfold ceL8 ceA1 ceE;rw [qcp,ce53];simp only [qab,qad,h,h',h'',qx9,c0,c3]
 have h2:wtL8.val (qac (ceX xs))=(FT qcn 20053 [1,0,0,0,0,0,wtL0.val (qac (ceX xs)),wtL3.val (qac (ceX xs))]).getD 8 0:=by
  have g1:= @ydn xs;have g2:= @z5w xs;have g3:= @zb9 xs;have g4:= @zey xs;have g5:= @zal xs;have g6:= @q7o xs;have v1:= @zm3 xs;have v3:= @zl9 xs
  unfold qac at g1 g2 g3 g4 g5 g6 v1 v3 ⊢
  unfold wtL8;rw [qcp];simp only [qab,qad,g1,g2,g3,g4,g5,g6,v1,v3]
 rw [h1,h2]
theorem ce_L9:ceL9.val (ceE xs)=wtL9.val (qac (ceX xs)):=by
 have h1:ceL9.val (ceE xs)=(FT qcn 20054 [enc [],1,0,0,0,0,0,wtL0.val (qac (ceX xs)),wtL8.val (qac (ceX xs)),wtL7.val (qac (ceX xs))]).getD 8 0:=by
  have h:= @zcg xs;have h':= @zev xs;have h'':= @zfh xs
  have c0:= @qyd xs
  have c8:= @yc7 xs
  have c7:= @z18 xs
  unfold ceE at h h' h'' c0 c8 c7
  unfold ceL9 ceE;rw [qcp,ce54];simp only [qab,qad,h,h',h'',qx9,c0,c8,c7]
 have h2:wtL9.val (qac (ceX xs))=(FT qcn 20054 [enc [],1,0,0,0,0,0,wtL0.val (qac (ceX xs)),wtL8.val (qac (ceX xs)),wtL7.val (qac (ceX xs))]).getD 8 0:=by
  have g1:= @ydn xs;have g2:= @z5w xs;have g3:= @zb9 xs;have g4:= @zey xs;have g5:= @zal xs;have g6:= @q7o xs;have v1:= @zm3 xs;have v3:= @zl9 xs
  unfold qac at g1 g2 g3 g4 g5 g6 v1 v3 ⊢
  unfold wtL9;rw [qcp];simp only [qab,qad,g1,g2,g3,g4,g5,g6,v1,v3]
 rw [h1,h2]
theorem ya8:ceL10.val (ceE xs)=wtL10.val (qac (ceX xs)):=by
 have h1:ceL10.val (ceE xs)=(FT qcn 20056 [enc [],1,0,0,0,0,0,wtL0.val (qac (ceX xs)),wtL9.val (qac (ceX xs)),wtL8.val (qac (ceX xs)),wtL7.val (qac (ceX xs))]).getD 11 0:=by
  have h:= @zcg xs;have h':= @zev xs;have h'':= @zfh xs
  have c0:= @qyd xs
  have c9:= @ce_L9 xs
  have c8:= @yc7 xs
  have c7:= @z18 xs
  unfold ceE at h h' h'' c0 c9 c8 c7
  unfold ceL10 ceE;rw [qcp,ce56];simp only [qab,qad,h,h',h'',qx9,c0,c9,c8,c7]
 have h2:wtL10.val (qac (ceX xs))=(FT qcn 20056 [enc [],1,0,0,0,0,0,wtL0.val (qac (ceX xs)),wtL9.val (qac (ceX xs)),wtL8.val (qac (ceX xs)),wtL7.val (qac (ceX xs))]).getD 11 0:=by
  have g1:= @ydn xs;have g2:= @z5w xs;have g3:= @zb9 xs;have g4:= @zey xs;have g5:= @zal xs;have g6:= @q7o xs;have v1:= @zm3 xs;have v3:= @zl9 xs
  unfold qac at g1 g2 g3 g4 g5 g6 v1 v3 ⊢
  unfold wtL10;rw [qcp];simp only [qab,qad,g1,g2,g3,g4,g5,g6,v1,v3]
 rw [h1,h2]
end
def ceEv:SE:= .lap 20121 11 (.cons (.lvar 1) (.cons (.lit .i64 1) (.cons (.lit .u64 0) (.cons (.lit .u64 0) (.cons (.lit .u64 0) (.cons (.lit .i64 0) (.cons (.lit .i64 0) (.cons ceL0 (.cons ceL9 (.cons ceL6 (.cons ceL8 (.cons ceL10 .nil))))))))))))
def ceW:SE:= .cons (.lit .i64 1000) (.cons (.lit .i64 0) (.cons (.lit .u64 1152921504606846976) (.cons (.lit .i64 1) (.cons (.lit .u64 0) (.cons (.lit .i64 0) (.cons (.lit .u64 4611686018427387904) (.cons (.lit .i64 0) (.cons (.lit .u64 0) (.cons (.lit .i64 0) (.cons (.lit .u64 0) (.cons (.lit .i64 0) (.cons (.lit .i64 0) (.cons ceL10 (.cons ceL9 (.cons ceL6 (.cons ceL8 (.cons (.conv .i64 (.bin .rem .u32 (.ivar .u32 2) (.lit .u32 67108864))) (.cons (.conv .u64 (.ivar .u32 2)) (.cons (.ivar .i64 3) (.cons (.ivar .u64 4) (.cons (.ivar .i64 5) (.cons (.ivar .u64 6) (.cons ceEv .nil)))))))))))))))))))))))
def ceA10:SE:= .cons .lnil (.cons (.lit .i64 1) (.cons (.lit .u64 0) (.cons (.lit .u64 0) (.cons (.lit .u64 0) (.cons (.lit .i64 0) (.cons (.lit .i64 0) (.cons ceL0 (.cons ceL9 (.cons ceL8 (.cons ceL7 .nil))))))))))
theorem ceb:FT qgs 20051=boG (FT qfo):=by kernel_rfl
theorem cew:FT qgs 20052=waG (FT qft):=by kernel_rfl
theorem cec:FT qgs 20053=clG (FT qju):=by kernel_rfl
theorem cet:FT qgs 20054=twG (FT qls):=by kernel_rfl
theorem cel:FT qgs 20056=wlG (FT qd9):=by kernel_rfl
theorem cer:FT qgs 20057=raG (FT qek):=by kernel_rfl
theorem cev:FT qgs 20121=xvG (FT qr5):=by kernel_rfl
theorem z83 {vs:List Int} (h:q5z vs≠0) (s13:Shp gbfs (vs.getD 13 0)) (s14:Shp gtfs (vs.getD 14 0)) (s15:Shp grfs (vs.getD 15 0)) (s16:Shp gafs (vs.getD 16 0)) (s23:Shp gefs (vs.getD 23 0)):WOK vs:=by
 obtain ⟨h13,h14,h15,h16,h23⟩:=qx_ (F:=FT qd_) (ys:=muA.vals (qaa (FT qdp) vs)) h
 exact ⟨h13,h14,h15,h16,h23,s13.1,s14.1,s15.1,s16.1,s23.1,s13.2,s14.2,s15.2,s16.2,s23.2⟩
section
variable {xs:List Int}
theorem ycc:Shp gbfs (ceL0.val (ceE xs)):=by unfold ceL0 ceE;rw [qcp,ceb];exact z4g
theorem ygi:Shp gafs (ceL3.val (ceE xs)):=by unfold ceL3 ceE;rw [qcp,cew];exact yg5
theorem shp_A:Shp gbfs ((ceA1.vals (ceE xs)).getD 6 0)∧Shp gafs ((ceA1.vals (ceE xs)).getD 7 0):=by
 unfold ceA1
 simp only [qab,qad,List.getD_cons_succ,List.getD_cons_zero]
 exact ⟨ycc,ygi⟩
theorem z6i:Shp gbfs (ceL7.val (ceE xs)):=by
 have:=(zn4 (F:=FT qju) (shp_A (xs:=xs)).1 shp_A.2).2
 unfold ceL7;unfold ceE at *;rw [qcp,cec];exact this
theorem ygw:Shp gafs (ceL8.val (ceE xs)):=by
 have:=(zn4 (F:=FT qju) (shp_A (xs:=xs)).1 shp_A.2).1
 unfold ceL8;unfold ceE at *;rw [qcp,cec];exact this
theorem z61:Shp gtfs (ceL9.val (ceE xs)):=by unfold ceL9 ceE;rw [qcp,cet];exact yar
theorem ye5:Shp grfs (ceL6.val (ceE xs)):=by unfold ceL6 ceE;rw [qcp,cer];exact yep
theorem zw8:Shp gbfs ((ceA10.vals (ceE xs)).getD 10 0):=by
 unfold ceA10
 simp only [qab,qad,List.getD_cons_succ,List.getD_cons_zero]
 exact z6i
theorem zrk:Shp gbfs (ceL10.val (ceE xs)):=by
 have h:=z7c (F:=FT qd9) (zw8 (xs:=xs))
 show Shp gbfs ((SE.lap 20056 11 ceA10).val (ceE xs))
 unfold ceE at *
 rw [qcp,cel]
 exact h
theorem z8_:Shp gefs (ceEv.val (ceE xs)):=by unfold ceEv ceE;rw [qcp,cev];exact z5s
noncomputable def ceV (xs:List Int):List Int:=ceW.vals (ceE xs)
theorem ce_at:(ceV xs).getD 13 0=ceL10.val (ceE xs)∧(ceV xs).getD 14 0=ceL9.val (ceE xs)∧(ceV xs).getD 15 0=ceL6.val (ceE xs)∧(ceV xs).getD 16 0=ceL8.val (ceE xs)∧(ceV xs).getD 23 0=ceEv.val (ceE xs):=by
 unfold ceV ceW
 simp only [qab,qad,List.getD_cons_succ,List.getD_cons_zero,and_self]
theorem zca (h:q5z (ceV xs)≠0):WOK (ceV xs):=by
 obtain ⟨e13,e14,e15,e16,e23⟩:=ce_at (xs:=xs)
 refine z83 h ?_ ?_ ?_ ?_ ?_
 ·rw [e13];exact zrk
 ·rw [e14];exact z61
 ·rw [e15];exact ye5
 ·rw [e16];exact ygw
 ·rw [e23];exact z8_
section
variable (h0:(dec (xs.getD 0 0)).length≤maxLen)
include h0
theorem za9:WtLen (ceX xs):=by
 have n:(dec (enc [])).length≤maxLen:=by rw [qan];exact Nat.zero_le _
 exact ⟨h0,n,n,n⟩
theorem ycu:(ceL0.lst (ceE xs)).length≤5:=by show (dec _).length≤5;rw [qyd];exact (qsu (za9 h0)).1
omit h0 in
theorem ce_n3:(ceL3.lst (ceE xs)).length=0:=by show (dec _).length=0;rw [zxl,zk2];rfl
theorem yf0:(ceL7.lst (ceE xs)).length=(ceL0.lst (ceE xs)).length:=by
 show (dec _).length=(dec _).length
 rw [z18,qyd,q4o (za9 h0),List.length_map]
theorem ybq:(ceL10.lst (ceE xs)).length=(ceL0.lst (ceE xs)).length:=by
 show (dec _).length=(dec _).length
 rw [ya8,qyd];exact (q3k (za9 h0)).1
theorem ce_k1:((SE.cmp .leq (.len ceL0) (.lit .i64 1000000)).val (ceE xs) !=0)=true:=qhh (n:=1000000) (by omega) (Nat.le_trans (ycu h0) (by omega))
omit h0 in
theorem ce_k2:((SE.cmp .eql (.len ceL3) (.lit .i64 0)).val (ceE xs) !=0)=true:=by
 rw [qce,qai,qgn,ce_n3];rfl
theorem ce_k3:((SE.cmp .leq (.len ceL7) (.lit .i64 1000000)).val (ceE xs) !=0)=true:=qhh (n:=1000000) (by omega) (by rw [yf0 h0];exact Nat.le_trans (ycu h0) (by omega))
theorem ce_k4:((SE.cmp .neq (.len ceL0) (.len ceL7)).val (ceE xs) !=0)=false:=qi9 (yf0 h0).symm
theorem ce_k5:((SE.cmp .neq (.len ceL0) (.len ceL10)).val (ceE xs) !=0)=false:=qi9 (ybq h0).symm
end
end
end Go.Proofs.YtilkebpcjklmfaaGreat.Own
