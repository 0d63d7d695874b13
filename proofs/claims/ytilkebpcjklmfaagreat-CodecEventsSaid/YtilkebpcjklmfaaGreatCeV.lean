/- CodecEvents: the law. -/
import Derived.Test.YtilkebpcjklmfaaGreatMyH
import Derived.Test.YtilkebpcjklmfaaGreatAwB
import Derived.Test.YtilkebpcjklmfaaGreatEvW
set_option linter.unusedVariables false
set_option linter.unusedSimpArgs false
set_option linter.unusedSectionVars false
namespace Go.Proofs.YtilkebpcjklmfaaGreat.Own
open Go Go.RowKit Go.Proofs Go.Proofs.YtilkebpcjklmfaaGreat.Plain
set_option maxRecDepth 100000
set_option maxHeartbeats 40000000
def ceP:SE:= .cons (.lap 30004 1 ceW) .nil
def ceS:SE:= .cons (.app 30005 1 (some .i64) ceP) (.cons (.app 30005 2 (some .i64) ceP) (.cons (.app 30005 3 (some .u64) ceP) (.cons (.app 30005 4 (some .i64) ceP) (.cons (.app 30005 5 (some .u64) ceP) (.cons (.app 30005 6 (some .i64) ceP) (.cons (.app 30005 7 (some .u64) ceP) (.cons (.app 30005 8 (some .i64) ceP) (.cons (.app 30005 9 (some .u64) ceP) (.cons (.app 30005 10 (some .i64) ceP) (.cons (.app 30005 11 (some .u64) ceP) (.cons (.app 30005 12 (some .i64) ceP) (.cons (.app 30005 13 (some .i64) ceP) (.cons (.lap 30005 14 ceP) (.cons (.lap 30005 15 ceP) (.cons (.lap 30005 16 ceP) (.cons (.lap 30005 17 ceP) (.cons (.app 30005 18 (some .i64) ceP) (.cons (.app 30005 19 (some .u64) ceP) (.cons (.app 30005 20 (some .i64) ceP) (.cons (.app 30005 21 (some .u64) ceP) (.cons (.app 30005 22 (some .i64) ceP) (.cons (.app 30005 23 (some .u64) ceP) (.cons (.lap 30005 24 ceP) (ceW))))))))))))))))))))))))
def ceT2:LT:= .know (.cmp .leq (.len (.lap 30004 1 ceW)) (.lit .i64 1000000)) true (.know (.cmp .leq (.len (.lap 30004 1 ceW)) (.lit .i64 100000)) true (.know (.app 30005 25 none ceP) true (.know (.app 30003 1 none ceS) true .done)))
def ceT:LT:= .know (.cmp .leq (.len ceL0) (.lit .i64 1000000)) true (.know (.cmp .eql (.len ceL3) (.lit .i64 0)) true (.know (.cmp .leq (.len ceL7) (.lit .i64 1000000)) true (.know (.cmp .neq (.len ceL0) (.len ceL7)) false (.know (.cmp .neq (.len ceL0) (.len ceL10)) false
 (.ask (.not (.app 30002 1 none ceW)) (.know (.seq (.lap 30004 1 ceW) (.lbs [])) true .done) ceT2)))))
def ceKL:List KEnt:=[⟨9,[],.one (.bool true)⟩]
theorem zx9:∀k∈ceKL,KE Tryz.prog k:=fun k hk=>by
 have hk:k∈[(⟨9,[],.one (.bool true)⟩:KEnt)]:=hk
 simp only [List.mem_singleton] at hk;subst hk
 exact ⟨fn rfl,_,_,rfl,rfl,qu3⟩
def ceK:qm7:=kL ceKL
theorem z9g:KOK Tryz.prog ceK:=yhf zx9
theorem z85:FBs Tryz.prog zjg qgs:=qyk yg_ (by kernel_rfl)
def zp2:List V:=[.one (.sli 0 (.lvar 0)),.one (.sli 1 (.lvar 1)),.one (.opq (.ivar .u32 2)),.agg [.opq (.ivar .i64 3),.opq (.ivar .u64 4),.opq (.ivar .i64 5),.opq (.ivar .u64 6)]]
def ceF:MB:=[(0,[.big (.lvar 0) [some .u8]],5,false),(1,[.big (.lvar 1) [some .u8]],5,false)]
theorem ygt:qjt (bW.loops zht) qgs ceK zjg 300 3 zp2 ceF 2 ceT []=true:=by kernel_rfl
theorem ce02:FT qgs 30002=qv0 mqT (FT qbs):=(qbt 5 (by kernel_rfl) (by kernel_rfl)).trans (by rw [qfb (Tb:=qba) rfl rfl])
theorem ce03:FT qgs 30003=FT qdw 30003:=qbt 2 (by kernel_rfl) (by kernel_rfl)
theorem ce04:FT qgs 30004=FT qdw 30004:=qbt 2 (by kernel_rfl) (by kernel_rfl)
theorem ce05:FT qgs 30005=qv0 mgT (FT qdw):=(qbt 1 (by kernel_rfl) (by kernel_rfl)).trans (by rw [qfb (Tb:=qod) rfl rfl])
theorem seq_v {e:Env} (a b:SE):((SE.seq a b).val e !=0)=decide (qa_ (a.lst e)=qa_ (b.lst e)):=by
 simp only [SE.val,qas];rfl
theorem gd_l {l m:List Int} {j:Nat} (h:j<l.length):(l++m).getD j 0=l.getD j 0:=by
 rw [List.getD_eq_getElem?_getD,List.getElem?_append_left h,←List.getD_eq_getElem?_getD]
theorem gd_r {l m:List Int} {j:Nat}:(l++m).getD (l.length+j) 0=m.getD j 0:=by
 rw [List.getD_eq_getElem?_getD,List.getElem?_append_right (Nat.le_add_right _ _),Nat.add_sub_cancel_left,←List.getD_eq_getElem?_getD]
theorem ce_us {e:Vl} {σ:List (Nat×Nat×Nat)} {A B D:C} {ds:List C} {us cs:List Value} (hu:∃a b c,us=[a,b,c]) (r:RelCs e σ (A::B::D::ds) (us++cs)):RelVs e σ [.one A,.one B,.one D,.agg ds] (us++[.agg (List.toArray cs)]):=by
 obtain ⟨a,b,c,rfl⟩:=hu
 cases r with |cons r1 t1=>cases t1 with |cons r2 t2=>cases t2 with |cons r3 t3=>
 exact .cons (.one r1) (.cons (.one r2) (.cons (.one r3) (.cons (.agg t3) .nil)))
section
variable {xs:List Int}
theorem zlt {F:Nat→List Int→List Int}:muA.vals (qaa F (ceV xs))=ceV xs:=by
 unfold ceV ceW muA
 simp only [qab,qad,q5y,zom,lvar_at,List.getD_cons_succ,List.getD_cons_zero]
 exact qbe (qbn _ rfl) (qbe (qbn _ rfl) (qbe (qbn _ rfl) (qbe (qbn _ rfl) (qbe (qbn _ rfl) (qbe (qbn _ rfl) (qbe (qbn _ rfl) (qbe (qbn _ rfl) (qbe (qbn _ rfl) (qbe (qbn _ rfl) (qbe (qbn _ rfl) (qbe (qbn _ rfl) (qbe (qbn _ rfl) (qbe (rfl) (qbe (rfl) (qbe (rfl) (qbe (rfl) (qbe (qbn _ rfl) (qbe (qbn _ rfl) (qbe (qbn _ rfl) (qbe (qbn _ rfl) (qbe (qbn _ rfl) (qbe (qbn _ rfl) (qbe (rfl) (rfl))))))))))))))))))))))))
noncomputable def ceB (xs:List Int):Int:=(FT qdw 30004 (ceV xs)).getD 1 0
theorem zj0:(SE.lap 30004 1 ceW).val (ceE xs)=ceB xs:=by
 unfold ceE;rw [qcp,ce04];rfl
theorem ceB_l:(SE.lap 30004 1 ceW).lst (ceE xs)=dec (ceB xs):=congrArg dec zj0
theorem z02:ceP.vals (ceE xs)=[ceB xs]:=by
 unfold ceP;rw [qab,qad,zj0]
theorem ceM_iff:q5z (ceV xs)≠0↔((SE.app 30002 1 none ceW).val (ceE xs) !=0)=true:=by
 unfold ceE
 rw [z1e ce02]
 unfold q5z
 rw [zlt,zh9]
 show _↔((mqT.get (qaa (FT qbs) (ceV xs))).2.getD 0 0 !=0)=true
 rw [bne_iff_ne]
theorem ce_no (q:((SE.not (.app 30002 1 none ceW)).val (ceE xs) !=0)=true):((SE.seq (.lap 30004 1 ceW) (.lbs [])).val (ceE xs) !=0)=true:=by
 rw [qec] at q
 have h:q5z (ceV xs)=0:=Decidable.byContradiction fun h=>by rw [ceM_iff.1 h] at q;cases q
 have e1:(SE.lap 30004 1 ceW).lst (ceE xs)=[]:=ceB_l.trans (pu_no h)
 have e2:(SE.lbs []).lst (ceE xs)=[]:=by show dec ((SE.lbs []).val _)=[];simp only [SE.val,qan,List.map_nil]
 rw [seq_v,e1,e2];rfl
section
variable (q:((SE.not (.app 30002 1 none ceW)).val (ceE xs) !=0)=false)
include q
theorem qtn:q5z (ceV xs)≠0:=ceM_iff.2 (by rw [qec] at q;exact qkq q)
theorem z26:dec (ceB xs)=qf6 (ceV xs):=ybu (qtn q)
theorem yh0:dec ([ceB xs].getD 0 0)=qf6 (ceV xs):=by rw [List.getD_cons_zero];exact z26 q
theorem z95:(dec (ceB xs)).length≤100000:=by
 rw [z26 q];exact (q4h (zs:=[ceB xs]) (yh0 q) (zca (qtn q))).1
theorem zon:FT qgs 30005 [ceB xs]=0::(ceV xs++[1]):=by
 have h:=yeh (zs:=[ceB xs]) (vs:=ceV xs) (yh0 q) (zca (qtn q)) (by rw [ft_mp,zlt];have h:=qtn q;unfold q5z at h;rw [zlt] at h;unfold qv0;rw [List.getD_cons_succ];exact h)
 rw [zlt] at h
 rw [ce05]
 unfold mgE at h
 unfold qv0
 rw [h]
theorem ce_t1:((SE.cmp .leq (.len (.lap 30004 1 ceW)) (.lit .i64 1000000)).val (ceE xs) !=0)=true:=qhh (n:=1000000) (by omega) (by rw [ceB_l];exact Nat.le_trans (z95 q) (by omega))
theorem ce_t2:((SE.cmp .leq (.len (.lap 30004 1 ceW)) (.lit .i64 100000)).val (ceE xs) !=0)=true:=qhh (n:=100000) (by omega) (by rw [ceB_l];exact z95 q)
omit q in
theorem zl4:(ceV xs).length=24:=by unfold ceV ceW;simp only [qab,qad,List.length_cons,List.length_nil]
theorem ce_t3:((SE.app 30005 25 none ceP).val (ceE xs) !=0)=true:=by
 unfold ceE
 have h:=z02 (xs:=xs)
 unfold ceE at h
 have e:=gd_r (l:=ceV xs) (m:=[1]) (j:=0)
 rw [zl4] at e
 rw [qgk,h,zon q,List.getD_cons_succ,e];rfl
theorem ce_g {j:Nat} (hj:j<24):(FT qgs 30005 [ceB xs]).getD (j+1) 0=(ceV xs).getD j 0:=by
 rw [zon q,List.getD_cons_succ,gd_l (by rw [zl4];exact hj)]
theorem qiu {j:Nat} {k:IntKind} (hj:j<24) (h:k.wrap ((ceV xs).getD j 0)=(ceV xs).getD j 0):(SE.app 30005 (j+1) (some k) ceP).val (ceE xs)=(ceV xs).getD j 0:=by
 unfold ceE
 have hp:=z02 (xs:=xs)
 unfold ceE at hp
 rw [qgk,hp,ce_g q hj];exact h
theorem q57 {j:Nat} (hj:j<24):(SE.lap 30005 (j+1) ceP).val (ceE xs)=(ceV xs).getD j 0:=by
 unfold ceE
 have hp:=z02 (xs:=xs)
 unfold ceE at hp
 rw [qcp,hp,ce_g q hj]
omit q in
theorem qim {j:Nat} {k:IntKind} {x:SE} (h:(ceV xs).getD j 0=x.val (ceE xs)) (ht:x.ty=some (some k)):k.wrap ((ceV xs).getD j 0)=(ceV xs).getD j 0:=by rw [h];exact qbn _ ht
theorem ce_sv:ceS.vals (ceE xs)=ceV xs++ceV xs:=by
 have e:ceV xs++ceV xs=(ceV xs).getD 0 0::(ceV xs).getD 1 0::(ceV xs).getD 2 0::(ceV xs).getD 3 0::(ceV xs).getD 4 0::(ceV xs).getD 5 0::(ceV xs).getD 6 0::(ceV xs).getD 7 0::(ceV xs).getD 8 0::(ceV xs).getD 9 0::(ceV xs).getD 10 0::(ceV xs).getD 11 0::(ceV xs).getD 12 0::(ceV xs).getD 13 0::(ceV xs).getD 14 0::(ceV xs).getD 15 0::(ceV xs).getD 16 0::(ceV xs).getD 17 0::(ceV xs).getD 18 0::(ceV xs).getD 19 0::(ceV xs).getD 20 0::(ceV xs).getD 21 0::(ceV xs).getD 22 0::(ceV xs).getD 23 0::ceV xs:=by
  unfold ceV ceW
  simp only [qab,qad,List.getD_cons_succ,List.getD_cons_zero,List.cons_append,List.nil_append]
 rw [e]
 unfold ceS
 simp only [qab]
 exact qbe (qiu q (j:=0) (by omega) (qim (x:=(.lit .i64 1000)) rfl rfl)) (qbe (qiu q (j:=1) (by omega) (qim (x:=(.lit .i64 0)) rfl rfl)) (qbe (qiu q (j:=2) (by omega) (qim (x:=(.lit .u64 1152921504606846976)) rfl rfl)) (qbe (qiu q (j:=3) (by omega) (qim (x:=(.lit .i64 1)) rfl rfl)) (qbe (qiu q (j:=4) (by omega) (qim (x:=(.lit .u64 0)) rfl rfl)) (qbe (qiu q (j:=5) (by omega) (qim (x:=(.lit .i64 0)) rfl rfl)) (qbe (qiu q (j:=6) (by omega) (qim (x:=(.lit .u64 4611686018427387904)) rfl rfl)) (qbe (qiu q (j:=7) (by omega) (qim (x:=(.lit .i64 0)) rfl rfl)) (qbe (qiu q (j:=8) (by omega) (qim (x:=(.lit .u64 0)) rfl rfl)) (qbe (qiu q (j:=9) (by omega) (qim (x:=(.lit .i64 0)) rfl rfl)) (qbe (qiu q (j:=10) (by omega) (qim (x:=(.lit .u64 0)) rfl rfl)) (qbe (qiu q (j:=11) (by omega) (qim (x:=(.lit .i64 0)) rfl rfl)) (qbe (qiu q (j:=12) (by omega) (qim (x:=(.lit .i64 0)) rfl rfl)) (qbe (q57 q (j:=13) (by omega)) (qbe (q57 q (j:=14) (by omega)) (qbe (q57 q (j:=15) (by omega)) (qbe (q57 q (j:=16) (by omega)) (qbe (qiu q (j:=17) (by omega) (qim (x:=(.conv .i64 (.bin .rem .u32 (.ivar .u32 2) (.lit .u32 67108864)))) rfl rfl)) (qbe (qiu q (j:=18) (by omega) (qim (x:=(.conv .u64 (.ivar .u32 2))) rfl rfl)) (qbe (qiu q (j:=19) (by omega) (qim (x:=(.ivar .i64 3)) rfl rfl)) (qbe (qiu q (j:=20) (by omega) (qim (x:=(.ivar .u64 4)) rfl rfl)) (qbe (qiu q (j:=21) (by omega) (qim (x:=(.ivar .i64 5)) rfl rfl)) (qbe (qiu q (j:=22) (by omega) (qim (x:=(.ivar .u64 6)) rfl rfl)) (qbe (q57 q (j:=23) (by omega)) (rfl))))))))))))))))))))))))
theorem ce_t4:((SE.app 30003 1 none ceS).val (ceE xs) !=0)=true:=by
 have hw:=zca (qtn q)
 have e:=ce_sv q
 have h24:=zl4 (xs:=xs)
 have g:∀j,j<24→(ceV xs++ceV xs).getD j 0=(ceV xs).getD j 0:=fun j hj=>gd_l (by rw [h24];exact hj)
 have hx:∀j,j<24→(ceV xs++ceV xs).getD (j+24) 0=(ceV xs++ceV xs).getD j 0:=fun j hj=>by
  have e:=gd_r (l:=ceV xs) (m:=ceV xs) (j:=j)
  rw [h24,Nat.add_comm] at e
  rw [g j hj,e]
 have l13:(dec ((ceV xs).getD 13 0)).length≤32:=hw.l13
 have l14:(dec ((ceV xs).getD 14 0)).length≤32:=hw.l14
 have l15:(dec ((ceV xs).getD 15 0)).length≤16:=hw.l15
 have l16:(dec ((ceV xs).getD 16 0)).length=(dec ((ceV xs).getD 13 0)).length:=hw.l16
 have l23:(dec ((ceV xs).getD 23 0)).length≤400:=hw.l23
 have h:=yf2 (x:=ceV xs++ceV xs) hx (by rw [g _ (by omega)];exact qdb (by omega)) (by rw [g _ (by omega)];exact qdb (by omega)) (by rw [g _ (by omega)];exact qdb (by omega)) (by rw [g _ (by omega)];exact qdb (by omega)) (by rw [g _ (by omega)];exact qdb (by omega))
 unfold ceE at *
 rw [qgk,e,ce03,h];rfl
end
theorem ce_ok (h0:(dec (xs.getD 0 0)).length≤maxLen):ceT.ok (ceE xs):=
 ⟨ce_k1 h0,ce_k2,ce_k3 h0,ce_k4 h0,ce_k5 h0,fun q=>⟨ce_no q,trivial⟩,fun q=>⟨ce_t1 q,ce_t2 q,ce_t3 q,ce_t4 q,trivial⟩⟩
end
noncomputable def ceLs:List Lf:=[.sl 5 [some .u8],.sl 5 [some .u8],.num (some .u32)]
noncomputable def ceLv:List Lf:=[.num (some .i64),.num (some .u64),.num (some .i64),.num (some .u64)]
theorem ce_row {us cs:List Value} {xs ys:List Int} {ss zs:List (Nat×Nat×Nat)} {w:World} (h:LfsOK w ceLs us xs ss) (h2:LfsOK w ceLv cs ys zs):Calls Tryz.prog 3 (List.toArray (us++[.agg (List.toArray cs)])) w fun en w'=>en= .returned (.bool true)∧Below w.heap.size w w':=by
 have hh:=h.app h2
 have r:=qr7 (P:=(bW.loops zht).P) (E:=ceE (xs++ys)) (σ:=ss++zs) hh 0 0 (fun i _=>by rw [Nat.zero_add];exact ⟨rfl,rfl⟩) (fun i x hi=>by rw [Nat.zero_add];exact hi)
 have hn:(ss++zs).length=2:=hh.slen
 have hl:(dec ((xs++ys).getD 0 0)).length≤maxLen:=hh.atL 0 rfl
 have hus:RelVs (ceE (xs++ys)) (ss++zs) zp2 (us++[.agg (List.toArray cs)]):=by
  refine ce_us ?_ r.1
  cases h with |sl a h=>cases h with |sl b h=>cases h with |num c h=>
  cases h
  exact ⟨_,_,_,rfl⟩
 exact qkh (b:=bW.loops zht) (Tb:=qgs) (K:=ceK) (Fs:=zjg) (qag qbi _) z9g (qbj z44) ycq z85 (E:=ceE (xs++ys)) rfl hn hus r.2 ceT [] ygt .nil (ce_ok hl)
end Go.Proofs.YtilkebpcjklmfaaGreat.Own
