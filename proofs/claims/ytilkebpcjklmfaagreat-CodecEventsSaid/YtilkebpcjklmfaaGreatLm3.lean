/- One more: what the code computes. Which of two is the larger: what the code computes. A quotient of numbers with a point: what the code computes. Contracts that were proved by hand, as a table: the quotient of numbers with a point. Contracts as trees, found by program and checked by the kernel. Contracts of loops that go through lists: found by program, checked by the kernel. Contracts of loops that go through lists: found by program, checked by the kernel. A walk by reckoning: loops with a law of what stays (J i: behind i rounds). A walk by reckoning: what rounds of loops ask, and what they make. Contracts of loops that go through lists: found by program, checked by the kernel. -/
import Derived.Test.YtilkebpcjklmfaaGreatDvX
set_option linter.unusedVariables false
set_option linter.unusedSimpArgs false
namespace Go.Proofs.YtilkebpcjklmfaaGreat.Own
open Go Go.RowKit Go.Proofs Go.Proofs.YtilkebpcjklmfaaGreat.Plain
set_option maxRecDepth 100000
set_option maxHeartbeats 40000000
theorem zsy:Pure Tryz.prog 136 #[.agg #[.int .u64 0,.int .u64 0,.int .u64 0,.int .u64 1],.int .i64 0] (.agg #[.int .u64 0,.int .u64 0,.int .u64 0,.int .u64 1]):=
 qmm (c:=cf0) (d:=300) (vs:=[.agg [.int .u64 0,.int .u64 0,.int .u64 0,.int .u64 1],.one (.int .i64 0)]) (v:= .agg [.int .u64 0,.int .u64 0,.int .u64 0,.int .u64 1]) ok0 (by kernel_rfl) (q1e rfl) (qxc rfl)
theorem zm7 (q:Four):Pure Tryz.prog 138 #[q.v,.int .i64 0] (if 340282366920938463463374607431768211456≤q.lo.n+1 then (.agg #[.int .u64 (Two.of ((Two.of (q.hi.n+0)).n+1)).hi,.int .u64 (Two.of ((Two.of (q.hi.n+0)).n+1)).lo,.int .u64 (Two.of (q.lo.n+1)).hi,.int .u64 (Two.of (q.lo.n+1)).lo]) else (.agg #[.int .u64 (Two.of (q.hi.n+0)).hi,.int .u64 (Two.of (q.hi.n+0)).lo,.int .u64 (Two.of (q.lo.n+1)).hi,.int .u64 (Two.of (q.lo.n+1)).lo])):=by
 have h1:=zsy
 have h2:=qkb ⟨0,1,by decide⟩
 have h3:=qlt q.lo ⟨0,1,by decide⟩
 have h4:=qlt q.hi ⟨0,0,by decide⟩
 have h5:=qlt (Two.of (q.hi.n+0)) ⟨0,1,by decide⟩
 have z1:(⟨0,1,by decide⟩:Two).n=1:=by kernel_rfl
 have z0:(⟨0,0,by decide⟩:Two).n=0:=by kernel_rfl
 rw [z1] at h3 h5
 rw [z0] at h4
 generalize hc:decide (340282366920938463463374607431768211456≤q.lo.n+1)=c at *
 have hcc:(340282366920938463463374607431768211456≤q.lo.n+1)↔c=true:=by rw [←hc];exact decide_eq_true_iff.symm
 simp only [hcc]
 generalize Two.of ((Two.of (q.hi.n+0)).n+1)=C at *
 generalize Two.of (q.hi.n+0)=B at *
 generalize Two.of (q.lo.n+1)=A at *
 refine qel Tryz.func138 rfl Tryz.ntmps138 rfl rfl (fun w0 Q hQ=> ?_)
 repeat' (
  first
   |refine qb4 (fun N hN=> ?_)
   |refine qc4 ?_
   |refine qb2 ?_
   |refine qc6 ?_
   |refine qee ?_
   |refine qc5 ?_
   |refine qeg (show X _ _ _ _ _ from ?_)
   |(refine qdd hN ?_;clear hN N)
   |(refine qa1 ?_;clear hN N)
   |(refine qam ?_;clear hN N)
   |refine qb3 ?_
   |refine qap ?_
   |refine qar ?_
   |refine qaj (by eq_refl) ?_
   |refine qda (h:= ?_)
   |refine qax (h:= ?_)
   |refine qa6 (h:= ?_)
   |refine qa4 (h:= ?_)
   |refine qes (h:= ?_)
   |refine qc7 (h:= ?_)
   |refine qbm (h:= ?_)
   |refine qbb (h:= ?_)
   |refine qa0 (hp:=h1) (h:= ?_)
   |refine qa0 (hp:=h2) (h:= ?_)
   |refine qa0 (hp:=h3) (h:= ?_)
   |refine qa0 (hp:=h4) (h:= ?_)
   |refine qa0 (hp:=h5) (h:= ?_)
   |(refine qey (h:= ?_);intro g)
   |(refine qb8 (h:= ?_);intro g)
   |refine qb9 (h:= ?_)
   |refine qaw (h:= ?_)
   |refine qb7 (h:= ?_)
   |refine qc9 (h:= ?_)
   |refine qe5 (h:= ?_)
   |refine qe6 (h:= ?_)
   |refine qex (h:= ?_)
   |refine qew (h:= ?_)
   |refine qet (h:= ?_)
   |refine qbo (h:= ?_)
   |refine qbp (h:= ?_)
   |refine qeu (h:= ?_)
   |refine qep (h:= ?_)
   |refine qau (h:= ?_)
   |refine qe1 (h:= ?_)
   |refine qe3 (h:= ?_)
   |(refine qal (h:= ?_);intro g)
   |refine qah (h:= ?_)
   |refine qc_ (h:= ?_)
   |refine qb_ (h:= ?_)
   |(refine qev (by eq_refl) (by eq_refl) (qaz (by eq_refl)) (fun hask=> ?_) (fun hask=> ?_))
   |(refine qb5 (by eq_refl) (fun hif=> ?_) (fun hif=> ?_))
  )
 all_goals refine hQ _ _ (ret1 rfl (by (first |exact qfj |exact qfp)) ?_)
 all_goals (rw [hif];rfl)
def qri (x y:Int):Int:=if x<y then -1 else if x>y then 1 else 0
def orI (a b c d:Int):Int:=if a≠0 then a else if b≠0 then b else if c≠0 then c else d
set_option maxRecDepth 100000 in
theorem qq1 (x:Int):Pure Tryz.prog 122 #[.int .u64 x] (.bool false):=by
 have e1:qbx .neq .u64 x x=some (.bool false):=by simp [qbx]
 refine qel Tryz.func122 rfl Tryz.ntmps122 rfl rfl (fun w0 Q hQ=> ?_)
 repeat (
  first
   |refine qb4 (fun N hN=> ?_)
   |refine qc4 ?_
   |refine qb2 ?_
   |refine qc6 ?_
   |refine qee ?_
   |refine qc5 ?_
   |refine qeg (show X _ _ _ _ _ from ?_)
   |(refine qdd hN ?_;clear hN N)
   |(refine qa1 ?_;clear hN N)
   |(refine qam ?_;clear hN N)
   |refine qb3 ?_
   |refine qap ?_
   |refine qar ?_
   |refine qaj (by eq_refl) ?_
   |refine qda (h:= ?_)
   |refine qax (h:= ?_)
   |refine qa6 (h:= ?_)
   |refine qa4 (h:= ?_)
   |refine qes (h:= ?_)
   |refine qc7 (h:= ?_)
   |refine qbm (h:= ?_)
   |refine qbb (h:= ?_)
   |(refine qey (h:= ?_);intro g)
   |(refine qb8 (h:= ?_);intro g)
   |refine qb9 (h:= ?_)
   |refine qaw (h:= ?_)
   |refine qb7 (h:= ?_)
   |refine qc9 (h:= ?_)
   |refine qe5 (h:= ?_)
   |refine qe6 (h:= ?_)
   |refine qex (h:= ?_)
   |refine qew (h:= ?_)
   |refine qet (h:= ?_)
   |refine qbo (h:= ?_)
   |refine qbp (h:= ?_)
   |refine qeu (h:= ?_)
   |refine qep (h:= ?_)
   |refine qau (h:= ?_)
   |refine qe1 (h:= ?_)
   |refine qe3 (h:= ?_)
   |(refine qal (h:= ?_);intro g)
   |refine qah (h:= ?_)
   |refine qc_ (h:= ?_)
   |refine qb_ (h:= ?_)
   |(refine qev (by eq_refl) (by eq_refl) (qaz (by eq_refl)) (fun hask=> ?_) (fun hask=> ?_))
   |(refine qb5 (by eq_refl) (fun hif=> ?_) (fun hif=> ?_))
  )
 refine hQ _ _ (ret1 rfl (by (first |exact qfj |exact qfp)) ?_)
 rfl
set_option maxRecDepth 100000 in
theorem qhm (x y:Int):Pure Tryz.prog 104 #[.int .u64 x,.int .u64 y] (.int .i64 (qri x y)):=by
 have n1:=qq1 x
 have n2:=qq1 y
 obtain ⟨b1,h1⟩:∃b,decide (x<y)=b:=⟨_,rfl⟩
 obtain ⟨b2,h2⟩:∃b,decide (x>y)=b:=⟨_,rfl⟩
 have e1:qbx .lss .u64 x y=some (.bool b1):=by simp only [qbx,h1]
 have e2:qbx .gtr .u64 x y=some (.bool b2):=by simp only [qbx,h2]
 refine qel Tryz.func104 rfl Tryz.ntmps104 rfl rfl (fun w0 Q hQ=> ?_)
 repeat' (
  first
   |refine qb4 (fun N hN=> ?_)
   |refine qc4 ?_
   |refine qb2 ?_
   |refine qc6 ?_
   |refine qee ?_
   |refine qc5 ?_
   |refine qeg (show X _ _ _ _ _ from ?_)
   |(refine qdd hN ?_;clear hN N)
   |(refine qa1 ?_;clear hN N)
   |(refine qam ?_;clear hN N)
   |refine qb3 ?_
   |refine qap ?_
   |refine qar ?_
   |refine qaj (by eq_refl) ?_
   |refine qda (h:= ?_)
   |refine qax (h:= ?_)
   |refine qa6 (h:= ?_)
   |refine qa4 (h:= ?_)
   |refine qes (h:= ?_)
   |refine qc7 (h:= ?_)
   |refine qbm (h:= ?_)
   |refine qbb (h:= ?_)
   |refine qa0 (hp:=n1) (h:= ?_)
   |refine qa0 (hp:=n2) (h:= ?_)
   |(refine qey (h:= ?_);intro g)
   |(refine qb8 (h:= ?_);intro g)
   |refine qb9 (h:= ?_)
   |refine qaw (h:= ?_)
   |refine qb7 (h:= ?_)
   |refine qc9 (h:= ?_)
   |refine qe5 (h:= ?_)
   |refine qe6 (h:= ?_)
   |refine qex (h:= ?_)
   |refine qew (h:= ?_)
   |refine qet (h:= ?_)
   |refine qbo (h:= ?_)
   |refine qbp (h:= ?_)
   |refine qeu (h:= ?_)
   |refine qep (h:= ?_)
   |refine qau (h:= ?_)
   |refine qe1 (h:= ?_)
   |refine qe3 (h:= ?_)
   |(refine qal (h:= ?_);intro g)
   |refine qah (h:= ?_)
   |refine qc_ (h:= ?_)
   |refine qb_ (h:= ?_)
   |(refine qev (by eq_refl) (by eq_refl) (qaz (by eq_refl)) (fun hask=> ?_) (fun hask=> ?_))
   |(refine qb5 (by eq_refl) (fun hif=> ?_) (fun hif=> ?_))
  )
 all_goals refine hQ _ _ (ret1 rfl (by (first |exact qfj |exact qfp)) ?_)
 all_goals (clear hQ;simp only [qri,Value.int.injEq,true_and];(repeat' split)<;>simp_all<;>omega)
set_option maxRecDepth 100000 in
theorem zlk (w0:World) (g:Nat) (a b c d:Int) (hr:q0_ w0 g 0 [.int .i64 a,.int .i64 b,.int .i64 c,.int .i64 d]):
  Calls Tryz.prog 102 #[.slice (some ⟨g,0,none⟩) 4 4] w0 fun e w'=>e= .returned (.int .i64 (orI a b c d))∧Below w0.heap.size w0 w':=by
 refine zz7 Tryz.func102 rfl Tryz.ntmps102 rfl rfl (fun Q hQ=> ?_)
 repeat' (
  first
   |refine qwu (hr:=hr) (ho2:=by simp) (hv:=by simp;rfl) (hin:=Or.inr (by (repeat (first |apply Incl.refl |apply Incl.cons));first |done |fail)) (h:= ?_)
   |refine qwp (hb:=by decide) (h:= ?_)
   |refine qb4 (fun N hN=> ?_)
   |refine qc4 ?_
   |refine qb2 ?_
   |refine qc6 ?_
   |refine qee ?_
   |refine qc5 ?_
   |refine qeg (show X _ _ _ _ _ from ?_)
   |(refine qdd hN ?_;clear hN N)
   |(refine qa1 ?_;clear hN N)
   |(refine qam ?_;clear hN N)
   |refine qb3 ?_
   |refine qap ?_
   |refine qar ?_
   |refine qaj (by eq_refl) ?_
   |(refine z0x hN (qlw ?_);clear hN N;intro N hN)
   |refine zgt (qlw (fun N hN=> ?_))
   |refine qda (h:= ?_)
   |refine qax (h:= ?_)
   |refine qa6 (h:= ?_)
   |refine qa4 (h:= ?_)
   |refine qes (hv:=(by simp [qbx,bits,IntKind.wrap_u64,IntKind.wrap_i64,IntKind.bits];rfl)) (h:= ?_)
   |refine qc7 (h:= ?_)
   |refine qbm (h:= ?_)
   |refine qbb (h:= ?_)
   |(refine qey (h:= ?_);intro g)
   |(refine qb8 (h:= ?_);intro g)
   |refine qb9 (h:= ?_)
   |refine qaw (h:= ?_)
   |refine qb7 (h:= ?_)
   |refine qc9 (h:= ?_)
   |refine qe5 (h:= ?_)
   |refine qe6 (h:= ?_)
   |refine qex (h:= ?_)
   |refine qew (h:= ?_)
   |refine qet (h:= ?_)
   |refine qbo (hb:=by first |with_reducible assumption |with_reducible eq_refl |decide |fail) (h:= ?_)
   |refine qbp (hb:=by first |with_reducible assumption |with_reducible eq_refl |decide |fail) (h:= ?_)
   |refine qeu (hc:=(by simp [IntKind.wrap_u64,IntKind.wrap_i64,IntKind.bits];rfl)) (h:= ?_)
   |refine qep (hc:=(by simp [IntKind.wrap_u64,IntKind.wrap_i64,IntKind.bits];rfl)) (h:= ?_)
   |refine qau (h:= ?_)
   |refine qe1 (hc:=(by simp [IntKind.wrap_u64,IntKind.wrap_i64,IntKind.bits];rfl)) (h:= ?_)
   |refine qe3 (hc:=(by simp [IntKind.wrap_u64,IntKind.wrap_i64,IntKind.bits];rfl)) (h:= ?_)
   |(refine qal (h:= ?_);intro g)
   |refine qah (h:= ?_)
   |refine qc_ (he:=by first |with_reducible assumption |with_reducible eq_refl |decide |fail) (h:= ?_)
   |refine qb_ (he:=by first |with_reducible assumption |with_reducible eq_refl |decide |fail) (h:= ?_)
   |(refine qev (by eq_refl) (by eq_refl) (qaz (by eq_refl)) (fun hask=> ?_) (fun hask=> ?_))
   |(refine qb5 (by eq_refl) (fun hif=> ?_) (fun hif=> ?_))
  )
 all_goals refine hQ _ _ (ret1 rfl (by (first |exact qfj |exact qfp)) ?_)
 all_goals (clear hQ;simp only [orI,Value.int.injEq,true_and];simp_all)
theorem z2e {w0 w:World} {L:List Blk} {g:Nat} {cs:List Value} {T:TypeId} (hw:Own w0 L w) (hm:HasB L g cs T):q0_ w g 0 cs:=by
 have hb:=hw.block hm
 refine ⟨(Array.getElem?_eq_some_iff.1 hb).1,fun j v hj=> ?_⟩
 simp [World.cell?,hb,hj]
set_option maxRecDepth 100000 in
theorem zgf (a b:Four):Pure Tryz.prog 137 #[a.v,b.v] (.int .i64 (orI (qri a.hi.hi b.hi.hi) (qri a.hi.lo b.hi.lo) (qri a.lo.hi b.lo.hi) (qri a.lo.lo b.lo.lo))):=by
 have c1:=qhm a.hi.hi b.hi.hi
 have c2:=qhm a.hi.lo b.hi.lo
 have c3:=qhm a.lo.hi b.lo.hi
 have c4:=qhm a.lo.lo b.lo.lo
 refine qel Tryz.func137 rfl Tryz.ntmps137 rfl rfl (fun w0 Q hQ=> ?_)
 repeat (
  first
   |refine qcg (id:=1) [(1000+102,.quiet)] (by kernel_rfl) (by kernel_rfl) ?_
   |refine z0v (hp:=fun w hw=>zlk w _ _ _ _ _ (z2e hw (by (repeat (first |apply HasB.here |apply HasB.next));first |done |fail))) (h:= ?_)
   |refine qb4 (fun N hN=> ?_)
   |refine qc4 ?_
   |refine qb2 ?_
   |refine qc6 ?_
   |refine qee ?_
   |refine qc5 ?_
   |refine qeg (show X _ _ _ _ _ from ?_)
   |(refine qdd hN ?_;clear hN N)
   |(refine qa1 ?_;clear hN N)
   |(refine qam ?_;clear hN N)
   |refine qb3 ?_
   |refine qap ?_
   |refine qar ?_
   |refine qaj (by eq_refl) ?_
   |refine qda (h:= ?_)
   |refine qax (h:= ?_)
   |refine qa6 (h:= ?_)
   |refine qa4 (h:= ?_)
   |refine qes (h:= ?_)
   |refine qc7 (h:= ?_)
   |refine qbm (h:= ?_)
   |refine qbb (h:= ?_)
   |refine qa0 (hp:=c1) (h:= ?_)
   |refine qa0 (hp:=c2) (h:= ?_)
   |refine qa0 (hp:=c3) (h:= ?_)
   |refine qa0 (hp:=c4) (h:= ?_)
   |(refine qey (h:= ?_);intro g)
   |(refine qb8 (h:= ?_);intro g)
   |refine qb9 (h:= ?_)
   |refine qaw (h:= ?_)
   |refine qb7 (h:= ?_)
   |refine qc9 (h:= ?_)
   |refine qe5 (h:= ?_)
   |refine qe6 (h:= ?_)
   |refine qex (h:= ?_)
   |refine qew (h:= ?_)
   |refine qet (h:= ?_)
   |refine qbo (h:= ?_)
   |refine qbp (h:= ?_)
   |refine qeu (h:= ?_)
   |refine qep (h:= ?_)
   |refine qau (h:= ?_)
   |refine qe1 (h:= ?_)
   |refine qe3 (h:= ?_)
   |(refine qal (h:= ?_);intro g)
   |refine qah (h:= ?_)
   |refine qc_ (h:= ?_)
   |refine qb_ (h:= ?_)
   |(refine qev (by eq_refl) (by eq_refl) (qaz (by eq_refl)) (fun hask=> ?_) (fun hask=> ?_))
   |(refine qb5 (by eq_refl) (fun hif=> ?_) (fun hif=> ?_))
  )
 refine hQ _ _ (ret1 rfl (by (first |exact qfj |exact qfp)) ?_)
 rfl
end Go.Proofs.YtilkebpcjklmfaaGreat.Own
namespace Go.Proofs.YtilkebpcjklmfaaGreat.Own
open Go Go.RowKit Go.Proofs Go.Proofs.YtilkebpcjklmfaaGreat.Plain
open Go.Proofs.YtilkebpcjklmfaaGreat.Limb (n2 n4)
set_option maxRecDepth 100000
set_option maxHeartbeats 40000000
def zTw:Two:=⟨0,0,by decide⟩
def qtr (x y:Nat):Nat:=if y - x * 18446744073709551616 % y≤x * 18446744073709551616 % y then x * 18446744073709551616 / y+1 else x * 18446744073709551616 / y
def fdiv (a b:Fx):Fx×Int:=if b.mag.n=0 then (Fx.of 0,2) else told (Four.of (qtr a.mag.n b.mag.n)) (!(a.below==b.below))
def up64 (t:Two):Four:=⟨⟨0,t.hi,by have:=t.b;omega⟩,⟨t.lo,0,by have:=t.b;omega⟩⟩
theorem zy3 (h l:Nat):qbr 0 h l 0=qbc h l * 18446744073709551616:=by unfold qbr qbc;omega
theorem z6x (t:Two):(up64 t).n=t.n * 18446744073709551616:=by
 show n4 0 t.hi t.lo 0=n2 t.hi t.lo * 18446744073709551616
 unfold n4 n2
 exact zy3 _ _
theorem zsc (r s:Two):decide ((orI (qri 0 0) (qri 0 0) (qri r.hi s.hi) (qri r.lo s.lo))≥0)=decide (s.n≤r.n):=by
 have h1:=r.n_int;have h2:=s.n_int;have:=r.b;have:=s.b
 generalize r.n=R at *
 generalize s.n=S at *
 apply decide_eq_decide.2
 unfold orI qri
 simp only [Int.lt_irrefl,if_false,gt_iff_lt,ne_eq,not_true_eq_false]
 repeat' split
 all_goals omega
theorem zjt (y r:Nat) (hy:y<340282366920938463463374607431768211456) (hr:r<y):(y+340282366920938463463374607431768211456 - r) % 340282366920938463463374607431768211456=y - r:=by omega
theorem z5r (r y:Nat) (hy:y<340282366920938463463374607431768211456) (hr:r<y):(Two.of r).n=r:=by
 rw [Two.of_n];exact Nat.mod_eq_of_lt (by omega)
theorem z8z (M q h l:Nat) (e:h * M+l=q) (hl:l<M) (hh:h+1<M) (c:M≤l+1):((h+0) % M+1) % M * M+(l+1) % M=q+1:=by
 have h1:l+1=M:=by omega
 have h3:l+1+h * M=q+1:=by omega
 have h4:(h+0) % M=h:=Nat.mod_eq_of_lt (by omega)
 have h5:(h+1) % M=h+1:=Nat.mod_eq_of_lt hh
 have h6:(l+1) % M=0:=by rw [h1,Nat.mod_self]
 rw [h4,h5,h6,Nat.succ_mul]
 omega
theorem ycz (M q h l:Nat) (e:h * M+l=q) (hh:h+1<M) (c:¬M≤l+1):(h+0) % M * M+(l+1) % M=q+1:=by
 have h4:(h+0) % M=h:=Nat.mod_eq_of_lt (by omega)
 have h6:(l+1) % M=l+1:=Nat.mod_eq_of_lt (by omega)
 rw [h4,h6]
 omega
theorem zhq (h l q:Nat) (e:h * 340282366920938463463374607431768211456+l=q) (hq:q<57896044618658097711785492504343953926634992332820282019728792003956564819968):h+1<340282366920938463463374607431768211456:=by omega
theorem q5s (q:Nat) (hq:q<57896044618658097711785492504343953926634992332820282019728792003956564819968):(if 340282366920938463463374607431768211456≤(Four.of q).lo.n+1 then (Value.agg #[.int .u64 (Two.of ((Two.of ((Four.of q).hi.n+0)).n+1)).hi,.int .u64 (Two.of ((Two.of ((Four.of q).hi.n+0)).n+1)).lo,.int .u64 (Two.of ((Four.of q).lo.n+1)).hi,.int .u64 (Two.of ((Four.of q).lo.n+1)).lo]) else (.agg #[.int .u64 (Two.of ((Four.of q).hi.n+0)).hi,.int .u64 (Two.of ((Four.of q).hi.n+0)).lo,.int .u64 (Two.of ((Four.of q).lo.n+1)).hi,.int .u64 (Two.of ((Four.of q).lo.n+1)).lo]))=(Four.of (q+1)).v:=by
 have h0:=(Four.of q).n_eq
 have hn:=Four.of_n q
 have hn1:=Four.of_n (q+1)
 rw [Nat.mod_eq_of_lt (Nat.lt_trans hq (by decide))] at hn
 rw [Nat.mod_eq_of_lt (Nat.lt_of_le_of_lt hq (by decide))] at hn1
 rw [hn] at h0
 have hl:=(Four.of q).lo.lt
 have hh:=zhq _ _ _ h0.symm hq
 have key:∀X Y:Two,X.n * 340282366920938463463374607431768211456+Y.n=q+1→Value.agg #[.int .u64 X.hi,.int .u64 X.lo,.int .u64 Y.hi,.int .u64 Y.lo]=(Four.of (q+1)).v:=by
  intro X Y h
  have:(⟨X,Y⟩:Four)=Four.of (q+1):=by
   apply Four.ext_n
   rw [Four.n_eq ⟨X,Y⟩,hn1]
   exact h
  rw [←this]
 have hx1:=Two.of_n ((Four.of q).hi.n+0)
 have hx2:=Two.of_n ((Two.of ((Four.of q).hi.n+0)).n+1)
 have hx3:=Two.of_n ((Four.of q).lo.n+1)
 by_cases hc:340282366920938463463374607431768211456≤(Four.of q).lo.n+1
 ·rw [if_pos hc]
  refine key _ _ ?_
  rw [hx2,hx3,hx1]
  exact z8z _ _ _ _ h0.symm hl hh hc
 ·rw [if_neg hc]
  refine key _ _ ?_
  rw [hx1,hx3]
  exact ycz _ _ _ _ h0.symm hh hc
theorem q79 (a b:Fx):Pure Tryz.prog 130 #[a.v,b.v] (.tuple #[(fdiv a b).1.v,.int .i64 (fdiv a b).2]):=by
 have o1:=qsq a
 have o2:=qsq b
 have w1:=qkb a.mag
 have ma:=a.mag.b
 have mb:=b.mag.b
 have s1:=qw_ (h:=a.mag.hi) (l:=a.mag.lo) ⟨ma.1,ma.2.1⟩ ⟨ma.2.2.1,ma.2.2.2⟩
 unfold fdiv
 have tt:true=true:=rfl;have ff:false=false:=rfl;have nt:(!true)=false:=rfl;have nf:(!false)=true:=rfl
 by_cases hz:b.mag.n=0
 ·rw [if_pos hz]
  have hz1:b.mag.hi=0∧b.mag.lo=0:=by have:=b.mag.n_int;omega
  have dz:=div_zero (a:=0) (b:=a.mag.hi) (c:=a.mag.lo) (d:=0) rfl (by show IntKind.u64.wrap a.mag.hi=_;rw [IntKind.wrap_u64];omega) (by show IntKind.u64.wrap a.mag.lo=_;rw [IntKind.wrap_u64];omega) rfl
  have o2':Pure Tryz.prog 115 #[b.v] (.agg #[.int .u64 0,.int .u64 0,.bool b.below]):=by rw [hz1.1,hz1.2] at o2;exact o2
  clear o2 hz hz1
  refine qel Tryz.func130 rfl Tryz.ntmps130 rfl rfl (fun w0 Q hQ=> ?_)
  repeat' (
   first
    |refine qb4 (fun N hN=> ?_)
    |refine qc4 ?_
    |refine qcg (id:=1) [] (by kernel_rfl) (by kernel_rfl) ?_
    |refine qcg (id:=2) [] (by kernel_rfl) (by kernel_rfl) ?_
    |refine qcg (id:=6) [] (by kernel_rfl) (by kernel_rfl) ?_
    |refine qb2 ?_
    |refine qc6 ?_
    |refine qee ?_
    |refine qc5 ?_
    |refine qeg (show X _ _ _ _ _ from ?_)
    |(refine qdd hN ?_;clear hN N)
    |(refine qa1 ?_;clear hN N)
    |(refine qam ?_;clear hN N)
    |refine qb3 ?_
    |refine qap ?_
    |refine qar ?_
    |refine qaj (by eq_refl) ?_
    |refine qda (h:= ?_)
    |refine qax (h:= ?_)
    |refine qa6 (h:= ?_)
    |refine qa4 (h:= ?_)
    |refine qes (h:= ?_)
    |refine qc7 (h:= ?_)
    |refine qbm (h:= ?_)
    |refine qbb (h:= ?_)
    |refine qa0 (hp:=o1) (h:= ?_)
    |refine qa0 (hp:=o2') (h:= ?_)
    |refine qa0 (hp:=w1) (h:= ?_)
    |refine qa0 (hp:=s1) (h:= ?_)
    |refine qa0 (hp:=dz) (h:= ?_)
    |(refine qey (h:= ?_);intro g)
    |(refine qb8 (h:= ?_);intro g)
    |refine qb9 (h:= ?_)
    |refine qaw (h:= ?_)
    |refine qb7 (h:= ?_)
    |refine qc9 (h:= ?_)
    |refine qe5 (h:= ?_)
    |refine qe6 (h:= ?_)
    |refine qex (h:= ?_)
    |refine qew (h:= ?_)
    |refine qet (h:= ?_)
    |refine qbo (h:= ?_)
    |refine qbp (h:= ?_)
    |refine qeu (h:= ?_)
    |refine qep (h:= ?_)
    |refine qau (h:= ?_)
    |refine qe1 (h:= ?_)
    |refine qe3 (h:= ?_)
    |(refine qal (h:= ?_);intro g)
    |refine qah (h:= ?_)
    |refine qc_ (h:= ?_)
    |refine qb_ (h:= ?_)
    |(refine qev (by eq_refl) (by eq_refl) (qaz (by eq_refl)) (fun hask=> ?_) (fun hask=> ?_))
    |(refine qb5 (by eq_refl) (fun hif=> ?_) (fun hif=> ?_))
   )
  all_goals refine hQ _ _ (ret2 rfl (by (first |exact qfj |exact qfp)) (by (first |exact qfj |exact qfp)) ?_)
  all_goals rfl
 ·rw [if_neg hz]
  have d1:=q2_ (up64 a.mag) b.mag hz
  rw [z6x] at d1
  have hrl:a.mag.n * 18446744073709551616 % b.mag.n<b.mag.n:=Nat.mod_lt _ (by omega)
  have hbl:=b.mag.lt
  have hr:=z5r _ _ hbl hrl
  have hql:a.mag.n * 18446744073709551616 / b.mag.n<57896044618658097711785492504343953926634992332820282019728792003956564819968:=by
   have:=a.mag.lt
   exact Nat.lt_of_le_of_lt (Nat.div_le_self _ _) (by omega)
  have mr:=zm7 (Four.of (a.mag.n * 18446744073709551616 / b.mag.n))
  rw [q5s _ hql] at mr
  have sb:=qke b.mag (Two.of (a.mag.n * 18446744073709551616 % b.mag.n))
  rw [hr] at sb
  have hre:(Two.of (b.mag.n+340282366920938463463374607431768211456 - a.mag.n * 18446744073709551616 % b.mag.n)).n=b.mag.n - a.mag.n * 18446744073709551616 % b.mag.n:=by rw [Two.of_n,zjt _ _ hbl hrl]
  have cm:=zgf ⟨zTw,Two.of (a.mag.n * 18446744073709551616 % b.mag.n)⟩ ⟨zTw,Two.of (b.mag.n+340282366920938463463374607431768211456 - a.mag.n * 18446744073709551616 % b.mag.n)⟩
  have cl:=zsc (Two.of (a.mag.n * 18446744073709551616 % b.mag.n)) (Two.of (b.mag.n+340282366920938463463374607431768211456 - a.mag.n * 18446744073709551616 % b.mag.n))
  rw [hr,hre] at cl
  have wr:=qkb (Two.of (a.mag.n * 18446744073709551616 % b.mag.n))
  have ws:=qkb (Two.of (b.mag.n+340282366920938463463374607431768211456 - a.mag.n * 18446744073709551616 % b.mag.n))
  have tl1:=qok (Four.of (a.mag.n * 18446744073709551616 / b.mag.n)) (!(a.below==b.below))
  have tl2:=qok (Four.of (a.mag.n * 18446744073709551616 / b.mag.n+1)) (!(a.below==b.below))
  unfold qtr
  obtain ⟨g0,hg0⟩:∃g0,decide (b.mag.n - a.mag.n * 18446744073709551616 % b.mag.n≤a.mag.n * 18446744073709551616 % b.mag.n)=g0:=⟨_,rfl⟩
  rw [hg0] at cl
  have hgi:(b.mag.n - a.mag.n * 18446744073709551616 % b.mag.n≤a.mag.n * 18446744073709551616 % b.mag.n)↔g0=true:=by rw [←hg0];exact decide_eq_true_iff.symm
  simp only [hgi]
  clear hgi hg0 hre hr hql hrl hbl ma mb
  have d2:Pure Tryz.prog 135 #[.agg #[.int .u64 0,.int .u64 a.mag.hi,.int .u64 a.mag.lo,.int .u64 0],.agg #[.int .u64 b.mag.hi,.int .u64 b.mag.lo]] (.tuple #[(Four.of (a.mag.n * 18446744073709551616 / b.mag.n)).v,(Two.of (a.mag.n * 18446744073709551616 % b.mag.n)).v,.bool true]):=d1
  generalize Two.of (b.mag.n+340282366920938463463374607431768211456 - a.mag.n * 18446744073709551616 % b.mag.n)=RS at *
  generalize Two.of (a.mag.n * 18446744073709551616 % b.mag.n)=RR at *
  have cm2:Pure Tryz.prog 137 #[.agg #[.int .u64 0,.int .u64 0,.int .u64 RR.hi,.int .u64 RR.lo],.agg #[.int .u64 0,.int .u64 0,.int .u64 RS.hi,.int .u64 RS.lo]] (.int .i64 (orI (qri 0 0) (qri 0 0) (qri RR.hi RS.hi) (qri RR.lo RS.lo))):=cm
  clear cm d1
  generalize orI (qri 0 0) (qri 0 0) (qri RR.hi RS.hi) (qri RR.lo RS.lo)=cv at *
  have eg:qbx .geq .i64 cv 0=some (.bool g0):=by simp only [qbx,cl]
  clear cl
  generalize hQ1:Four.of (a.mag.n * 18446744073709551616 / b.mag.n+1)=Q1 at *
  generalize hQ0:Four.of (a.mag.n * 18446744073709551616 / b.mag.n)=Q0 at *
  cases g0 with
  |true=>
   rw [if_pos rfl,hQ1]
   refine qel Tryz.func130 rfl Tryz.ntmps130 rfl rfl (fun w0 Q hQ=> ?_)
   repeat' (
    first
     |refine qb4 (fun N hN=> ?_)
     |refine qc4 ?_
     |refine qcg (id:=1) [] (by kernel_rfl) (by kernel_rfl) ?_
     |refine qcg (id:=2) [] (by kernel_rfl) (by kernel_rfl) ?_
     |refine qcg (id:=6) [] (by kernel_rfl) (by kernel_rfl) ?_
     |refine qb2 ?_
     |refine qc6 ?_
     |refine qee ?_
     |refine qc5 ?_
     |refine qeg (show X _ _ _ _ _ from ?_)
     |(refine qdd hN ?_;clear hN N)
     |(refine qa1 ?_;clear hN N)
     |(refine qam ?_;clear hN N)
     |refine qb3 ?_
     |refine qap ?_
     |refine qar ?_
     |refine qaj (by eq_refl) ?_
     |refine qda (h:= ?_)
     |refine qax (h:= ?_)
     |refine qa6 (h:= ?_)
     |refine qa4 (h:= ?_)
     |refine qes (h:= ?_)
     |refine qc7 (h:= ?_)
     |refine qbm (h:= ?_)
     |refine qbb (h:= ?_)
     |refine qa0 (hp:=o1) (h:= ?_)
     |refine qa0 (hp:=o2) (h:= ?_)
     |refine qa0 (hp:=w1) (h:= ?_)
     |refine qa0 (hp:=s1) (h:= ?_)
     |refine qa0 (hp:=d2) (h:= ?_)
     |refine qa0 (hp:=sb) (h:= ?_)
     |refine qa0 (hp:=cm2) (h:= ?_)
     |refine qa0 (hp:=wr) (h:= ?_)
     |refine qa0 (hp:=ws) (h:= ?_)
     |refine qa0 (hp:=mr) (h:= ?_)
     |refine qa0 (hp:=tl1) (h:= ?_)
     |refine qa0 (hp:=tl2) (h:= ?_)
     |(refine qey (h:= ?_);intro g)
     |(refine qb8 (h:= ?_);intro g)
     |refine qb9 (h:= ?_)
     |refine qaw (h:= ?_)
     |refine qb7 (h:= ?_)
     |refine qc9 (h:= ?_)
     |refine qe5 (h:= ?_)
     |refine qe6 (h:= ?_)
     |refine qex (h:= ?_)
     |refine qew (h:= ?_)
     |refine qet (h:= ?_)
     |refine qbo (h:= ?_)
     |refine qbp (h:= ?_)
     |refine qeu (h:= ?_)
     |refine qep (h:= ?_)
     |refine qau (h:= ?_)
     |refine qe1 (h:= ?_)
     |refine qe3 (h:= ?_)
     |(refine qal (h:= ?_);intro g)
     |refine qah (h:= ?_)
     |refine qc_ (h:= ?_)
     |refine qb_ (h:= ?_)
     |(refine qev (by eq_refl) (by eq_refl) (qaz (by eq_refl)) (fun hask=> ?_) (fun hask=> ?_))
     |(refine qb5 (by eq_refl) (fun hif=> ?_) (fun hif=> ?_))
    )
   all_goals refine hQ _ _ (ret2 rfl (by (first |exact qfj |exact qfp)) (by (first |exact qfj |exact qfp)) ?_)
   all_goals rfl
  |false=>
   rw [if_neg (by decide),hQ0]
   refine qel Tryz.func130 rfl Tryz.ntmps130 rfl rfl (fun w0 Q hQ=> ?_)
   repeat' (
    first
     |refine qb4 (fun N hN=> ?_)
     |refine qc4 ?_
     |refine qcg (id:=1) [] (by kernel_rfl) (by kernel_rfl) ?_
     |refine qcg (id:=2) [] (by kernel_rfl) (by kernel_rfl) ?_
     |refine qcg (id:=6) [] (by kernel_rfl) (by kernel_rfl) ?_
     |refine qb2 ?_
     |refine qc6 ?_
     |refine qee ?_
     |refine qc5 ?_
     |refine qeg (show X _ _ _ _ _ from ?_)
     |(refine qdd hN ?_;clear hN N)
     |(refine qa1 ?_;clear hN N)
     |(refine qam ?_;clear hN N)
     |refine qb3 ?_
     |refine qap ?_
     |refine qar ?_
     |refine qaj (by eq_refl) ?_
     |refine qda (h:= ?_)
     |refine qax (h:= ?_)
     |refine qa6 (h:= ?_)
     |refine qa4 (h:= ?_)
     |refine qes (h:= ?_)
     |refine qc7 (h:= ?_)
     |refine qbm (h:= ?_)
     |refine qbb (h:= ?_)
     |refine qa0 (hp:=o1) (h:= ?_)
     |refine qa0 (hp:=o2) (h:= ?_)
     |refine qa0 (hp:=w1) (h:= ?_)
     |refine qa0 (hp:=s1) (h:= ?_)
     |refine qa0 (hp:=d2) (h:= ?_)
     |refine qa0 (hp:=sb) (h:= ?_)
     |refine qa0 (hp:=cm2) (h:= ?_)
     |refine qa0 (hp:=wr) (h:= ?_)
     |refine qa0 (hp:=ws) (h:= ?_)
     |refine qa0 (hp:=mr) (h:= ?_)
     |refine qa0 (hp:=tl1) (h:= ?_)
     |refine qa0 (hp:=tl2) (h:= ?_)
     |(refine qey (h:= ?_);intro g)
     |(refine qb8 (h:= ?_);intro g)
     |refine qb9 (h:= ?_)
     |refine qaw (h:= ?_)
     |refine qb7 (h:= ?_)
     |refine qc9 (h:= ?_)
     |refine qe5 (h:= ?_)
     |refine qe6 (h:= ?_)
     |refine qex (h:= ?_)
     |refine qew (h:= ?_)
     |refine qet (h:= ?_)
     |refine qbo (h:= ?_)
     |refine qbp (h:= ?_)
     |refine qeu (h:= ?_)
     |refine qep (h:= ?_)
     |refine qau (h:= ?_)
     |refine qe1 (h:= ?_)
     |refine qe3 (h:= ?_)
     |(refine qal (h:= ?_);intro g)
     |refine qah (h:= ?_)
     |refine qc_ (h:= ?_)
     |refine qb_ (h:= ?_)
     |(refine qev (by eq_refl) (by eq_refl) (qaz (by eq_refl)) (fun hask=> ?_) (fun hask=> ?_))
     |(refine qb5 (by eq_refl) (fun hif=> ?_) (fun hif=> ?_))
    )
   all_goals refine hQ _ _ (ret2 rfl (by (first |exact qfj |exact qfp)) (by (first |exact qfj |exact qfp)) ?_)
   all_goals rfl
end Go.Proofs.YtilkebpcjklmfaaGreat.Own
namespace Go.Proofs.YtilkebpcjklmfaaGreat.Own
open Go Go.RowKit Go.Proofs Go.Proofs.YtilkebpcjklmfaaGreat.Plain
set_option maxRecDepth 100000
set_option maxHeartbeats 40000000
theorem qz9 (a b:Fx):(fdiv a b).2=0∨(fdiv a b).2=2∨(fdiv a b).2=3:=by
 unfold fdiv
 split
 ·exact .inr (.inl rfl)
 ·rcases qma (Four.of (qtr a.mag.n b.mag.n)) (!(a.below==b.below)) with h |h
  ·exact .inl h
  ·exact .inr (.inr h)
theorem qx8 {e:Int} (h:e=0∨e=2∨e=3):inK (some .i64) e:=by
 rcases h with rfl |rfl |rfl<;>rfl
def qt1 (xs:List Int):List Int:=let p:=fdiv (fxW (xs.getD 0 0) (xs.getD 1 0)) (fxW (xs.getD 2 0) (xs.getD 3 0));[p.1.hi,p.1.lo,p.2]
theorem qy1 (x0 x1 x2 x3:Int):qt1 [x0,x1,x2,x3]=[(fdiv (fxW x0 x1) (fxW x2 x3)).1.hi,(fdiv (fxW x0 x1) (fxW x2 x3)).1.lo,(fdiv (fxW x0 x1) (fxW x2 x3)).2]:=by
 unfold qt1
 simp only [List.getD_cons_zero,List.getD_cons_succ]
theorem zyv {p:Fx×Int} (he:p.2=0∨p.2=2∨p.2=3) {f:FuncId} {args:Array Value} (hp:Pure Tryz.prog f args (.tuple #[p.1.v,.int .i64 p.2])):InC [some .i64,some .u64,some .i64] [p.1.hi,p.1.lo,p.2]∧Pure Tryz.prog f args (qui (.tup [kFx,.one (some .i64)]) [p.1.hi,p.1.lo,p.2]):=
 ⟨⟨(qvq p.1).1,(qvq p.1).2,qx8 he,trivial⟩,hp⟩
theorem zmn:CTE Tryz.prog qt1 130 [kFx,kFx] (.tup [kFx,.one (some .i64)]):=fun xs h=>by
 obtain ⟨x0,x1,x2,x3,rfl,h0,h1,h2,h3⟩:=in4 h
 have e1:=qtl h0 h1
 have e2:=qtl h2 h3
 have hp:=q79 (fxW x0 x1) (fxW x2 x3)
 rw [e1,e2] at hp
 have he:=qz9 (fxW x0 x1) (fxW x2 x3)
 rw [qy1]
 have hq:=zyv he hp
 clear he hp e1 e2
 generalize fdiv (fxW x0 x1) (fxW x2 x3)=p at hq ⊢
 exact ⟨hq.1,hq.2⟩
def qsw:List Ent:=⟨130,[kFx,kFx],.tup [kFx,.one (some .i64)],fun _=>qt1,false⟩::zlj
theorem z6j:qcd Tryz.prog qsw:=qih yb4 rfl (by kernel_rfl) zmn
def qcl:List LEnt:=[]
theorem zpe:LBs Tryz.prog qcl qsw:=qxe
end Go.Proofs.YtilkebpcjklmfaaGreat.Own
namespace Go.Proofs.YtilkebpcjklmfaaGreat.Own
open Go Go.RowKit Go.Proofs
set_option maxRecDepth 100000
set_option maxHeartbeats 40000000
abbrev Ah:SE:=.ivar .i64 0
abbrev Ak:C:=.int .u64 0
def ay (a n:Nat):List (Nat×V):=(List.range n).map fun i=>(a+i,.any (a+i))
def zz:Nat→List C
 |0=>[]
 |n+1=>.int .i64 0:: .int .u64 0::zz n
def z5z:ST:=(.leaf (.agg [(.opq (.mx .i64 Ah (.lit .i64 (-9223372036854775807)))),Ak]))
noncomputable def qbv:List Ent:=⟨33,[.one (some .i64)],.one (.agg [some .i64,some .u64]),qaf z5z,false⟩::qsw
theorem zix:qcd Tryz.prog qbv:=qbd (b:=bW.loops qcl) (qag qbi _) (qbj zpe) (d:=300) z6j (fn rfl) (by kernel_rfl)
theorem qzn:LBs Tryz.prog qcl qbv:=qao zpe (by kernel_rfl)
abbrev Aw:SE:=.lit .i64 1
abbrev DM:SE:=.ivar .u8 2
abbrev F1:SE:=.cons (.bin .add .i64 Aw (.bin .rem .i64 (.conv .i64 DM) (.lit .i64 9))) .nil
abbrev CT:SE:=.ivar .u8 3
abbrev Br:C:=.int .u64 4611686018427387904
abbrev F2:SE:=.conv .i64 (.ivar .u8 1)
abbrev CU:SE:=.lit .i64 3
abbrev F3:SE:=.conv .u64 (.ivar .u8 0)
abbrev Cu:SE:=.lit .i64 2
abbrev Ad:C:=.int .i64 0
abbrev Bs:SE:=.lit .i64 4
abbrev F4:SE:=.cons (.bin .rem .i64 F2 Bs) .nil
def zuf:ST:=(.leaf (.agg [(.opq (.app 33 0 (some .i64) F1)),(.opq (.app 33 1 (some .u64) F1)),(.opq (.conv .i64 (.bin .rem .u8 CT (.lit .u8 3)))),Br,(.opq (.bin .sub .i64 (.conv .i64 (.ivar .u8 0)) (.lit .i64 128))),(.opq (.bin .shl .u64 (.conv .u64 (.ivar .u8 1)) (.lit .u64 56))),(.opq (.bin .sub .i64 F2 (.lit .i64 128))),(.opq (.bin .shl .u64 (.conv .u64 DM) (.lit .u64 40))),(.opq (.bin .sub .i64 (.conv .i64 (.bin .rem .u8 CT (.lit .u8 7))) CU)),(.opq F3),(.opq (.bin .sub .i64 (.conv .i64 (.bin .rem .u8 DM (.lit .u8 5))) Cu)),(.opq (.bin .shl .u64 (.conv .u64 CT) (.lit .u64 60))),Ad,(.opq (.bin .shl .u64 (.conv .u64 CT) (.lit .u64 50))),Ad,(.opq (.bin .shl .u64 F3 (.lit .u64 50))),(.opq (.app 33 0 (some .i64) F4)),(.opq (.app 33 1 (some .u64) F4)),Ad,(.opq (.bin .mul .i64 (.conv .i64 CT) (.lit .i64 257)))]))
noncomputable def qoy:List Ent:=⟨94,[.one (some .u8),.one (some .u8),.one (some .u8),.one (some .u8)],.one (.agg [some .i64,some .u64,some .i64,some .u64,some .i64,some .u64,some .i64,some .u64,some .i64,some .u64,some .i64,some .u64,some .i64,some .u64,some .i64,some .u64,some .i64,some .u64,some .i64,some .i64]),qaf zuf,false⟩::qbv
theorem zll:qcd Tryz.prog qoy:=qbd (b:=bW.loops qcl) (qag qbi _) (qbj qzn) (d:=300) zix (fn rfl) (by kernel_rfl)
theorem qzz:LBs Tryz.prog qcl qoy:=qao qzn (by kernel_rfl)
def z8q:ST:=(.leaf (.agg [(.opq (.mx .i64 Ah (.lit .i64 (-9223372036854775807)))),Ak]))
noncomputable def qpm:List Ent:=⟨80,[.one (some .i64)],.one (.agg [some .i64,some .u64]),qaf z8q,false⟩::qoy
theorem znq:qcd Tryz.prog qpm:=qbd (b:=bW.loops qcl) (qag qbi _) (qbj qzz) (d:=300) zll (fn rfl) (by kernel_rfl)
theorem q3o:LBs Tryz.prog qcl qpm:=qao qzz (by kernel_rfl)
abbrev F5:SE:=.lit .i64 (-9223372036854775808)
abbrev At:SE:=.ivar .u64 1
abbrev Al:SE:=.lit .u64 0
abbrev F6:SE:=.cmp .eql At Al
abbrev Ap:SE:=.cmp .eql Aw Aw
def tr99:ST:=(.leaf (.one (.opq (.not (.and (.cmp .eql Ah F5) (.and F6 Ap))))))
noncomputable def qsz:List Ent:=⟨99,[.agg [some .i64,some .u64]],.one (.one none),qaf tr99,false⟩::qpm
theorem zlh:qcd Tryz.prog qsz:=qbd (b:=bW.loops qcl) (qag qbi _) (qbj q3o) (d:=300) znq (fn rfl) (by kernel_rfl)
theorem q19:LBs Tryz.prog qcl qsz:=qao q3o (by kernel_rfl)
def zr_:ST:=(.leaf (.one (.opq (.cmp .neq Ah Ah))))
noncomputable def qit:List Ent:=⟨121,[.one (some .i64)],.one (.one none),qaf zr_,false⟩::qsz
theorem zan:qcd Tryz.prog qit:=qbd (b:=bW.loops qcl) (qag qbi _) (qbj q19) (d:=300) zlh (fn rfl) (by kernel_rfl)
theorem qu5:LBs Tryz.prog qcl qit:=qao q19 (by kernel_rfl)
abbrev DN:SE:=.cons Ah .nil
abbrev Af:SE:=.ivar .i64 1
abbrev DO:SE:=.cons Af .nil
abbrev F7:SE:=.app 121 0 none DO
abbrev Bi:V:=.one Ad
def z14:ST:=(.ask (.app 121 0 none DN) (.ask F7 (.leaf Bi) (.leaf (.one (.int .i64 (-1))))) (.ask F7 (.leaf (.one (.int .i64 1))) (.ask (.cmp .lss Ah Af) (.leaf (.one (.int .i64 (-1)))) (.ask (.cmp .gtr Ah Af) (.leaf (.one (.int .i64 1))) (.leaf Bi)))))
noncomputable def qny:List Ent:=⟨103,[.one (some .i64),.one (some .i64)],.one (.one (some .i64)),qaf z14,false⟩::qit
theorem zcp:qcd Tryz.prog qny:=qbd (b:=bW.loops qcl) (qag qbi _) (qbj qu5) (d:=300) zan (fn rfl) (by kernel_rfl)
theorem qt6:LBs Tryz.prog qcl qny:=qao qu5 (by kernel_rfl)
abbrev Bb:SE:=.ivar .u64 0
def zsx:ST:=(.leaf (.one (.opq (.cmp .neq Bb Bb))))
noncomputable def qiw:List Ent:=⟨122,[.one (some .u64)],.one (.one none),qaf zsx,false⟩::qny
theorem q6x:qcd Tryz.prog qiw:=qbd (b:=bW.loops qcl) (qag qbi _) (qbj qt6) (d:=300) zcp (fn rfl) (by kernel_rfl)
theorem qu8:LBs Tryz.prog qcl qiw:=qao qt6 (by kernel_rfl)
abbrev CV:SE:=.cons At .nil
abbrev F8:SE:=.app 122 0 none CV
def zyw:ST:=(.ask (.app 122 0 none (.cons Bb .nil)) (.ask F8 (.leaf Bi) (.leaf (.one (.int .i64 (-1))))) (.ask F8 (.leaf (.one (.int .i64 1))) (.ask (.cmp .lss Bb At) (.leaf (.one (.int .i64 (-1)))) (.ask (.cmp .gtr Bb At) (.leaf (.one (.int .i64 1))) (.leaf Bi)))))
noncomputable def qff:List Ent:=⟨104,[.one (some .u64),.one (some .u64)],.one (.one (some .i64)),qaf zyw,false⟩::qiw
theorem zci:qcd Tryz.prog qff:=qbd (b:=bW.loops qcl) (qag qbi _) (qbj qu8) (d:=300) q6x (fn rfl) (by kernel_rfl)
theorem qvs:LBs Tryz.prog qcl qff:=qao qu8 (by kernel_rfl)
abbrev Ai:SE:=.ivar .i64 2
abbrev Cv:SE:=.cons Ai .nil
abbrev F9:SE:=.app 103 0 (some .i64) (.cons Ah Cv)
abbrev Aa:SE:=.lit .i64 0
abbrev Av:SE:=.ivar .u64 3
abbrev DP:SE:=.cons Av .nil
abbrev Ga:SE:=.app 104 0 (some .i64) (.cons At DP)
def z5k:ST:=(.ask (.cmp .neq F9 Aa) (.leaf (.one (.opq F9))) (.ask (.cmp .neq Ga Aa) (.leaf (.one (.opq Ga))) (.leaf Bi)))
noncomputable def qe9:List Ent:=⟨82,[.agg [some .i64,some .u64],.agg [some .i64,some .u64]],.one (.one (some .i64)),qaf z5k,false⟩::qff
theorem zim:qcd Tryz.prog qe9:=qbd (b:=bW.loops qcl) (qag qbi _) (qbj qvs) (d:=300) zci (fn rfl) (by kernel_rfl)
theorem q2d:LBs Tryz.prog qcl qe9:=qao qvs (by kernel_rfl)
abbrev Bx:SE:=.cons Ah CV
abbrev Gb:SE:=.app 99 0 none Bx
abbrev BP:SE:=.cons Ai DP
abbrev Gc:SE:=.cons Ah (.cons At BP)
abbrev Bk:SE:=.ivar .i64 4
abbrev BV:SE:=.ivar .u64 5
abbrev Gd:SE:=.cons Bk (.cons BV .nil)
abbrev Cw:SE:=.cons Ah (.cons At Gd)
abbrev BK:C:=.bool false
abbrev CW:V:=.one BK
def tr77:ST:=(.ask Gb (.ask (.cmp .geq (.app 82 0 (some .i64) Gc) Aa) (.leaf (.one (.opq (.cmp .leq (.app 82 0 (some .i64) Cw) Aa)))) (.leaf CW)) (.leaf CW))
noncomputable def qfk:List Ent:=⟨76,[.agg [some .i64,some .u64],.agg [some .i64,some .u64],.agg [some .i64,some .u64]],.one (.one none),qaf tr77,false⟩::qe9
theorem zl3:qcd Tryz.prog qfk:=qbd (b:=bW.loops qcl) (qag qbi _) (qbj q2d) (d:=300) zim (fn rfl) (by kernel_rfl)
theorem q0w:LBs Tryz.prog qcl qfk:=qao q2d (by kernel_rfl)
def tr75:ST:=(.leaf (.one (.opq (.app 76 0 none (.cons Ah (.cons At (.cons Aa (.cons Al (.cons (.app 80 0 (some .i64) Cv) (.cons (.app 80 1 (some .u64) Cv) .nil))))))))))
noncomputable def qgc:List Ent:=⟨74,[.agg [some .i64,some .u64],.one (some .i64)],.one (.one none),qaf tr75,false⟩::qfk
theorem zmd:qcd Tryz.prog qgc:=qbd (b:=bW.loops qcl) (qag qbi _) (qbj q0w) (d:=300) zl3 (fn rfl) (by kernel_rfl)
theorem q2k:LBs Tryz.prog qcl qgc:=qao q0w (by kernel_rfl)
def z76:ST:=(.ask (.cmp .geq Ah Af) (.leaf (.one (.opq (.cmp .leq Ah Ai)))) (.leaf CW))
noncomputable def qem:List Ent:=⟨49,[.one (some .i64),.one (some .i64),.one (some .i64)],.one (.one none),qaf z76,false⟩::qgc
theorem zhp:qcd Tryz.prog qem:=qbd (b:=bW.loops qcl) (qag qbi _) (qbj q2k) (d:=300) zmd (fn rfl) (by kernel_rfl)
theorem q0m:LBs Tryz.prog qcl qem:=qao q2k (by kernel_rfl)
def tr76:ST:=(.ask Gb (.leaf (.one (.opq (.app 99 0 none BP)))) (.leaf CW))
noncomputable def qfs:List Ent:=⟨75,[.agg [some .i64,some .u64,some .i64,some .u64]],.one (.one none),qaf tr76,false⟩::qem
theorem zhn:qcd Tryz.prog qfs:=qbd (b:=bW.loops qcl) (qag qbi _) (qbj q0m) (d:=300) zhp (fn rfl) (by kernel_rfl)
theorem q4f:LBs Tryz.prog qcl qfs:=qao q0m (by kernel_rfl)
abbrev Cx:SE:=.lit .i64 (-1)
abbrev Ge:SE:=.cmp .geq Ah Cx
abbrev Bl:SE:=.ivar .i64 10
abbrev Gf:SE:=.cmp .lss Ah Bl
abbrev Aq:SE:=.ivar .i64 5
abbrev Gg:SE:=.cons (.lit .i64 65535) .nil
abbrev DQ:SE:=.cons Aa Gg
abbrev AY:SE:=.ivar .i64 6
abbrev AK:SE:=.ivar .i64 7
abbrev BW:SE:=.cons (.lit .i64 1073741824) .nil
abbrev Gh:SE:=.cons AK (.cons Aw BW)
abbrev Am:SE:=.ivar .u64 2
abbrev Gi:SE:=.cons Af (.cons Am (.cons (.lit .i64 268435456) .nil))
abbrev AA:SE:=.ivar .i64 3
abbrev As:SE:=.ivar .u64 4
abbrev Gj:SE:=.cons AA (.cons As (.cons Aa (.cons Al (.cons Aa (.cons (.lit .u64 17293822569102704640) .nil)))))
abbrev BL:SE:=.ivar .i64 8
abbrev Cy:SE:=.ivar .u64 9
abbrev Gk:SE:=.cons BL (.cons Cy BW)
def yeo:ST:=(.ask Ge (.ask Gf (.ask (.app 49 0 none (.cons Aq DQ)) (.ask (.app 49 0 none (.cons AY DQ)) (.ask (.app 49 0 none Gh) (.ask (.app 74 0 none Gi) (.ask (.app 76 0 none Gj) (.leaf (.one (.opq (.app 74 0 none Gk)))) (.leaf CW)) (.leaf CW)) (.leaf CW)) (.leaf CW)) (.leaf CW)) (.leaf CW)) (.leaf CW))
noncomputable def qhb:List Ent:=⟨40,[.agg [some .i64,some .i64,some .u64,some .i64,some .u64,some .i64,some .i64,some .i64,some .i64,some .u64],.one (some .i64)],.one (.one none),qaf yeo,false⟩::qfs
theorem zjh:qcd Tryz.prog qhb:=qbd (b:=bW.loops qcl) (qag qbi _) (qbj q4f) (d:=300) zhn (fn rfl) (by kernel_rfl)
theorem qy3:LBs Tryz.prog qcl qhb:=qao q4f (by kernel_rfl)
abbrev DR:SE:=.conv .u64 Ah
abbrev Bz:C:=.opq At
abbrev CX:SE:=.cons Al (.cons Al (.cons DR CV))
abbrev BQ:C:=.bool true
def tr65:ST:=(.ask (.cmp .eql (.bin .shr .i64 Ah (.lit .u64 63)) Aa) (.leaf (.agg [(.opq DR),Bz,BK])) (.leaf (.agg [(.opq (.app 119 0 (some .u64) CX)),(.opq (.app 119 1 (some .u64) CX)),BQ])))
noncomputable def qf_:List Ent:=⟨115,[.agg [some .i64,some .u64]],.one (.agg [some .u64,some .u64,none]),qaf tr65,false⟩::qhb
theorem zl6:qcd Tryz.prog qf_:=qbd (b:=bW.loops qcl) (qag qbi _) (qbj qy3) (d:=300) zjh (fn rfl) (by kernel_rfl)
theorem q27:LBs Tryz.prog qcl qf_:=qao qy3 (by kernel_rfl)
abbrev Gl:SE:=.cons Al (.cons Al (.cons Bb CV))
def tr70:ST:=(.ask (.bvar 2) (.leaf (.agg [(.opq (.conv .i64 (.app 119 0 (some .u64) Gl))),(.opq (.app 119 1 (some .u64) Gl))])) (.leaf (.agg [(.opq (.conv .i64 Bb)),Bz])))
noncomputable def qf1:List Ent:=⟨120,[.agg [some .u64,some .u64,none]],.one (.agg [some .i64,some .u64]),qaf tr70,false⟩::qf_
theorem zlv:qcd Tryz.prog qf1:=qbd (b:=bW.loops qcl) (qag qbi _) (qbj q27) (d:=300) zl6 (fn rfl) (by kernel_rfl)
theorem qyq:LBs Tryz.prog qcl qf1:=qao q27 (by kernel_rfl)
abbrev Gm:SE:=.cons (.app 115 0 (some .u64) Bx) (.cons (.app 115 1 (some .u64) Bx) (.cons (.not (.app 115 2 none Bx)) .nil))
def zhk:ST:=(.leaf (.agg [(.opq (.app 120 0 (some .i64) Gm)),(.opq (.app 120 1 (some .u64) Gm))]))
noncomputable def qsm:List Ent:=⟨101,[.agg [some .i64,some .u64]],.one (.agg [some .i64,some .u64]),qaf zhk,false⟩::qf1
theorem q97:qcd Tryz.prog qsm:=qbd (b:=bW.loops qcl) (qag qbi _) (qbj qyq) (d:=300) zlv (fn rfl) (by kernel_rfl)
theorem qtq:LBs Tryz.prog qcl qsm:=qao qyq (by kernel_rfl)
def tr68:ST:=(.leaf (.agg [Ak,Ak,(.opq Bb),Bz]))
noncomputable def qwd:List Ent:=⟨118,[.agg [some .u64,some .u64]],.one (.agg [some .u64,some .u64,some .u64,some .u64]),qaf tr68,false⟩::qsm
theorem zmw:qcd Tryz.prog qwd:=qbd (b:=bW.loops qcl) (qag qbi _) (qbj qtq) (d:=300) q97 (fn rfl) (by kernel_rfl)
theorem q3m:LBs Tryz.prog qcl qwd:=qao qtq (by kernel_rfl)
abbrev DS:SE:=.cons Bb (.cons At (.cons Am DP))
abbrev Gn:SE:=.cons Am (.cons Av (.cons (.bvar 4) .nil))
def tr67:ST:=(.ask (.cmp .gtr (.app 128 0 (some .i64) DS) (.lit .i64 127)) (.leaf (.tup [(.agg [Ad,Ak]),(.one (.int .i64 3))])) (.leaf (.tup [(.agg [(.opq (.app 120 0 (some .i64) Gn)),(.opq (.app 120 1 (some .u64) Gn))]),Bi])))
noncomputable def qjo:List Ent:=⟨117,[.agg [some .u64,some .u64,some .u64,some .u64],.one none],.tup [.agg [some .i64,some .u64],.one (some .i64)],qaf tr67,false⟩::qwd
theorem ziv:qcd Tryz.prog qjo:=qbd (b:=bW.loops qcl) (qag qbi _) (qbj q3m) (d:=300) zmw (fn rfl) (by kernel_rfl)
theorem q4d:LBs Tryz.prog qcl qjo:=qao q3m (by kernel_rfl)
abbrev DT:SE:=.cons Ah (.cons At (.cons (.app 101 0 (some .i64) BP) (.cons (.app 101 1 (some .u64) BP) .nil)))
def tr82:ST:=(.leaf (.tup [(.agg [(.opq (.app 100 0 (some .i64) DT)),(.opq (.app 100 1 (some .u64) DT))]),(.one (.opq (.app 100 2 (some .i64) DT)))]))
noncomputable def qw7:List Ent:=⟨81,[.agg [some .i64,some .u64],.agg [some .i64,some .u64]],.tup [.agg [some .i64,some .u64],.one (some .i64)],qaf tr82,false⟩::qjo
theorem zmt:qcd Tryz.prog qw7:=qbd (b:=bW.loops qcl) (qag qbi _) (qbj q4d) (d:=300) ziv (fn rfl) (by kernel_rfl)
theorem q0f:LBs Tryz.prog qcl qw7:=qao q4d (by kernel_rfl)
abbrev Bt:C:=.opq Av
abbrev Bc:C:=.opq Am
def tr148:ST:=(.leaf (.agg [Bt,Bc,Bz,(.opq Bb)]))
noncomputable def qrc:List Ent:=⟨139,[.agg [some .u64,some .u64,some .u64,some .u64]],.one (.agg [some .u64,some .u64,some .u64,some .u64]),qaf tr148,false⟩::qw7
theorem q7q:qcd Tryz.prog qrc:=qbd (b:=bW.loops qcl) (qag qbi _) (qbj q0f) (d:=300) zmt (fn rfl) (by kernel_rfl)
theorem qu9:LBs Tryz.prog qcl qrc:=qao q0f (by kernel_rfl)
def tr150:ST:=(.leaf (.agg [Bt,Bc,Bz,(.opq Bb)]))
noncomputable def qcf:List Ent:=⟨141,[.agg [some .u64,some .u64,some .u64,some .u64]],.one (.agg [some .u64,some .u64,some .u64,some .u64]),qaf tr150,false⟩::qrc
theorem za6:qcd Tryz.prog qcf:=qbd (b:=bW.loops qcl) (qag qbi _) (qbj qu9) (d:=300) q7q (fn rfl) (by kernel_rfl)
theorem quy:LBs Tryz.prog qcl qcf:=qao qu9 (by kernel_rfl)
abbrev Gp:SE:=.app 130 2 (some .i64) Cw
abbrev Gq:V:=.agg [Ad,Ak,Ad,Ak]
abbrev DU:SE:=.cons Ai (.cons Av Gd)
abbrev Gr:SE:=.app 130 2 (some .i64) DU
def z3t:ST:=(.ask (.cmp .neq Gp Aa) (.leaf (.tup [Gq,(.one (.opq Gp))])) (.ask (.cmp .neq Gr Aa) (.leaf (.tup [Gq,(.one (.opq Gr))])) (.leaf (.tup [(.agg [(.opq (.app 130 0 (some .i64) Cw)),(.opq (.app 130 1 (some .u64) Cw)),(.opq (.app 130 0 (some .i64) DU)),(.opq (.app 130 1 (some .u64) DU))]),Bi]))))
noncomputable def qgj:List Ent:=⟨123,[.agg [some .i64,some .u64,some .i64,some .u64],.agg [some .i64,some .u64]],.tup [.agg [some .i64,some .u64,some .i64,some .u64],.one (some .i64)],qaf z3t,false⟩::qcf
theorem q77:qcd Tryz.prog qgj:=qbd (b:=bW.loops qcl) (qag qbi _) (qbj quy) (d:=300) za6 (fn rfl) (by kernel_rfl)
theorem qtu:LBs Tryz.prog qcl qgj:=qao quy (by kernel_rfl)
abbrev DV:SE:=.ivar .u64 11
abbrev CY:SE:=.cons Bl (.cons DV Bx)
abbrev Cz:SE:=.cons BL (.cons Cy CY)
def z0s:ST:=(.leaf (.tup [(.agg [(.opq (.app 123 0 (some .i64) Cz)),(.opq (.app 123 1 (some .u64) Cz)),(.opq (.app 123 2 (some .i64) Cz)),(.opq (.app 123 3 (some .u64) Cz))]),(.one (.opq (.app 123 4 (some .i64) Cz)))]))
noncomputable def qbf:List Ent:=⟨105,[.agg [some .i64,some .u64,some .i64,some .u64,some .i64,some .u64,some .i64,some .u64,some .i64,some .u64,some .i64,some .u64,some .i64,some .u64,some .i64,some .u64,some .i64,some .u64,some .i64,some .i64]],.tup [.agg [some .i64,some .u64,some .i64,some .u64],.one (some .i64)],qaf z0s,false⟩::qgj
theorem zbu:qcd Tryz.prog qbf:=qbd (b:=bW.loops qcl) (qag qbi _) (qbj qtu) (d:=300) q77 (fn rfl) (by kernel_rfl)
theorem qvh:LBs Tryz.prog qcl qbf:=qao qtu (by kernel_rfl)
abbrev Gs:SE:=.cons (.app 80 0 (some .i64) (.cons Bk .nil)) (.cons (.app 80 1 (some .u64) (.cons Bk .nil)) .nil)
abbrev Gt:SE:=.cons (.bin .sub .i64 Aa Bk) .nil
abbrev Gu:SE:=.cons (.app 80 0 (some .i64) Gt) (.cons (.app 80 1 (some .u64) Gt) .nil)
def zlz:ST:=(.ask (.cmp .leq (.app 82 0 (some .i64) (.cons Ah (.cons At Gs))) Aa) (.ask (.cmp .geq (.app 82 0 (some .i64) (.cons Ah (.cons At Gu))) Aa) (.ask (.cmp .leq (.app 82 0 (some .i64) (.cons Ai (.cons Av Gs))) Aa) (.leaf (.one (.opq (.cmp .geq (.app 82 0 (some .i64) (.cons Ai (.cons Av Gu))) Aa)))) (.leaf CW)) (.leaf CW)) (.leaf CW))
noncomputable def qe0:List Ent:=⟨106,[.agg [some .i64,some .u64,some .i64,some .u64],.one (some .i64)],.one (.one none),qaf zlz,false⟩::qbf
theorem q93:qcd Tryz.prog qe0:=qbd (b:=bW.loops qcl) (qag qbi _) (qbj qvh) (d:=300) zbu (fn rfl) (by kernel_rfl)
theorem qu7:LBs Tryz.prog qcl qe0:=qao qvh (by kernel_rfl)
abbrev AH:SE:=.ivar .i64 12
abbrev DW:SE:=.ivar .u64 13
abbrev AJ:SE:=.ivar .i64 19
abbrev Be:SE:=.cons Ah (.cons At (.cons Ai (.cons Av (.cons Bk (.cons BV (.cons AY (.cons (.ivar .u64 7) (.cons BL (.cons Cy (.cons Bl (.cons DV (.cons AH (.cons DW (.cons (.ivar .i64 14) (.cons (.ivar .u64 15) (.cons (.ivar .i64 16) (.cons (.ivar .u64 17) (.cons (.ivar .i64 18) (.cons AJ .nil)))))))))))))))))))
abbrev Gv:SE:=.app 105 4 (some .i64) Be
abbrev BR:SE:=.cons (.lit .i64 65536) .nil
abbrev Gw:V:=.one (.opq Gv)
def tr84:ST:=(.ask (.cmp .eql Gv Aa) (.leaf (.tup [(.one (.opq (.app 106 0 none (.cons (.app 105 0 (some .i64) Be) (.cons (.app 105 1 (some .u64) Be) (.cons (.app 105 2 (some .i64) Be) (.cons (.app 105 3 (some .u64) Be) BR))))))),Gw])) (.leaf (.tup [CW,Gw])))
noncomputable def qgv:List Ent:=⟨83,[.agg [some .i64,some .u64,some .i64,some .u64,some .i64,some .u64,some .i64,some .u64,some .i64,some .u64,some .i64,some .u64,some .i64,some .u64,some .i64,some .u64,some .i64,some .u64,some .i64,some .i64]],.tup [.one none,.one (some .i64)],qaf tr84,false⟩::qe0
theorem zkj:qcd Tryz.prog qgv:=qbd (b:=bW.loops qcl) (qag qbi _) (qbj qu7) (d:=300) q93 (fn rfl) (by kernel_rfl)
theorem q1k:LBs Tryz.prog qcl qgv:=qao qu7 (by kernel_rfl)
abbrev Gx:SE:=.cons Ai (.cons Av BW)
def tr85:ST:=(.leaf (.one (.opq (.app 106 0 none (.cons Ah (.cons At Gx))))))
noncomputable def qcv:List Ent:=⟨84,[.agg [some .i64,some .u64,some .i64,some .u64]],.one (.one none),qaf tr85,false⟩::qgv
theorem zjy:qcd Tryz.prog qcv:=qbd (b:=bW.loops qcl) (qag qbi _) (qbj q1k) (d:=300) zkj (fn rfl) (by kernel_rfl)
theorem q3v:LBs Tryz.prog qcl qcv:=qao q1k (by kernel_rfl)
abbrev CZ:SE:=.cons Bk (.cons BV (.cons AY (.cons (.ivar .u64 7) .nil)))
abbrev Gy:SE:=.cons BL (.cons Cy (.cons Bl (.cons DV .nil)))
abbrev Gz:SE:=.lit .u64 281474976710656
abbrev GA:SE:=.lit .i64 1048576
abbrev GB:SE:=.cons Ah (.cons At (.cons Aa (.cons Gz (.cons GA (.cons Al .nil)))))
abbrev GC:SE:=.cons AH (.cons DW (.cons Aa (.cons Al Bx)))
abbrev CA:SE:=.cons Ah (.cons At (.cons AH (.cons DW .nil)))
abbrev GD:SE:=.cons Aa (.cons Gz .nil)
abbrev GE:SE:=.cons Ai (.cons Av BR)
abbrev GF:SE:=.cons (.ivar .i64 14) (.cons (.ivar .u64 15) BR)
abbrev GG:SE:=.cons (.ivar .i64 16) (.cons (.ivar .u64 17) BR)
abbrev GH:SE:=.cons (.ivar .i64 18) (.cons Aa (.cons (.lit .i64 100) .nil))
def yd4:ST:=(.ask (.not (.app 75 0 none CZ)) (.leaf CW) (.ask (.not (.app 75 0 none Gy)) (.leaf CW) (.ask (.not (.app 76 0 none GB)) (.leaf CW) (.ask (.not (.app 76 0 none GC)) (.leaf CW) (.ask (.cmp .neq (.app 81 2 (some .i64) CA) Aa) (.leaf CW) (.ask (.cmp .lss (.app 82 0 (some .i64) (.cons (.app 81 0 (some .i64) CA) (.cons (.app 81 1 (some .u64) CA) GD))) Aa) (.leaf CW) (.ask (.not (.app 74 0 none GE)) (.leaf CW) (.ask (.not (.app 74 0 none GF)) (.leaf CW) (.ask (.not (.app 74 0 none GG)) (.leaf CW) (.ask (.app 83 0 none Be) (.ask (.cmp .eql (.app 83 1 (some .i64) Be) Aa) (.ask (.app 84 0 none CZ) (.ask (.app 49 0 none GH) (.leaf (.one (.opq (.app 49 0 none (.cons AJ DQ))))) (.leaf CW)) (.leaf CW)) (.leaf CW)) (.leaf CW)))))))))))
noncomputable def qfl:List Ent:=⟨43,[.agg [some .i64,some .u64,some .i64,some .u64,some .i64,some .u64,some .i64,some .u64,some .i64,some .u64,some .i64,some .u64,some .i64,some .u64,some .i64,some .u64,some .i64,some .u64,some .i64,some .i64]],.one (.one none),qaf yd4,false⟩::qcv
theorem zns:qcd Tryz.prog qfl:=qbd (b:=bW.loops qcl) (qag qbi _) (qbj q3v) (d:=300) zjy (fn rfl) (by kernel_rfl)
theorem q2m:LBs Tryz.prog qcl qfl:=qao q3v (by kernel_rfl)
def tr44:ST:=(.leaf (.one (.opq (.not (.app 43 0 none Be)))))
noncomputable def qwm:List Ent:=⟨42,[.agg [some .i64,some .u64,some .i64,some .u64,some .i64,some .u64,some .i64,some .u64,some .i64,some .u64,some .i64,some .u64,some .i64,some .u64,some .i64,some .u64,some .i64,some .u64,some .i64,some .i64]],.one (.one none),qaf tr44,false⟩::qfl
theorem zly:qcd Tryz.prog qwm:=qbd (b:=bW.loops qcl) (qag qbi _) (qbj q2m) (d:=300) zns (fn rfl) (by kernel_rfl)
theorem zna:LBs Tryz.prog qcl qwm:=qao q2m (by kernel_rfl)
def zz3:List LEnt:=qcl
noncomputable def qhx:List Ent:=qwm
theorem zn1:qcd Tryz.prog qhx:=zly
theorem zou:LBs Tryz.prog qcl qhx:=zna
abbrev Ab:SE:=.lvar 0
abbrev CB:V:=.one (.sli 0 Ab)
abbrev BA:C:=.opq Af
abbrev DX:V:=.one BA
abbrev AD:SE:=.len Ab
abbrev C0:V:=.one (.opq AD)
def mrS:List (Nat×V):=([(39,CB),(2,CW),(41,DX),(40,C0),(0,(.any 0)),(1,(.any 1)),(3,(.any 3)),(4,(.any 4))]++ay 8 31)
def mrM:MB:=[]
abbrev BX:Ks:=[some .i64,some .i64,some .u64,some .i64,some .u64,some .i64,some .i64,some .i64,some .i64,some .u64]
abbrev Js:List C:=[(.big Ab BX)]
abbrev JB:MB:=[(0,Js,72,false)]
def mrF:MB:=JB
abbrev GJ:SE:=.cmp .lss Af AD
abbrev GK:SE:=.cmp .geq Af Aa
abbrev GL:SE:=.el (some .i64) Ab Af 0
abbrev GM:SE:=.el (some .i64) Ab Af 6
abbrev GN:SE:=.el (some .i64) Ab Af 8
abbrev GO:SE:=.el (some .u64) Ab Af 9
def mrT:RT:=(.ask GJ (.know GK true (.ask (.not (.app 40 0 none (.cons GL (.cons (.el (some .i64) Ab Af 1) (.cons (.el (some .u64) Ab Af 2) (.cons (.el (some .i64) Ab Af 3) (.cons (.el (some .u64) Ab Af 4) (.cons (.el (some .i64) Ab Af 5) (.cons GM (.cons (.el (some .i64) Ab Af 7) (.cons GN (.cons GO DO)))))))))))) (.out 0 []) (.next [Ab,(.bin .add .i64 Af Aw)]))) (.out 1 [Ab]))
abbrev CC:List (Nat×V):=[(2,CW)]
def mrC:List (Nat×Nat×Option (Option IntKind)):=[(0,0,none)]
def mrL:LEnt:={f:=21,id:=5,num:=20031,nx:=1,S:=([(39,CB),(2,CW),(41,Bi),(40,C0),(0,(.any 0)),(1,(.any 1)),(3,(.any 3)),(4,(.any 4))]++ay 8 31),M:=[],F:=mrF,kk:=[0],outs:=[{x:= .ret,S:=CC,M:=[],cv:=[]},{x:=(.exit 0),S:=([(39,CB),(0,(.any 0)),(1,(.any 1)),(2,CW),(3,(.any 3)),(4,(.any 4))]++ay 8 31),M:=[],cv:=mrC}],lv:=[(0,0)],sm:=[],pre:=[]}
def mrI:List SE:=[Ab,Aa]
def mrn:Nat:=76
noncomputable def mrU (xs:List Int):Nat:=(dec (xs.getD 0 0)).length+1
noncomputable def mrG:(Nat→List Int→List Int)→List Int→List Int:=qfv mrI (fun _=>mrT) mrU
theorem yf8 (F:Nat→List Int→List Int) (xs:List Int) (hp:Pre mrL F xs):qdn (fun _=>mrT) F 0 (mrU xs) (mrI.map (SE.val (qaa F xs))):=
 qfc (T:=mrT) (c:=1) (lv:=0) (ex:=[]) (by kernel_rfl) (fun _=>True) (fun _ _ _ _=>trivial) (fun _ _ _ _ _ _ q hq=>by cases hq) _ 0 0 _ (qg8 (I:=mrI) (by kernel_rfl)) (by rw [qbq (I:=mrI) (j0:=0) (by kernel_rfl)];unfold mrU;omega) (Nat.succ_pos _) (by rw [qbq (I:=mrI) (j0:=0) (by kernel_rfl)];exact hp.lv (0,0) (by decide)) trivial
theorem yau:qak (bW.loops zz3) qhx 300 mrL.f mrn (qa3 Tryz.prog mrL.f mrL.id) mrS mrM mrL.F mrL.nx mrS mrL.outs mrL.kk mrT []=true:=by kernel_rfl
theorem mr_ok:LCT Tryz.prog mrL (FT qhx) (mrG (FT qhx)):=
 qc8 (b:=bW.loops zz3) (Tb:=qhx) (y:=mrL) (M:=mrM) (T:=fun _=>mrT) (S:=fun _=>mrS) (init:=mrI) (qag qbi _) (qbj zou) zn1 (d:=300) (n:=mrn) (by kernel_rfl) (by kernel_rfl) (by kernel_rfl) (by kernel_rfl) (fun _ _ _=>yau) (fun xs hp=>yf8 _ xs hp)
theorem yd6 (F:Nat→List Int→List Int):Cst mrL (mrG F):=qdh mrC (by kernel_rfl) (fun _ _ _=>by kernel_rfl)
noncomputable def qku:List Ent:=⟨20031,[],.tup [],mrG,true⟩::qhx
def qrz:List LEnt:=mrL::zz3
theorem q34:qcd Tryz.prog qku:=qbw zn1 rfl (by kernel_rfl)
theorem q36:LBs Tryz.prog qrz qku:=qbl (y:=mrL) zou (by kernel_rfl) (by kernel_rfl) (by kernel_rfl) mr_ok (yd6 _)
def ibS:List (Nat×V):=[(0,CB),(1,(.one (.fn 42 []))),(4,Bi),(8,DX),(7,C0),(6,(.any 6))]
def ibM:MB:=[]
abbrev Bm:Ks:=[some .i64,some .u64,some .i64,some .u64,some .i64,some .u64,some .i64,some .u64,some .i64,some .u64,some .i64,some .u64,some .i64,some .u64,some .i64,some .u64,some .i64,some .u64,some .i64,some .i64]
abbrev Jt:List C:=[(.big Ab Bm)]
def ibF:MB:=[(0,Jt,54,false)]
def ibT:RT:=(.ask GJ (.know GK true (.ask (.app 42 0 none (.cons GL (.cons (.el (some .u64) Ab Af 1) (.cons (.el (some .i64) Ab Af 2) (.cons (.el (some .u64) Ab Af 3) (.cons (.el (some .i64) Ab Af 4) (.cons (.el (some .u64) Ab Af 5) (.cons GM (.cons (.el (some .u64) Ab Af 7) (.cons GN (.cons GO (.cons (.el (some .i64) Ab Af 10) (.cons (.el (some .u64) Ab Af 11) (.cons (.el (some .i64) Ab Af 12) (.cons (.el (some .u64) Ab Af 13) (.cons (.el (some .i64) Ab Af 14) (.cons (.el (some .u64) Ab Af 15) (.cons (.el (some .i64) Ab Af 16) (.cons (.el (some .u64) Ab Af 17) (.cons (.el (some .i64) Ab Af 18) (.cons (.el (some .i64) Ab Af 19) .nil))))))))))))))))))))) (.out 0 [Af]) (.next [Ab,(.bin .add .i64 Af Aw)]))) (.out 1 [Ab]))
abbrev JC:List (Nat×V):=[(0,CB),(1,(.one (.fn 42 []))),(4,Bi),(8,Bi),(7,C0),(6,(.any 6))]
abbrev BD:C:=.opq Ah
def ibL:LEnt:={f:=78,id:=2,num:=20032,nx:=1,S:=JC,M:=[],F:=ibF,kk:=[0],outs:=[{x:= .ret,S:=[(4,(.one BD))],M:=[],cv:=[]},{x:=(.exit 0),S:=[(0,CB),(4,Bi),(6,(.any 6))],M:=[],cv:=mrC}],lv:=[(0,0)],sm:=[],pre:=[]}
def ibI:List SE:=[Ab,Aa]
def ibC:List (Nat×Nat×Option (Option IntKind)):=[(0,0,none)]
def ibn:Nat:=19
noncomputable def ibU (xs:List Int):Nat:=(dec (xs.getD 0 0)).length+1
noncomputable def ibG:(Nat→List Int→List Int)→List Int→List Int:=qfv ibI (fun _=>ibT) ibU
theorem ye0 (F:Nat→List Int→List Int) (xs:List Int) (hp:Pre ibL F xs):qdn (fun _=>ibT) F 0 (ibU xs) (ibI.map (SE.val (qaa F xs))):=
 qfc (T:=ibT) (c:=1) (lv:=0) (ex:=[]) (by kernel_rfl) (fun _=>True) (fun _ _ _ _=>trivial) (fun _ _ _ _ _ _ q hq=>by cases hq) _ 0 0 _ (qg8 (I:=ibI) (by kernel_rfl)) (by rw [qbq (I:=ibI) (j0:=0) (by kernel_rfl)];unfold ibU;omega) (Nat.succ_pos _) (by rw [qbq (I:=ibI) (j0:=0) (by kernel_rfl)];exact hp.lv (0,0) (by decide)) trivial
theorem ybc:qak (bW.loops qrz) qku 300 ibL.f ibn (qa3 Tryz.prog ibL.f ibL.id) ibS ibM ibL.F ibL.nx ibS ibL.outs ibL.kk ibT []=true:=by kernel_rfl
theorem ib_ok:LCT Tryz.prog ibL (FT qku) (ibG (FT qku)):=
 qc8 (b:=bW.loops qrz) (Tb:=qku) (y:=ibL) (M:=ibM) (T:=fun _=>ibT) (S:=fun _=>ibS) (init:=ibI) (qag qbi _) (qbj q36) q34 (d:=300) (n:=ibn) (by kernel_rfl) (by kernel_rfl) (by kernel_rfl) (by kernel_rfl) (fun _ _ _=>ybc) (fun xs hp=>ye0 _ xs hp)
theorem z4h (F:Nat→List Int→List Int):Cst ibL (ibG F):=qdh ibC (by kernel_rfl) (fun _ _ _=>by kernel_rfl)
noncomputable def qci:List Ent:=⟨20032,[],.tup [],ibG,true⟩::qku
def qsd:List LEnt:=ibL::qrz
theorem qzq:qcd Tryz.prog qci:=qbw q34 rfl (by kernel_rfl)
theorem q3d:LBs Tryz.prog qsd qci:=qbl (y:=ibL) q36 (by kernel_rfl) (by kernel_rfl) (by kernel_rfl) ib_ok (z4h _)
abbrev D3:C:=.ptr 1 0
abbrev C1:V:=.one (.opq Ai)
def itS:List (Nat×V):=[(0,CB),(1,(.one (.fn 45 [D3]))),(4,Bi),(8,C1),(7,C0),(6,(.any 6))]
def itM:MB:=[]
abbrev BZ:Ks:=[some .i64,some .i64,some .i64,some .u64,some .i64,some .u64]
abbrev JD:Nat×List C×Nat×Bool:=(0,[(.big Ab BZ)],70,false)
abbrev GR:Nat×List C×Nat×Bool:=(1,[BA],3,false)
def itF:MB:=[JD,GR]
abbrev CD:SE:=.cmp .lss Ai AD
abbrev CE:SE:=.cmp .geq Ai Aa
abbrev D4:SE:=.el (some .i64) Ab Ai 0
abbrev GS:SE:=.cons (.bin .sub .i64 Af Aw) .nil
abbrev GT:SE:=.el (some .i64) Ab Ai 1
abbrev GU:SE:=.el (some .i64) Ab Ai 2
abbrev GV:SE:=.el (some .u64) Ab Ai 3
abbrev D5:SE:=.cons (.lit .i64 1099511627776) .nil
abbrev CF:SE:=.bin .add .i64 Ai Aw
def itT:RT:=(.ask CD (.know CE true (.ask (.app 49 0 none (.cons D4 (.cons Aa GS))) (.ask (.app 49 0 none (.cons GT (.cons Aa GS))) (.ask (.cmp .neq D4 GT) (.ask (.app 74 0 none (.cons GU (.cons GV BW))) (.ask (.not (.and (.cmp .eql GU Aa) (.and (.cmp .eql GV Al) Ap))) (.ask (.not (.app 74 0 none (.cons (.el (some .i64) Ab Ai 4) (.cons (.el (some .u64) Ab Ai 5) D5)))) (.out 0 [Ai]) (.next [Ab,Af,CF])) (.out 0 [Ai])) (.out 0 [Ai])) (.out 0 [Ai])) (.out 0 [Ai])) (.out 0 [Ai]))) (.out 1 [Ab]))
def itL:LEnt:={f:=85,id:=2,num:=20033,nx:=2,S:=[(0,CB),(1,(.one (.fn 45 [D3]))),(4,Bi),(8,Bi),(7,C0),(6,(.any 6))],M:=[],F:=itF,kk:=[0,1],outs:=[{x:= .ret,S:=[(4,(.one BD))],M:=[],cv:=[]},{x:=(.exit 0),S:=[(0,CB),(4,Bi),(6,(.any 6))],M:=[],cv:=mrC}],lv:=[(0,0)],sm:=[],pre:=[]}
def itI:List SE:=[Ab,Af,Aa]
def itC:List (Nat×Nat×Option (Option IntKind)):=[(0,0,none),(1,1,(some (some .i64)))]
def itn:Nat:=19
noncomputable def itU (xs:List Int):Nat:=(dec (xs.getD 0 0)).length+1
noncomputable def itG:(Nat→List Int→List Int)→List Int→List Int:=qfv itI (fun _=>itT) itU
theorem yf1 (F:Nat→List Int→List Int) (xs:List Int) (hp:Pre itL F xs):qdn (fun _=>itT) F 0 (itU xs) (itI.map (SE.val (qaa F xs))):=
 qfc (T:=itT) (c:=2) (lv:=0) (ex:=[]) (by kernel_rfl) (fun _=>True) (fun _ _ _ _=>trivial) (fun _ _ _ _ _ _ q hq=>by cases hq) _ 0 0 _ (qg8 (I:=itI) (by kernel_rfl)) (by rw [qbq (I:=itI) (j0:=0) (by kernel_rfl)];unfold itU;omega) (Nat.succ_pos _) (by rw [qbq (I:=itI) (j0:=0) (by kernel_rfl)];exact hp.lv (0,0) (by decide)) trivial
theorem z4i:qak (bW.loops qsd) qci 300 itL.f itn (qa3 Tryz.prog itL.f itL.id) itS itM itL.F itL.nx itS itL.outs itL.kk itT []=true:=by kernel_rfl
theorem it_ok:LCT Tryz.prog itL (FT qci) (itG (FT qci)):=
 qc8 (b:=bW.loops qsd) (Tb:=qci) (y:=itL) (M:=itM) (T:=fun _=>itT) (S:=fun _=>itS) (init:=itI) (qag qbi _) (qbj q3d) qzq (d:=300) (n:=itn) (by kernel_rfl) (by kernel_rfl) (by kernel_rfl) (by kernel_rfl) (fun _ _ _=>z4i) (fun xs hp=>yf1 _ xs hp)
theorem z8y (F:Nat→List Int→List Int):Cst itL (itG F):=qdh itC (by kernel_rfl) (fun _ _ _=>by kernel_rfl)
noncomputable def qcx:List Ent:=⟨20033,[],.tup [],itG,true⟩::qci
def qrd:List LEnt:=itL::qsd
theorem q3j:qcd Tryz.prog qcx:=qbw qzq rfl (by kernel_rfl)
theorem q3c:LBs Tryz.prog qrd qcx:=qbl (y:=itL) q3d (by kernel_rfl) (by kernel_rfl) (by kernel_rfl) it_ok (z8y _)
def iaS:List (Nat×V):=[(0,CB),(1,(.one (.fn 48 [D3]))),(4,Bi),(8,C1),(7,C0),(6,(.any 6))]
def iaM:MB:=[]
abbrev BM:Ks:=[some .i64]
abbrev JE:Nat×List C×Nat×Bool:=(0,[(.big Ab BM)],3,false)
def iaF:MB:=[JE,GR]
def iaT:RT:=(.ask CD (.know CE true (.ask (.not (.app 49 0 none (.cons D4 (.cons Cx GS)))) (.out 0 [Ai]) (.next [Ab,Af,CF]))) (.out 1 [Ab]))
def iaL:LEnt:={f:=86,id:=2,num:=20034,nx:=2,S:=[(0,CB),(1,(.one (.fn 48 [D3]))),(4,Bi),(8,Bi),(7,C0),(6,(.any 6))],M:=[],F:=iaF,kk:=[0,1],outs:=[{x:= .ret,S:=[(4,(.one BD))],M:=[],cv:=[]},{x:=(.exit 0),S:=[(0,CB),(4,Bi),(6,(.any 6))],M:=[],cv:=mrC}],lv:=[(0,0)],sm:=[],pre:=[]}
def iaI:List SE:=[Ab,Af,Aa]
def iaC:List (Nat×Nat×Option (Option IntKind)):=[(0,0,none),(1,1,(some (some .i64)))]
def ian:Nat:=19
noncomputable def iaU (xs:List Int):Nat:=(dec (xs.getD 0 0)).length+1
noncomputable def iaG:(Nat→List Int→List Int)→List Int→List Int:=qfv iaI (fun _=>iaT) iaU
theorem yc_ (F:Nat→List Int→List Int) (xs:List Int) (hp:Pre iaL F xs):qdn (fun _=>iaT) F 0 (iaU xs) (iaI.map (SE.val (qaa F xs))):=
 qfc (T:=iaT) (c:=2) (lv:=0) (ex:=[]) (by kernel_rfl) (fun _=>True) (fun _ _ _ _=>trivial) (fun _ _ _ _ _ _ q hq=>by cases hq) _ 0 0 _ (qg8 (I:=iaI) (by kernel_rfl)) (by rw [qbq (I:=iaI) (j0:=0) (by kernel_rfl)];unfold iaU;omega) (Nat.succ_pos _) (by rw [qbq (I:=iaI) (j0:=0) (by kernel_rfl)];exact hp.lv (0,0) (by decide)) trivial
theorem z96:qak (bW.loops qrd) qcx 300 iaL.f ian (qa3 Tryz.prog iaL.f iaL.id) iaS iaM iaL.F iaL.nx iaS iaL.outs iaL.kk iaT []=true:=by kernel_rfl
theorem ia_ok:LCT Tryz.prog iaL (FT qcx) (iaG (FT qcx)):=
 qc8 (b:=bW.loops qrd) (Tb:=qcx) (y:=iaL) (M:=iaM) (T:=fun _=>iaT) (S:=fun _=>iaS) (init:=iaI) (qag qbi _) (qbj q3c) q3j (d:=300) (n:=ian) (by kernel_rfl) (by kernel_rfl) (by kernel_rfl) (by kernel_rfl) (fun _ _ _=>z96) (fun xs hp=>yc_ _ xs hp)
theorem z7z (F:Nat→List Int→List Int):Cst iaL (iaG F):=qdh iaC (by kernel_rfl) (fun _ _ _=>by kernel_rfl)
noncomputable def qcj:List Ent:=⟨20034,[],.tup [],iaG,true⟩::qcx
def qs6:List LEnt:=iaL::qrd
theorem q2f:qcd Tryz.prog qcj:=qbw q3j rfl (by kernel_rfl)
theorem q1x:LBs Tryz.prog qs6 qcj:=qbl (y:=iaL) q3c (by kernel_rfl) (by kernel_rfl) (by kernel_rfl) ia_ok (z7z _)
abbrev C2:C:=.opq AA
def meS:List (Nat×V):=[(8,CB),(1,DX),(4,CW),(5,C1),(10,(.one C2)),(9,C0),(0,(.any 0))]
def meM:MB:=[]
abbrev B3:Ks:=[some .i64,some .i64,some .i64,some .i64]
abbrev JF:MB:=[(0,[(.big Ab B3)],38,false)]
def meF:MB:=JF
abbrev GY:SE:=.el (some .i64) Ab AA 0
abbrev Ae:SE:=.lit .i64 8
abbrev GZ:SE:=.cons Aw (.cons Ae .nil)
abbrev C3:SE:=.cons Cx Gg
def meT:RT:=(.ask (.cmp .lss AA AD) (.know (.cmp .geq AA Aa) true (.ask (.not (.app 49 0 none (.cons GY (.cons Ai DO)))) (.out 0 []) (.ask (.not (.app 49 0 none (.cons (.el (some .i64) Ab AA 1) GZ))) (.out 0 []) (.ask (.not (.app 49 0 none (.cons (.el (some .i64) Ab AA 2) C3))) (.out 0 []) (.ask (.not (.app 49 0 none (.cons (.el (some .i64) Ab AA 3) C3))) (.out 0 []) (.next [Ab,Af,GY,(.bin .add .i64 AA Aw)])))))) (.out 1 [Ab]))
abbrev B4:List (Nat×V):=[(4,CW)]
def meL:LEnt:={f:=50,id:=3,num:=20022,nx:=1,S:=[(8,CB),(1,DX),(4,CW),(5,Bi),(10,Bi),(9,C0),(0,(.any 0))],M:=[],F:=meF,kk:=[0],outs:=[{x:= .ret,S:=B4,M:=[],cv:=[]},{x:=(.exit 0),S:=[(8,CB),(0,(.any 0)),(4,CW)],M:=[],cv:=mrC}],lv:=[(0,0)],sm:=[],pre:=[]}
def meI:List SE:=[Ab,Af,Aa,Aa]
def meC:List (Nat×Nat×Option (Option IntKind)):=[(0,0,none),(1,1,(some (some .i64)))]
def men:Nat:=44
noncomputable def meU (xs:List Int):Nat:=(dec (xs.getD 0 0)).length+1
noncomputable def meG:(Nat→List Int→List Int)→List Int→List Int:=qfv meI (fun _=>meT) meU
theorem yhy (F:Nat→List Int→List Int) (xs:List Int) (hp:Pre meL F xs):qdn (fun _=>meT) F 0 (meU xs) (meI.map (SE.val (qaa F xs))):=
 qfc (T:=meT) (c:=3) (lv:=0) (ex:=[]) (by kernel_rfl) (fun _=>True) (fun _ _ _ _=>trivial) (fun _ _ _ _ _ _ q hq=>by cases hq) _ 0 0 _ (qg8 (I:=meI) (by kernel_rfl)) (by rw [qbq (I:=meI) (j0:=0) (by kernel_rfl)];unfold meU;omega) (Nat.succ_pos _) (by rw [qbq (I:=meI) (j0:=0) (by kernel_rfl)];exact hp.lv (0,0) (by decide)) trivial
theorem ygz:qak (bW.loops qs6) qcj 300 meL.f men (qa3 Tryz.prog meL.f meL.id) meS meM meL.F meL.nx meS meL.outs meL.kk meT []=true:=by kernel_rfl
theorem me_ok:LCT Tryz.prog meL (FT qcj) (meG (FT qcj)):=
 qc8 (b:=bW.loops qs6) (Tb:=qcj) (y:=meL) (M:=meM) (T:=fun _=>meT) (S:=fun _=>meS) (init:=meI) (qag qbi _) (qbj q1x) q2f (d:=300) (n:=men) (by kernel_rfl) (by kernel_rfl) (by kernel_rfl) (by kernel_rfl) (fun _ _ _=>ygz) (fun xs hp=>yhy _ xs hp)
theorem yf4 (F:Nat→List Int→List Int):Cst meL (meG F):=qdh meC (by kernel_rfl) (fun _ _ _=>by kernel_rfl)
noncomputable def qsr:List Ent:=⟨20022,[],.tup [],meG,true⟩::qcj
def zge:List LEnt:=meL::qs6
theorem zir:qcd Tryz.prog qsr:=qbw q2f rfl (by kernel_rfl)
theorem zmj:LBs Tryz.prog zge qsr:=qbl (y:=meL) q1x (by kernel_rfl) (by kernel_rfl) (by kernel_rfl) me_ok (yf4 _)
noncomputable def ztq:List Ent:=qsr
def ye6:List LEnt:=zge
theorem yc0:qcd Tryz.prog ztq:=zir
theorem z4l:LBs Tryz.prog ye6 ztq:=zmj
noncomputable def qfo:List Ent:=ztq
def zlc:List LEnt:=ye6
theorem zod:qcd Tryz.prog qfo:=yc0
theorem zqm:LBs Tryz.prog zlc qfo:=z4l
theorem qi5 {T:RT} {F:Nat→List Int→List Int} (J:Nat→List Int→Prop) (N:Nat) (hok:∀i xs,i≤N→J i xs→T.ok (qaa F xs)) (hnx:∀i xs ys,i≤N→J i xs→T.get (qaa F xs)=(none,ys)→i<N∧J (i+1) ys):
  ∀(k i j:Nat) (xs:List Int),i+k=N+1→0<k→J i xs→qdn (fun _=>T) F j k xs
 |0,_,_,_,_,hk,_=>by omega
 |k+1,i,j,xs,hik,_,hj=>by
  refine ⟨hok i xs (by omega) hj,fun ys hy=> ?_⟩
  obtain ⟨h1,h2⟩:=hnx i xs ys (by omega) hj hy
  exact qi5 J N hok hnx k (i+1) (j+1) ys (by omega) (by omega) h2
theorem qfm {T:RT} {F:Nat→List Int→List Int} (J:Nat→List Int→Prop) (N:Nat) (R:Nat→List Int→Prop) (hnx:∀i xs ys,i≤N→J i xs→T.get (qaa F xs)=(none,ys)→i<N∧J (i+1) ys) (hout:∀i xs e ys,i≤N→J i xs→T.get (qaa F xs)=(some e,ys)→R e ys):
  ∀(k i j:Nat) (xs:List Int),i+k=N+1→0<k→J i xs→∃e ys,qkx (fun _=>T) F j k xs=some (e,ys)∧R e ys
 |0,_,_,_,_,hk,_=>by omega
 |k+1,i,j,xs,hik,_,hj=>by
  have hn:∃e ys,T.get (qaa F xs)=(e,ys):=⟨_,_,rfl⟩
  obtain ⟨e,ys,he⟩:=hn
  cases e with
  |none=>
   obtain ⟨h1,h2⟩:=hnx i xs ys (by omega) hj he
   obtain ⟨e',zs,g1,g2⟩:=qfm J N R hnx hout k (i+1) (j+1) ys (by omega) (by omega) h2
   exact ⟨e',zs,by simp only [qkx,he];exact g1,g2⟩
  |some e=>exact ⟨e,ys,by simp only [qkx,he],hout i xs e ys (by omega) hj he⟩
section
variable {E:Env}
theorem qe2 {x:SE} {t:RT} {o:Nat} {zs:List SE} {ys:List Int} (h:(RT.ask x t (.out o zs)).get E=(none,ys)):(x.val E !=0)=true∧t.get E=(none,ys):=by
 simp only [RT.get] at h
 cases hx:(x.val E !=0) with
 |true=>rw [hx,cond_true] at h;exact ⟨rfl,h⟩
 |false=>rw [hx,cond_false] at h;cases h
theorem qhg {zs:List SE} {ys:List Int} (h:(RT.next zs).get E=(none,ys)):ys=zs.map (SE.val E):=by
 simp only [RT.get] at h;cases h;rfl
theorem qgd {x:SE} {t:RT} {o e:Nat} {zs:List SE} {ys:List Int} (h:(RT.ask x t (.out o zs)).get E=(some e,ys)):((x.val E !=0)=false∧e=o∧ys=zs.map (SE.val E))∨((x.val E !=0)=true∧t.get E=(some e,ys)):=by
 simp only [RT.get] at h
 cases hx:(x.val E !=0) with
 |true=>rw [hx,cond_true] at h;exact .inr ⟨rfl,h⟩
 |false=>rw [hx,cond_false] at h;cases h;exact .inl ⟨rfl,rfl,rfl⟩
theorem qiy {zs:List SE} {e:Nat} {ys:List Int} (h:(RT.next zs).get E=(some e,ys)):False:=by
 simp only [RT.get] at h;cases h
theorem qh5 {x:SE} {t:RT} {o:Nat} {zs:List SE} (h:(x.val E !=0)=true→t.ok E):(RT.ask x t (.out o zs)).ok E:=⟨h,fun _=>trivial⟩
end
section
variable {F:Nat→List Int→List Int} {xs:List Int}
theorem qez {c:Nat} {i:Nat} (hc:xs.getD c 0=(i:Int)) (hi:i≤1000000000000000000):(SE.ivar .i64 c).val (qaa F xs)=(i:Int):=by
 have e1:(qaa F xs).iv c=(i:Int):=hc
 simp only [SE.val,e1,IntKind.wrap_i64];omega
theorem qcu {c:Nat} {i k:Nat} (hc:xs.getD c 0=(i:Int)) (hi:i+k≤1000000000000000000):(SE.bin .add .i64 (.ivar .i64 c) (.lit .i64 (k:Int))).val (qaa F xs)=((i+k:Nat):Int):=by
 have e:=qez (F:=F) hc (by omega)
 have e2:(SE.bin .add .i64 (.ivar .i64 c) (.lit .i64 (k:Int))).val (qaa F xs)=IntKind.i64.wrap ((SE.ivar .i64 c).val (qaa F xs)+IntKind.i64.wrap (k:Int)):=by simp only [SE.val,qbg]
 rw [e2,e];simp only [IntKind.wrap_i64];omega
theorem qby {lv n:Nat} (hl:(dec (xs.getD lv 0)).length=n) (hn:n≤maxLen):(SE.len (.lvar lv)).val (qaa F xs)=(n:Int):=by
 have e2:(qaa F xs).iv lv=xs.getD lv 0:=rfl
 simp only [SE.val,e2,hl]
 rw [qcz hn]
theorem qd5 {k:Nat} (hk:k≤1000000000000000000):(SE.lit .i64 (k:Int)).val (qaa F xs)=(k:Int):=by
 simp only [SE.val,IntKind.wrap_i64];omega
theorem qdx {a b:SE} {x y:Nat} (ha:a.val (qaa F xs)=(x:Int)) (hb:b.val (qaa F xs)=(y:Int)):((SE.cmp .lss a b).val (qaa F xs) !=0)=decide (x<y):=by
 simp only [SE.val,qas,qa8,ha,hb]
 apply decide_eq_decide.2;omega
theorem qun {a b:SE} {x y:Nat} (ha:a.val (qaa F xs)=(x:Int)) (hb:b.val (qaa F xs)=(y:Int)):((SE.cmp .gtr a b).val (qaa F xs) !=0)=decide (y<x):=by
 simp only [SE.val,qas,qa8,ha,hb]
 apply decide_eq_decide.2;omega
theorem qf7 {a b:SE} {x y:Nat} (ha:a.val (qaa F xs)=(x:Int)) (hb:b.val (qaa F xs)=(y:Int)):((SE.cmp .geq a b).val (qaa F xs) !=0)=decide (y≤x):=by
 simp only [SE.val,qas,qa8,ha,hb]
 apply decide_eq_decide.2;omega
theorem qm9 {a b:SE} {x y:Nat} (ha:a.val (qaa F xs)=(x:Int)) (hb:b.val (qaa F xs)=(y:Int)):((SE.cmp .leq a b).val (qaa F xs) !=0)=decide (x≤y):=by
 simp only [SE.val,qas,qa8,ha,hb]
 apply decide_eq_decide.2;omega
theorem qib {a b:SE} {x y:Nat} (h:((SE.cmp .lss a b).val (qaa F xs) !=0)=true) (ha:a.val (qaa F xs)=(x:Int)) (hb:b.val (qaa F xs)=(y:Int)):x<y:=by
 rw [qdx ha hb] at h;exact of_decide_eq_true h
theorem zoq {a b:SE} {x y:Nat} (h:((SE.cmp .gtr a b).val (qaa F xs) !=0)=true) (ha:a.val (qaa F xs)=(x:Int)) (hb:b.val (qaa F xs)=(y:Int)):y<x:=by
 rw [qun ha hb] at h;exact of_decide_eq_true h
noncomputable def byt (l:Int) (i:Nat):Int:=IntKind.u8.wrap (((dec l).getD i []).getD 0 0)
theorem qh4 (l:Int) (i:Nat):0≤byt l i∧byt l i<256:=by
 unfold byt;rw [IntKind.wrap_u8];omega
theorem qg_ {lv:Nat} {a:SE} {i:Nat} (ha:a.val (qaa F xs)=(i:Int)):(SE.el (some .u8) (.lvar lv) a 0).val (qaa F xs)=byt (xs.getD lv 0) i:=by
 have e2:(qaa F xs).iv lv=xs.getD lv 0:=rfl
 simp only [SE.val,ha,e2,wrK,byt,Int.toNat_natCast]
theorem qj9 {lv:Nat} {a9s:SE}:(SE.lcat (.lvar lv) (.lone a9s)).val (qaa F xs)=enc (dec (xs.getD lv 0)++[a9s.vals (qaa F xs)]):=by
 have e2:(qaa F xs).iv lv=xs.getD lv 0:=rfl
 simp only [SE.val,e2,qan]
theorem qmr {lv:Nat}:(SE.len (.lvar lv)).val (qaa F xs)=((sat (dec (xs.getD lv 0)).length:Nat):Int):=by
 have e2:(qaa F xs).iv lv=xs.getD lv 0:=rfl
 simp only [SE.val,e2]
theorem qmz {x:SE} {a:SE} {i off:Nat} {a9s:SE} (ha:a.val (qaa F xs)=(i:Int)):(SE.lset x a off a9s).val (qaa F xs)=enc (qkn (dec (x.val (qaa F xs))) i off (a9s.vals (qaa F xs))):=by
 simp only [SE.val,ha,Int.toNat_natCast]
theorem lvar_at {lv:Nat}:(SE.lvar lv).val (qaa F xs)=xs.getD lv 0:=by
 simp only [SE.val];rfl
end
theorem qka {l:List (List Int)} {i:Nat} (h:i<l.length) (off:Nat) (a9s:List Int):(qkn l i off a9s).getD i []=qb1 (l.getD i []) off a9s:=by
 unfold qkn
 rw [List.getD_eq_getElem?_getD,List.getElem?_set_self h];rfl
theorem zaz {l:List (List Int)} {i j:Nat} (h:j≠i) (off:Nat) (a9s:List Int):(qkn l i off a9s).getD j []=l.getD j []:=by
 unfold qkn
 rw [List.getD_eq_getElem?_getD,List.getElem?_set_ne (Ne.symm h),←List.getD_eq_getElem?_getD]
theorem zmx {l:List (List Int)} {i:Nat} (h:i<l.length) (o1 o2:Nat) (a1 a2:List Int):qkn (qkn l i o1 a1) i o2 a2=l.set i (qb1 (qb1 (l.getD i []) o1 a1) o2 a2):=by
 have e:=qka h o1 a1
 unfold qkn at e ⊢
 rw [e,List.set_set]
theorem zhu {f:List Int→List Int} (L:List (List Int)) (t:Nat) (h:t<L.length):((L.take t).map f++L.drop t).set t (f (((L.take t).map f++L.drop t).getD t []))=(L.take (t+1)).map f++L.drop (t+1):=by
 have hl:((L.take t).map f).length=t:=by simp;omega
 have hd:L.drop t=L[t]::L.drop (t+1):=List.drop_eq_getElem_cons h
 have hg:((L.take t).map f++L.drop t).getD t []=L[t]:=by
  rw [List.getD_eq_getElem?_getD,List.getElem?_append_right (by omega),hl,Nat.sub_self,hd];rfl
 have e:(L.take (t+1)).map f=(L.take t).map f++[f L[t]]:=by rw [List.take_add_one,List.getElem?_eq_getElem h,List.map_append];rfl
 rw [hg,hd,List.set_append_right _ _ (by omega),hl,Nat.sub_self,List.set_cons_zero,e,List.append_assoc];rfl
theorem q66 {f:List Int→List Int} (L:List (List Int)) (t:Nat) (h:t≤L.length):((L.take t).map f++L.drop t).length=L.length:=by simp;omega
abbrev Ar:SE:=.lvar 1
def boS:List (Nat×V):=[(0,CB),(5,(.one (.sli 1 Ar))),(1,(.one (.int .i64 5))),(6,C1),(4,(.any 4))]
abbrev Jv:List C:=[(.big Ar Bm)]
def boM:MB:=[(1,Jv,54,true)]
abbrev Jk:MB:=[(0,[(.big Ab [some .u8])],5,false)]
def boF:MB:=Jk
abbrev D7:SE:=.bin .add .i64 Ai CU
abbrev G0:SE:=.cmp .lss D7 AD
abbrev BN:SE:=.len Ar
abbrev G1:SE:=.cmp .geq CF Aa
abbrev G2:SE:=.cmp .lss CF AD
abbrev D8:SE:=.bin .add .i64 Ai Cu
abbrev G3:SE:=.cmp .geq D8 Aa
abbrev G4:SE:=.cmp .lss D8 AD
abbrev G5:SE:=.cmp .geq D7 Aa
abbrev AC:SE:=.lit .i64 1000000
abbrev G6:SE:=.cmp .leq BN AC
abbrev G7:SE:=.el (some .u8) Ab Ai 0
abbrev G8:SE:=.el (some .u8) Ab CF 0
abbrev G9:SE:=.el (some .u8) Ab D8 0
abbrev Ha:SE:=.el (some .u8) Ab D7 0
abbrev AL:SE:=.cons G7 (.cons G8 (.cons G9 (.cons Ha .nil)))
abbrev Hb:SE:=.bin .add .i64 Ai Bs
def boT:RT:=(.ask G0 (.ask (.cmp .lss BN (.lit .i64 5)) (.know CE true (.know CD true (.know G1 true (.know G2 true (.know G3 true (.know G4 true (.know G5 true (.know G6 true (.next [Ab,(.lcat Ar (.lone (.cons (.app 94 0 (some .i64) AL) (.cons (.app 94 1 (some .u64) AL) (.cons (.app 94 2 (some .i64) AL) (.cons (.app 94 3 (some .u64) AL) (.cons (.app 94 4 (some .i64) AL) (.cons (.app 94 5 (some .u64) AL) (.cons (.app 94 6 (some .i64) AL) (.cons (.app 94 7 (some .u64) AL) (.cons (.app 94 8 (some .i64) AL) (.cons (.app 94 9 (some .u64) AL) (.cons (.app 94 10 (some .i64) AL) (.cons (.app 94 11 (some .u64) AL) (.cons (.app 94 12 (some .i64) AL) (.cons (.app 94 13 (some .u64) AL) (.cons (.app 94 14 (some .i64) AL) (.cons (.app 94 15 (some .u64) AL) (.cons (.app 94 16 (some .i64) AL) (.cons (.app 94 17 (some .u64) AL) (.cons (.app 94 18 (some .i64) AL) (.cons (.app 94 19 (some .i64) AL) .nil)))))))))))))))))))))),Hb]))))))))) (.out 0 [Ar])) (.out 0 [Ar]))
abbrev Hc:List (Nat×V):=[(5,(.one (.sli 1 Ab))),(4,(.any 4))]
def boL:LEnt:={f:=69,id:=3,num:=20051,nx:=2,S:=[(0,CB),(1,(.one (.int .i64 5))),(5,(.one .nils)),(6,Bi),(4,(.any 4))],M:=[],F:=boF,kk:=[0],outs:=[{x:=(.exit 0),S:=Hc,M:=[(1,Jt,54,true)],cv:=[]}],lv:=[(0,0)],sm:=[],pre:=[]}
def boI:List SE:=[Ab,.lnil,Aa]
def boC:List (Nat×Nat×Option (Option IntKind)):=[(0,0,none)]
def bon:Nat:=44
def kBd:Ks:=[some .i64,some .u64,some .i64,some .u64,some .i64,some .u64,some .i64,some .u64,some .i64,some .u64,some .i64,some .u64,some .i64,some .u64,some .i64,some .u64,some .i64,some .u64,some .i64,some .i64]
def qv6 (F:Nat→List Int→List Int) (b0 b1 b2 b3:Int):List Int:=kBd.zipIdx.map fun p=>wrK p.1 ((F 94 [b0,b1,b2,b3]).getD p.2 0)
def zzp (F:Nat→List Int→List Int) (el:List Int):Prop:=∃b0 b1 b2 b3:Int,(0≤b0∧b0<256)∧(0≤b1∧b1<256)∧(0≤b2∧b2<256)∧(0≤b3∧b3<256)∧el=qv6 F b0 b1 b2 b3
def boJ (F:Nat→List Int→List Int) (l0:Int) (t:Nat) (xs:List Int):Prop:=xs.getD 0 0=l0∧(dec l0).length≤maxLen∧xs.getD 2 0=((4 * t:Nat):Int)∧(dec (xs.getD 1 0)).length=t∧∀el∈dec (xs.getD 1 0),zzp F el
noncomputable def boU (xs:List Int):Nat:=6
noncomputable def boG:(Nat→List Int→List Int)→List Int→List Int:=qfv boI (fun _=>boT) boU
theorem z6t (F:Nat→List Int→List Int) (xs:List Int) (hp:Pre boL F xs):boJ F (xs.getD 0 0) 0 (boI.map (SE.val (qaa F xs))):=by
 have h1:(dec (xs.getD 0 0)).length≤maxLen:=hp.lv (0,0) (by decide)
 have e:(boI.map (SE.val (qaa F xs))).getD 1 0=enc []:=by
  show (SE.lnil).val (qaa F xs)=_
  simp only [SE.val]
 refine ⟨?_,h1,?_,?_,?_⟩
 ·show (SE.lvar 0).val (qaa F xs)=_
  simp only [SE.val];rfl
 ·show (SE.lit .i64 0).val (qaa F xs)=_
  simp only [SE.val];rfl
 ·rw [e,qan];rfl
 ·rw [e,qan];intro el h;cases h
theorem ya4 (F:Nat→List Int→List Int) (l0:Int) (t:Nat) (xs:List Int) (ht:t≤5) (h:boJ F l0 t xs):boT.ok (qaa F xs):=by
 obtain ⟨h0,hm,h2,h3,h4⟩:=h
 have hm':(dec (xs.getD 0 0)).length≤maxLen:=by rw [h0];exact hm
 have i0:=qez (F:=F) h2 (by omega)
 have i1:=qcu (F:=F) (k:=1) h2 (by omega)
 have i2:=qcu (F:=F) (k:=2) h2 (by omega)
 have i3:=qcu (F:=F) (k:=3) h2 (by omega)
 have l:=qby (F:=F) rfl hm'
 have l1:=qby (F:=F) h3 (by unfold maxLen;omega)
 have z:=qd5 (F:=F) (xs:=xs) (k:=0) (by omega)
 refine qh5 fun g1=>qh5 fun g2=> ?_
 have k1:=qib g1 i3 l
 refine ⟨(qf7 i0 z).trans (decide_eq_true (by omega)),(qdx i0 l).trans (decide_eq_true (by omega)),(qf7 i1 z).trans (decide_eq_true (by omega)),(qdx i1 l).trans (decide_eq_true (by omega)),(qf7 i2 z).trans (decide_eq_true (by omega)),(qdx i2 l).trans (decide_eq_true (by omega)),(qf7 i3 z).trans (decide_eq_true (by omega)),(qm9 l1 (qd5 (k:=1000000) (by omega))).trans (decide_eq_true (by omega)),trivial⟩
theorem yeu (F:Nat→List Int→List Int) (l0:Int):∀(t:Nat) (xs ys:List Int),t≤5→boJ F l0 t xs→boT.get (qaa F xs)=(none,ys)→t<5∧boJ F l0 (t+1) ys:=fun t xs ys ht h hy=>by
 obtain ⟨h0,hm,h2,h3,h4⟩:=h
 have hm':(dec (xs.getD 0 0)).length≤maxLen:=by rw [h0];exact hm
 have i0:=qez (F:=F) h2 (by omega)
 have i1:=qcu (F:=F) (k:=1) h2 (by omega)
 have i2:=qcu (F:=F) (k:=2) h2 (by omega)
 have i3:=qcu (F:=F) (k:=3) h2 (by omega)
 have i4:=qcu (F:=F) (k:=4) h2 (by omega)
 have l1:=qby (F:=F) h3 (by unfold maxLen;omega)
 obtain ⟨g1,hy⟩:=qe2 hy
 obtain ⟨g2,hy⟩:=qe2 hy
 have hy:=qhg hy
 have k2:=qib g2 l1 (qd5 (k:=5) (by omega))
 subst hy
 refine ⟨k2,?_,hm,i4,?_,?_⟩
 ·show (SE.lvar 0).val (qaa F xs)=_
  simp only [SE.val];exact h0
 ·show (dec ((SE.lcat (.lvar 1) (.lone _)).val (qaa F xs))).length=_
  rw [qj9,qan,List.length_append,h3];rfl
 ·show ∀el∈dec ((SE.lcat (.lvar 1) (.lone _)).val (qaa F xs)),_
  rw [qj9,qan]
  intro el he
  rcases List.mem_append.1 he with he |he
  ·exact h4 el he
  ·have he:=List.mem_singleton.1 he
   refine ⟨byt (xs.getD 0 0) (4 * t),byt (xs.getD 0 0) (4 * t+1),byt (xs.getD 0 0) (4 * t+2),byt (xs.getD 0 0) (4 * t+3),qh4 _ _,qh4 _ _,qh4 _ _,qh4 _ _,?_⟩
   rw [he]
   have e0:=qg_ (F:=F) (lv:=0) i0
   have e1:=qg_ (F:=F) (lv:=0) i1
   have e2:=qg_ (F:=F) (lv:=0) i2
   have e3:=qg_ (F:=F) (lv:=0) i3
   have ap:∀j k,(SE.app 94 j k (.cons (.el (some .u8) (.lvar 0) (.ivar .i64 2) 0) (.cons (.el (some .u8) (.lvar 0) (.bin .add .i64 (.ivar .i64 2) (.lit .i64 1)) 0) (.cons (.el (some .u8) (.lvar 0) (.bin .add .i64 (.ivar .i64 2) (.lit .i64 2)) 0) (.cons (.el (some .u8) (.lvar 0) (.bin .add .i64 (.ivar .i64 2) (.lit .i64 3)) 0) .nil))))).val (qaa F xs)=wrK k ((F 94 [byt (xs.getD 0 0) (4 * t),byt (xs.getD 0 0) (4 * t+1),byt (xs.getD 0 0) (4 * t+2),byt (xs.getD 0 0) (4 * t+3)]).getD j 0):=fun j k=>by
    have v:∀a b c d:SE,(SE.app 94 j k (.cons a (.cons b (.cons c (.cons d .nil))))).val (qaa F xs)=wrK k ((F 94 [a.val (qaa F xs),b.val (qaa F xs),c.val (qaa F xs),d.val (qaa F xs)]).getD j 0):=fun a b c d=>by simp only [SE.val,SE.vals];rfl
    rw [v,e0]
    have e1':=e1;have e2':=e2;have e3':=e3
    rw [show (SE.lit .i64 1)=SE.lit .i64 ((1:Nat):Int) from rfl,show (SE.lit .i64 2)=SE.lit .i64 ((2:Nat):Int) from rfl,show (SE.lit .i64 3)=SE.lit .i64 ((3:Nat):Int) from rfl,e1',e2',e3']
   simp only [SE.vals,ap]
   rfl
theorem yfj (F:Nat→List Int→List Int) (xs:List Int) (hp:Pre boL F xs):qdn (fun _=>boT) F 0 (boU xs) (boI.map (SE.val (qaa F xs))):=
 qi5 (fun t ys=>boJ F (xs.getD 0 0) t ys) 5 (fun t ys ht hj=>ya4 F _ t ys ht hj) (yeu F _) 6 0 0 _ rfl (by omega) (z6t F xs hp)
theorem ygl (F:Nat→List Int→List Int) (xs:List Int) (hp:Pre boL F xs):∃ys,boG F xs=0::ys∧(dec (ys.getD 0 0)).length≤5∧∀el∈dec (ys.getD 0 0),zzp F el:=by
 obtain ⟨e,ys,h1,h2⟩:=qfm (F:=F) (T:=boT) (fun t ys=>boJ F (xs.getD 0 0) t ys) 5 (fun e ys=>e=0∧(dec (ys.getD 0 0)).length≤5∧∀el∈dec (ys.getD 0 0),zzp F el) (yeu F _) (fun t zs e ys ht hj hy=>by
  obtain ⟨h0,hm,h2,h3,h4⟩:=hj
  have fin:ys=[SE.lvar 1].map (SE.val (qaa F zs))→(dec (ys.getD 0 0)).length≤5∧∀el∈dec (ys.getD 0 0),zzp F el:=by
   rintro rfl
   have:([SE.lvar 1].map (SE.val (qaa F zs))).getD 0 0=zs.getD 1 0:=by
    show (SE.lvar 1).val (qaa F zs)=_
    simp only [SE.val];rfl
   rw [this,h3];exact ⟨ht,h4⟩
  rcases qgd hy with ⟨_,rfl,hz⟩ |⟨_,hy⟩
  ·exact ⟨rfl,fin hz⟩
  ·rcases qgd hy with ⟨_,rfl,hz⟩ |⟨_,hy⟩
   ·exact ⟨rfl,fin hz⟩
   ·exact (qiy hy).elim) 6 0 0 (boI.map (SE.val (qaa F xs))) rfl (by omega) (z6t F xs hp)
 obtain ⟨rfl,h2⟩:=h2
 refine ⟨ys,?_,h2⟩
 unfold boG qfv boU
 rw [h1];rfl
theorem ygo:qak (bW.loops zlc) qfo 300 boL.f bon (qa3 Tryz.prog boL.f boL.id) boS boM boL.F boL.nx boS boL.outs boL.kk boT []=true:=by kernel_rfl
theorem bo_ok:LCT Tryz.prog boL (FT qfo) (boG (FT qfo)):=
 qc8 (b:=bW.loops zlc) (Tb:=qfo) (y:=boL) (M:=boM) (T:=fun _=>boT) (S:=fun _=>boS) (init:=boI) (qag qbi _) (qbj zqm) zod (d:=300) (n:=bon) (by kernel_rfl) (by kernel_rfl) (by kernel_rfl) (by kernel_rfl) (fun _ _ _=>ygo) (fun xs hp=>yfj _ xs hp)
theorem yez (F:Nat→List Int→List Int):Cst boL (boG F):=qdh boC (by kernel_rfl) (fun _ _ _=>by kernel_rfl)
noncomputable def qft:List Ent:=⟨20051,[],.tup [],boG,true⟩::qfo
def qra:List LEnt:=boL::zlc
theorem q3s:qcd Tryz.prog qft:=qbw zod rfl (by kernel_rfl)
theorem qzk:LBs Tryz.prog qra qft:=qbl (y:=boL) zqm (by kernel_rfl) (by kernel_rfl) (by kernel_rfl) bo_ok (yez _)
abbrev D9:V:=.one (.ptr 0 0)
def waS:List (Nat×V):=([(7,D9),(8,(.one (.opq BL))),(0,(.any 0)),(1,(.any 1)),(2,(.any 2)),(6,(.any 6))]++ay 9 29)
abbrev BB:C:=.int .u64 1152921504606846976
abbrev B6:C:=.opq Bk
abbrev Bj:C:=.opq Aq
abbrev Bu:SE:=.lvar 6
abbrev AE:SE:=.lvar 7
abbrev B7:C:=.sli 2 AE
abbrev JG:Nat×List C×Nat×Bool:=(1,[(.big Bu Bm)],54,true)
abbrev JH:Nat×List C×Nat×Bool:=(2,[(.big AE BM)],3,true)
def waM:MB:=[(0,([Ad,Ad,BB,BD,Bz,Ad,Br,Ad,Bc,Ad,Bt,B6,Bj,(.sli 1 Bu),.nils,.nils,B7]++zz 3++[.nils]),35,false),JG,JH]
def waF:MB:=[]
abbrev Bv:SE:=.len AE
abbrev Hf:SE:=.cmp .leq Bv AC
abbrev Hg:SE:=.lcat AE (.lone (.cons Cx .nil))
def waT:RT:=(.ask (.cmp .lss BL (.len Bu)) (.know Hf true (.next [Ah,At,Am,Av,Bk,Aq,Bu,Hg,(.bin .add .i64 BL Aw)])) (.out 0 [Ah,At,Am,Av,Bk,Aq,Bu,AE]))
def waC:List (Nat×Nat×Option (Option IntKind)):=[(0,0,(some (some .i64))),(1,1,(some (some .u64))),(2,2,(some (some .u64))),(3,3,(some (some .u64))),(4,4,(some (some .i64))),(5,5,(some (some .i64))),(6,6,none)]
def waL:LEnt:={f:=34,id:=4,num:=20052,nx:=3,S:=([(7,D9),(8,Bi),(0,(.any 0)),(1,(.any 1)),(2,(.any 2)),(6,(.any 6))]++ay 9 29),M:=[(0,([Ad,Ad,BB,BD,Bz,Ad,Br,Ad,Bc,Ad,Bt,B6,Bj,(.sli 1 Bu),.nils,.nils,.nils]++zz 3++[.nils]),35,false),JG],F:=waF,kk:=[0,1],outs:=[{x:=(.exit 0),S:=([(7,D9),(0,(.any 0)),(1,(.any 1)),(2,(.any 2)),(6,(.any 6))]++ay 9 29),M:=[(0,([Ad,Ad,BB,BD,Bz,Ad,Br,Ad,Bc,Ad,Bt,B6,Bj,(.sli 1 Bu),.nils,.nils,B7]++zz 3++[.nils]),35,false),JG,JH],cv:=waC}],lv:=[(1,6)],sm:=[6],pre:=[]}
def waI:List SE:=[Ah,At,Am,Av,Bk,Aq,Bu,.lnil,Aa]
def wan:Nat:=51
def waJ (l6:Int) (t:Nat) (xs:List Int):Prop:=xs.getD 6 0=l6∧(dec l6).length≤1000000∧xs.getD 8 0=(t:Int)∧dec (xs.getD 7 0)=List.replicate t [-1]
noncomputable def waU (xs:List Int):Nat:=(dec (xs.getD 6 0)).length+1
noncomputable def waG:(Nat→List Int→List Int)→List Int→List Int:=qfv waI (fun _=>waT) waU
theorem ya9 (F:Nat→List Int→List Int) (xs:List Int) (hp:Pre waL F xs):waJ (xs.getD 6 0) 0 (waI.map (SE.val (qaa F xs))):=by
 have h1:(dec (xs.getD 6 0)).length≤1000000:=hp.sm 6 (by decide)
 have e:(waI.map (SE.val (qaa F xs))).getD 7 0=enc []:=by
  show (SE.lnil).val (qaa F xs)=_
  simp only [SE.val]
 refine ⟨?_,h1,?_,?_⟩
 ·show (SE.lvar 6).val (qaa F xs)=_
  simp only [SE.val];rfl
 ·show (SE.lit .i64 0).val (qaa F xs)=_
  simp only [SE.val];rfl
 ·rw [e,qan];rfl
theorem z6r (F:Nat→List Int→List Int) (l6:Int) (t:Nat) (xs:List Int) (ht:t≤(dec l6).length) (h:waJ l6 t xs):waT.ok (qaa F xs):=by
 obtain ⟨h0,hm,h2,h3⟩:=h
 have l1:=qby (F:=F) (lv:=7) (n:=t) (xs:=xs) (by rw [h3,List.length_replicate]) (by unfold maxLen;omega)
 refine qh5 fun g1=> ?_
 exact ⟨(qm9 l1 (qd5 (k:=1000000) (by omega))).trans (decide_eq_true (by omega)),trivial⟩
theorem z8u (F:Nat→List Int→List Int) (l6:Int):∀(t:Nat) (xs ys:List Int),t≤(dec l6).length→waJ l6 t xs→waT.get (qaa F xs)=(none,ys)→t<(dec l6).length∧waJ l6 (t+1) ys:=fun t xs ys ht h hy=>by
 obtain ⟨h0,hm,h2,h3⟩:=h
 have i0:=qez (F:=F) h2 (by omega)
 have i1:=qcu (F:=F) (k:=1) h2 (by omega)
 have l:=qby (F:=F) (lv:=6) (n:=(dec l6).length) (xs:=xs) (by rw [h0]) (by unfold maxLen;omega)
 obtain ⟨g1,hy⟩:=qe2 hy
 have hy:=qhg hy
 have k1:=qib g1 i0 l
 subst hy
 refine ⟨k1,?_,hm,i1,?_⟩
 ·show (SE.lvar 6).val (qaa F xs)=_
  simp only [SE.val];exact h0
 ·show dec ((SE.lcat (.lvar 7) (.lone _)).val (qaa F xs))=_
  rw [qj9,qan,h3,List.replicate_succ']
  simp only [SE.vals,SE.val];rfl
theorem yaf (F:Nat→List Int→List Int) (xs:List Int) (hp:Pre waL F xs):qdn (fun _=>waT) F 0 (waU xs) (waI.map (SE.val (qaa F xs))):=
 qi5 (fun t ys=>waJ (xs.getD 6 0) t ys) (dec (xs.getD 6 0)).length (fun t ys ht hj=>z6r F _ t ys ht hj) (z8u F _) _ 0 0 _ (Nat.zero_add _) (Nat.succ_pos _) (ya9 F xs hp)
theorem zo6 (F:Nat→List Int→List Int) (xs:List Int) (hp:Pre waL F xs):∃ys,waG F xs=0::ys∧dec (ys.getD 7 0)=List.replicate (dec (xs.getD 6 0)).length [-1]:=by
 obtain ⟨e,ys,h1,h2⟩:=qfm (F:=F) (T:=waT) (fun t ys=>waJ (xs.getD 6 0) t ys) (dec (xs.getD 6 0)).length (fun e ys=>e=0∧dec (ys.getD 7 0)=List.replicate (dec (xs.getD 6 0)).length [-1]) (z8u F _) (fun t zs e ys ht hj hy=>by
  obtain ⟨h0,hm,h2,h3⟩:=hj
  have i0:=qez (F:=F) h2 (by omega)
  have l:=qby (F:=F) (lv:=6) (n:=(dec (xs.getD 6 0)).length) (xs:=zs) (by rw [h0]) (by unfold maxLen;omega)
  rcases qgd hy with ⟨g,rfl,hz⟩ |⟨_,hy⟩
  ·rw [qdx i0 l] at g
   have g:=of_decide_eq_false g
   subst hz
   refine ⟨rfl,?_⟩
   show dec ((SE.lvar 7).val (qaa F zs))=_
   have:(SE.lvar 7).val (qaa F zs)=zs.getD 7 0:=by simp only [SE.val];rfl
   rw [this,h3,show t=(dec (xs.getD 6 0)).length by omega]
  ·exact (qiy hy).elim) _ 0 0 (waI.map (SE.val (qaa F xs))) (Nat.zero_add _) (Nat.succ_pos _) (ya9 F xs hp)
 obtain ⟨rfl,h2⟩:=h2
 refine ⟨ys,?_,h2⟩
 unfold waG qfv waU
 rw [h1];rfl
theorem ydx:qak (bW.loops qra) qft 300 waL.f wan (qa3 Tryz.prog waL.f waL.id) waS waM waL.F waL.nx waS waL.outs waL.kk waT []=true:=by kernel_rfl
theorem wa_ok:LCT Tryz.prog waL (FT qft) (waG (FT qft)):=
 qc8 (b:=bW.loops qra) (Tb:=qft) (y:=waL) (M:=waM) (T:=fun _=>waT) (S:=fun _=>waS) (init:=waI) (qag qbi _) (qbj qzk) q3s (d:=300) (n:=wan) (by kernel_rfl) (by kernel_rfl) (by kernel_rfl) (by kernel_rfl) (fun _ _ _=>ydx) (fun xs hp=>yaf _ xs hp)
theorem ygk (F:Nat→List Int→List Int):Cst waL (waG F):=qdh waC (by kernel_rfl) (fun _ _ _=>by kernel_rfl)
noncomputable def qxx:List Ent:=⟨20052,[],.tup [],waG,true⟩::qft
def zbc:List LEnt:=waL::qra
theorem zkb:qcd Tryz.prog qxx:=qbw q3s rfl (by kernel_rfl)
theorem zne:LBs Tryz.prog zbc qxx:=qbl (y:=waL) qzk (by kernel_rfl) (by kernel_rfl) (by kernel_rfl) wa_ok (ygk _)
noncomputable def qju:List Ent:=qxx
def zno:List LEnt:=zbc
theorem zqq:qcd Tryz.prog qju:=zkb
theorem zo1:LBs Tryz.prog zno qju:=zne
end Go.Proofs.YtilkebpcjklmfaaGreat.Own
