/- The document's numbers: what the code computes. The document's sums: what the code computes. Contracts that were proved by hand, as a table. A quotient and the rest: what the code computes. Contracts that were proved by hand, as a table: the quotient of wide numbers. A walk by reckoning: arguments that hold numbers and lists of rows of numbers. A walk by reckoning: closed values that are known beforehand. A quotient of numbers with a point: what the code computes. -/
import Derived.Test.YtilkebpcjklmfaaGreatFixX
import Derived.ProofKit
import Derived.OpenShut
import Derived.ChangeOld
set_option linter.unusedVariables false
set_option linter.unusedSimpArgs false
namespace Go.Proofs.YtilkebpcjklmfaaGreat.Own
open Go Go.RowKit Go.Proofs Go.Proofs.YtilkebpcjklmfaaGreat.Plain
set_option maxRecDepth 100000
set_option maxHeartbeats 40000000
theorem quc (a b:Two):Pure Tryz.prog 113 #[a.v,b.v] (.bool (decide (a.n<b.n))):=by
 obtain ⟨b1,h1⟩:∃x,decide (a.hi<b.hi)=x:=⟨_,rfl⟩
 obtain ⟨b2,h2⟩:∃x,decide (a.hi=b.hi)=x:=⟨_,rfl⟩
 obtain ⟨b3,h3⟩:∃x,decide (a.lo<b.lo)=x:=⟨_,rfl⟩
 have e1:qbx .lss .u64 a.hi b.hi=some (.bool b1):=by simp only [qbx,h1]
 have e2:qbx .eql .u64 a.hi b.hi=some (.bool b2):=by simp only [qbx,←h2];rfl
 have e3:qbx .lss .u64 a.lo b.lo=some (.bool b3):=by simp only [qbx,h3]
 have key:decide (a.n<b.n)=(b1||(b2&&b3)):=by
  have ha:=a.n_int;have hb:=b.n_int;have:=a.b;have:=b.b
  rw [←h1,←h2,←h3,←Bool.decide_and,←Bool.decide_or]
  apply decide_eq_decide.2
  omega
 rw [key]
 clear key h1 h2 h3
 refine qel Tryz.func113 rfl Tryz.ntmps113 rfl rfl (fun w0 Q hQ=> ?_)
 repeat' (
  first
   |refine qb4 (fun N hN=> ?_)
   |refine qc4 ?_
   |refine qb2 ?_
   |refine qc6 ?_
   |refine qee ?_
   |refine qc5 ?_
   |refine qeg (show X _ _ _ _ _ from ?_)
   |(refine qdd hN ?_;clear hN N)
   |(refine qa1 ?_;clear hN N)
   |(refine qam ?_;clear hN N)
   |refine qb3 ?_
   |refine qap ?_
   |refine qar ?_
   |refine qaj (by eq_refl) ?_
   |refine qda (h:= ?_)
   |refine qax (h:= ?_)
   |refine qa6 (h:= ?_)
   |refine qa4 (h:= ?_)
   |refine qes (h:= ?_)
   |refine qc7 (h:= ?_)
   |refine qbm (h:= ?_)
   |refine qbb (h:= ?_)
   |(refine qey (h:= ?_);intro g)
   |(refine qb8 (h:= ?_);intro g)
   |refine qb9 (h:= ?_)
   |refine qaw (h:= ?_)
   |refine qb7 (h:= ?_)
   |refine qc9 (h:= ?_)
   |refine qe5 (h:= ?_)
   |refine qe6 (h:= ?_)
   |refine qex (h:= ?_)
   |refine qew (h:= ?_)
   |refine qet (h:= ?_)
   |refine qbo (h:= ?_)
   |refine qbp (h:= ?_)
   |refine qeu (h:= ?_)
   |refine qep (h:= ?_)
   |refine qau (h:= ?_)
   |refine qe1 (h:= ?_)
   |refine qe3 (h:= ?_)
   |(refine qal (h:= ?_);intro g)
   |refine qah (h:= ?_)
   |refine qc_ (h:= ?_)
   |refine qb_ (h:= ?_)
   |(refine qev (by eq_refl) (by eq_refl) (qaz (by eq_refl)) (fun hask=> ?_) (fun hask=> ?_))
   |(refine qb5 (by eq_refl) (fun hif=> ?_) (fun hif=> ?_))
  )
 all_goals refine hQ _ _ (ret1 rfl (by (first |exact qfj |exact qfp)) ?_)
 all_goals (clear hQ e1 e2 e3;simp_all)
theorem qk8 (a b:Two):Pure Tryz.prog 114 #[a.v,b.v] (.agg #[.int .u64 (Two.of (a.n+340282366920938463463374607431768211456 - b.n)).hi,.int .u64 (Two.of (a.n+340282366920938463463374607431768211456 - b.n)).lo,.bool (decide (a.n<b.n))]):=by
 have hl:=quc a b
 obtain ⟨b3,h3⟩:∃x,decide (a.lo<b.lo)=x:=⟨_,rfl⟩
 have e3:qbx .lss .u64 a.lo b.lo=some (.bool b3):=by simp only [qbx,h3]
 obtain ⟨lo,hlo⟩:∃x,IntKind.u64.wrap (a.lo - b.lo)=x:=⟨_,rfl⟩
 obtain ⟨hi,hhi⟩:∃x,IntKind.u64.wrap (a.hi - b.hi)=x:=⟨_,rfl⟩
 obtain ⟨h0,hh0⟩:∃x,IntKind.u64.wrap (hi - 0)=x:=⟨_,rfl⟩
 obtain ⟨h1,hh1⟩:∃x,IntKind.u64.wrap (hi - 1)=x:=⟨_,rfl⟩
 have e4:qbx .sub .u64 a.lo b.lo=some (.int .u64 lo):=by simp only [qbx,hlo]
 have e5:qbx .sub .u64 a.hi b.hi=some (.int .u64 hi):=by simp only [qbx,hhi]
 have e6:qbx .sub .u64 hi 0=some (.int .u64 h0):=by simp only [qbx,hh0]
 have e7:qbx .sub .u64 hi 1=some (.int .u64 h1):=by simp only [qbx,hh1]
 have key:∀x,(if b3=true then x=h1 else x=h0)→(Two.of (a.n+340282366920938463463374607431768211456 - b.n)).hi=x∧(Two.of (a.n+340282366920938463463374607431768211456 - b.n)).lo=lo:=by
  intro x hx
  have ha:=a.n_int;have hb:=b.n_int;have:=a.b;have:=b.b;have:=a.lt;have:=b.lt
  rw [Two.of_hi,Two.of_lo]
  rw [IntKind.wrap_u64] at hlo hhi hh0 hh1
  by_cases q:a.lo<b.lo
  ·rw [if_pos (by rw [←h3];exact decide_eq_true q)] at hx;constructor<;>omega
  ·rw [if_neg (by rw [←h3];simpa using q)] at hx;constructor<;>omega
 generalize Two.of (a.n+340282366920938463463374607431768211456 - b.n)=T at *
 clear hlo hhi hh0 hh1 h3
 refine qel Tryz.func114 rfl Tryz.ntmps114 rfl rfl (fun w0 Q hQ=> ?_)
 repeat' (
  first
   |refine qb4 (fun N hN=> ?_)
   |refine qc4 ?_
   |refine qcg (id:=4) [(998,.eff)] (by kernel_rfl) (by kernel_rfl) ?_
   |refine qb2 ?_
   |refine qc6 ?_
   |refine qee ?_
   |refine qc5 ?_
   |refine qeg (show X _ _ _ _ _ from ?_)
   |(refine qdd hN ?_;clear hN N)
   |(refine qa1 ?_;clear hN N)
   |(refine qam ?_;clear hN N)
   |refine qb3 ?_
   |refine qap ?_
   |refine qar ?_
   |refine qaj (by eq_refl) ?_
   |refine qda (h:= ?_)
   |refine qax (h:= ?_)
   |refine qa6 (h:= ?_)
   |refine qa4 (h:= ?_)
   |refine qes (h:= ?_)
   |refine qc7 (h:= ?_)
   |refine qbm (h:= ?_)
   |refine qbb (h:= ?_)
   |refine qa0 (hp:=hl) (h:= ?_)
   |(refine qey (h:= ?_);intro g)
   |(refine qb8 (h:= ?_);intro g)
   |refine qb9 (h:= ?_)
   |refine qaw (h:= ?_)
   |refine qb7 (h:= ?_)
   |refine qc9 (h:= ?_)
   |refine qe5 (h:= ?_)
   |refine qe6 (h:= ?_)
   |refine qex (h:= ?_)
   |refine qew (h:= ?_)
   |refine qet (h:= ?_)
   |refine qbo (h:= ?_)
   |refine qbp (h:= ?_)
   |refine qeu (h:= ?_)
   |refine qep (h:= ?_)
   |refine qau (h:= ?_)
   |refine qe1 (h:= ?_)
   |refine qe3 (h:= ?_)
   |(refine qal (h:= ?_);intro g)
   |refine qah (h:= ?_)
   |refine qc_ (h:= ?_)
   |refine qb_ (h:= ?_)
   |(refine qev (by eq_refl) (by eq_refl) (qaz (by eq_refl)) (fun hask=> ?_) (fun hask=> ?_))
   |(refine qb5 (by eq_refl) (fun hif=> ?_) (fun hif=> ?_))
  )
 all_goals refine hQ _ _ (ret1 rfl (by (first |exact qfj |exact qfp)) ?_)
 all_goals clear hQ
 ·obtain ⟨k1,k2⟩:=key _ (by rw [if_pos hif]);rw [k1,k2]
 ·obtain ⟨k1,k2⟩:=key _ (by rw [if_neg (by rw [hif];decide)]);rw [k1,k2]
theorem qu4 (a:Fx):Pure Tryz.prog 98 #[a.v] (Fx.of (-a.n)).v:=by
 have hs:=qk8 ⟨0,0,by decide⟩ a.u
 have hu:=a.u_n
 have hl:=a.u.lt
 have hn:=Two.of_n (0+340282366920938463463374607431768211456 - a.u.n)
 have z0:(⟨0,0,by decide⟩:Two).n=0:=by kernel_rfl
 rw [z0] at hs
 generalize Two.of (0+340282366920938463463374607431768211456 - a.u.n)=T at *
 have hT:∃k:Int,(T.n:Int)= -a.n+k * 340282366920938463463374607431768211456:=by
  have:=a.lt
  split at hu
  ·by_cases h0:a.u.n=0
   ·exact ⟨-1,by omega⟩
   ·exact ⟨0,by omega⟩
  ·by_cases h0:a.u.n=0
   ·exact ⟨0,by omega⟩
   ·exact ⟨1,by omega⟩
 have hv:=Fx.of_bits hT
 clear hT hn hl hu z0
 refine qel Tryz.func98 rfl Tryz.ntmps98 rfl rfl (fun w0 Q hQ=> ?_)
 repeat' (
  first
   |refine qb4 (fun N hN=> ?_)
   |refine qc4 ?_
   |refine qb2 ?_
   |refine qc6 ?_
   |refine qee ?_
   |refine qc5 ?_
   |refine qeg (show X _ _ _ _ _ from ?_)
   |(refine qdd hN ?_;clear hN N)
   |(refine qa1 ?_;clear hN N)
   |(refine qam ?_;clear hN N)
   |refine qb3 ?_
   |refine qap ?_
   |refine qar ?_
   |refine qaj (by eq_refl) ?_
   |refine qda (h:= ?_)
   |refine qax (h:= ?_)
   |refine qa6 (h:= ?_)
   |refine qa4 (h:= ?_)
   |refine qes (h:= ?_)
   |refine qc7 (h:= ?_)
   |refine qbm (h:= ?_)
   |refine qbb (h:= ?_)
   |refine qa0 (hp:=hs) (h:= ?_)
   |(refine qey (h:= ?_);intro g)
   |(refine qb8 (h:= ?_);intro g)
   |refine qb9 (h:= ?_)
   |refine qaw (h:= ?_)
   |refine qb7 (h:= ?_)
   |refine qc9 (h:= ?_)
   |refine qe5 (h:= ?_)
   |refine qe6 (h:= ?_)
   |refine qex (h:= ?_)
   |refine qew (h:= ?_)
   |refine qet (h:= ?_)
   |refine qbo (h:= ?_)
   |refine qbp (h:= ?_)
   |refine qeu (h:= ?_)
   |refine qep (h:= ?_)
   |refine qau (h:= ?_)
   |refine qe1 (h:= ?_)
   |refine qe3 (h:= ?_)
   |(refine qal (h:= ?_);intro g)
   |refine qah (h:= ?_)
   |refine qc_ (h:= ?_)
   |refine qb_ (h:= ?_)
   |(refine qev (by eq_refl) (by eq_refl) (qaz (by eq_refl)) (fun hask=> ?_) (fun hask=> ?_))
   |(refine qb5 (by eq_refl) (fun hif=> ?_) (fun hif=> ?_))
  )
 all_goals refine hQ _ _ (ret1 rfl (by (first |exact qfj |exact qfp)) ?_)
 exact hv
theorem qis (a b:Two):Pure Tryz.prog 112 #[a.v,b.v] (.agg #[.int .u64 (Two.of (a.n+b.n)).hi,.int .u64 (Two.of (a.n+b.n)).lo,.bool (decide (340282366920938463463374607431768211456≤a.n+b.n))]):=by
 obtain ⟨lo,hlo⟩:∃x,IntKind.u64.wrap (a.lo+b.lo)=x:=⟨_,rfl⟩
 obtain ⟨hi,hhi⟩:∃x,IntKind.u64.wrap (a.hi+b.hi)=x:=⟨_,rfl⟩
 obtain ⟨h0,hh0⟩:∃x,IntKind.u64.wrap (hi+0)=x:=⟨_,rfl⟩
 obtain ⟨h1,hh1⟩:∃x,IntKind.u64.wrap (hi+1)=x:=⟨_,rfl⟩
 obtain ⟨c,hc⟩:∃x,decide (lo<a.lo)=x:=⟨_,rfl⟩
 obtain ⟨o,ho⟩:∃x,decide (hi<a.hi)=x:=⟨_,rfl⟩
 obtain ⟨z,hz⟩:∃x,decide (h1=0)=x:=⟨_,rfl⟩
 obtain ⟨y,hy⟩:∃x,decide (h0=0)=x:=⟨_,rfl⟩
 have e4:qbx .add .u64 a.lo b.lo=some (.int .u64 lo):=by simp only [qbx,hlo]
 have e5:qbx .add .u64 a.hi b.hi=some (.int .u64 hi):=by simp only [qbx,hhi]
 have e6:qbx .add .u64 hi 0=some (.int .u64 h0):=by simp only [qbx,hh0]
 have e7:qbx .add .u64 hi 1=some (.int .u64 h1):=by simp only [qbx,hh1]
 have e8:qbx .lss .u64 lo a.lo=some (.bool c):=by simp only [qbx,hc]
 have e9:qbx .lss .u64 hi a.hi=some (.bool o):=by simp only [qbx,ho]
 have f1:qbx .eql .u64 h1 0=some (.bool z):=by simp only [qbx,←hz];rfl
 have f2:qbx .eql .u64 h0 0=some (.bool y):=by simp only [qbx,←hy];rfl
 have f3:qbx .eql .u64 1 1=some (.bool true):=by simp [qbx]
 have f4:qbx .eql .u64 0 1=some (.bool false):=by simp [qbx]
 have key:(if c=true then (Two.of (a.n+b.n)).hi=h1∧decide (340282366920938463463374607431768211456≤a.n+b.n)=(o||z) else (Two.of (a.n+b.n)).hi=h0∧decide (340282366920938463463374607431768211456≤a.n+b.n)=o)∧(Two.of (a.n+b.n)).lo=lo:=by
  have ha:=a.n_int;have hb:=b.n_int;have:=a.b;have:=b.b;have:=a.lt;have:=b.lt
  rw [Two.of_hi,Two.of_lo]
  rw [IntKind.wrap_u64] at hlo hhi hh0 hh1
  refine ⟨?_,by omega⟩
  by_cases q:lo<a.lo
  ·rw [if_pos (by rw [←hc];exact decide_eq_true q),←ho,←hz,←Bool.decide_or]
   refine ⟨by omega,decide_eq_decide.2 ?_⟩
   omega
  ·rw [if_neg (by rw [←hc];simpa using q),←ho]
   refine ⟨by omega,decide_eq_decide.2 ?_⟩
   omega
 generalize Two.of (a.n+b.n)=T at *
 generalize decide (340282366920938463463374607431768211456≤a.n+b.n)=cy at *
 clear hlo hhi hh0 hh1 hc ho hz hy
 have tt:true=true:=rfl
 have ff:false=false:=rfl
 refine qel Tryz.func112 rfl Tryz.ntmps112 rfl rfl (fun w0 Q hQ=> ?_)
 repeat' (
  first
   |refine qb4 (fun N hN=> ?_)
   |refine qc4 ?_
   |refine qb2 ?_
   |refine qc6 ?_
   |refine qee ?_
   |refine qc5 ?_
   |refine qeg (show X _ _ _ _ _ from ?_)
   |(refine qdd hN ?_;clear hN N)
   |(refine qa1 ?_;clear hN N)
   |(refine qam ?_;clear hN N)
   |refine qb3 ?_
   |refine qap ?_
   |refine qar ?_
   |refine qaj (by eq_refl) ?_
   |refine qda (h:= ?_)
   |refine qax (h:= ?_)
   |refine qa6 (h:= ?_)
   |refine qa4 (h:= ?_)
   |refine qes (h:= ?_)
   |refine qc7 (h:= ?_)
   |refine qbm (h:= ?_)
   |refine qbb (h:= ?_)
   |(refine qey (h:= ?_);intro g)
   |(refine qb8 (h:= ?_);intro g)
   |refine qb9 (h:= ?_)
   |refine qaw (h:= ?_)
   |refine qb7 (h:= ?_)
   |refine qc9 (h:= ?_)
   |refine qe5 (h:= ?_)
   |refine qe6 (h:= ?_)
   |refine qex (h:= ?_)
   |refine qew (h:= ?_)
   |refine qet (h:= ?_)
   |refine qbo (h:= ?_)
   |refine qbp (h:= ?_)
   |refine qeu (h:= ?_)
   |refine qep (h:= ?_)
   |refine qau (h:= ?_)
   |refine qe1 (h:= ?_)
   |refine qe3 (h:= ?_)
   |(refine qal (h:= ?_);intro g)
   |refine qah (h:= ?_)
   |refine qc_ (h:= ?_)
   |refine qb_ (h:= ?_)
   |(refine qev (by eq_refl) (by eq_refl) (qaz (by eq_refl)) (fun hask=> ?_) (fun hask=> ?_))
   |(refine qb5 (by eq_refl) (fun hif=> ?_) (fun hif=> ?_))
  )
 all_goals refine hQ _ _ (ret1 rfl (by (first |exact qfj |exact qfp)) ?_)
 all_goals clear hQ e4 e5 e6 e7 e8 e9 f1 f2 f3 f4
 all_goals simp_all
theorem Fx.of_n (z:Int) (h: -170141183460469231731687303715884105728≤z∧z<170141183460469231731687303715884105728):(Fx.of z).n=z:=by
 show IntKind.i64.wrap (z / 18446744073709551616) * 18446744073709551616+z % 18446744073709551616=z
 rw [IntKind.wrap_i64];omega
theorem Fx.n_ext {a b:Fx} (h:a.n=b.n):a=b:=by
 obtain ⟨x,y,q⟩:=a
 obtain ⟨z,w,r⟩:=b
 have:x=z∧y=w:=by unfold Fx.n at h;dsimp only at h;omega
 obtain ⟨rfl,rfl⟩:=this
 rfl
theorem Fx.of_u (z:Int):(Fx.of z).u=Two.of (z % 340282366920938463463374607431768211456).toNat:=by
 apply Two.ext_n
 have h:=(Fx.of z).u_n
 have e:(Fx.of z).n=IntKind.i64.wrap (z / 18446744073709551616) * 18446744073709551616+z % 18446744073709551616:=rfl
 have e2:(Fx.of z).hi=IntKind.i64.wrap (z / 18446744073709551616):=rfl
 rw [e,e2,IntKind.wrap_i64] at h
 rw [Two.of_n]
 split at h<;>omega
theorem qns (a:Fx):Pure Tryz.prog 110 #[a.v] a.mag.v:=by
 have hn:=qu4 a
 obtain ⟨b,hb⟩:∃x,decide (a.hi<0)=x:=⟨_,rfl⟩
 have e1:qbx .lss .i64 a.hi 0=some (.bool b):=by simp only [qbx,hb]
 have k1:b=false→a.mag=a.u:=fun h=>a.mag_pos (of_decide_eq_false (hb.trans h))
 have k2:b=true→a.mag=(Fx.of (-a.n)).u:=fun h=>by
  have:=(a.neg_iff).1 (of_decide_eq_true (hb.trans h))
  have:=a.lt
  rw [Fx.of_u]
  apply Two.ext_n
  rw [Fx.mag_n,Two.of_n]
  omega
 clear hb
 generalize Fx.of (-a.n)=r at *
 refine qel Tryz.func110 rfl Tryz.ntmps110 rfl rfl (fun w0 Q hQ=> ?_)
 repeat' (
  first
   |refine qb4 (fun N hN=> ?_)
   |refine qc4 ?_
   |refine qb2 ?_
   |refine qc6 ?_
   |refine qee ?_
   |refine qc5 ?_
   |refine qeg (show X _ _ _ _ _ from ?_)
   |(refine qdd hN ?_;clear hN N)
   |(refine qa1 ?_;clear hN N)
   |(refine qam ?_;clear hN N)
   |refine qb3 ?_
   |refine qap ?_
   |refine qar ?_
   |refine qaj (by eq_refl) ?_
   |refine qda (h:= ?_)
   |refine qax (h:= ?_)
   |refine qa6 (h:= ?_)
   |refine qa4 (h:= ?_)
   |refine qes (h:= ?_)
   |refine qc7 (h:= ?_)
   |refine qbm (h:= ?_)
   |refine qbb (h:= ?_)
   |refine qa0 (hp:=hn) (h:= ?_)
   |(refine qey (h:= ?_);intro g)
   |(refine qb8 (h:= ?_);intro g)
   |refine qb9 (h:= ?_)
   |refine qaw (h:= ?_)
   |refine qb7 (h:= ?_)
   |refine qc9 (h:= ?_)
   |refine qe5 (h:= ?_)
   |refine qe6 (h:= ?_)
   |refine qex (h:= ?_)
   |refine qew (h:= ?_)
   |refine qet (h:= ?_)
   |refine qbo (h:= ?_)
   |refine qbp (h:= ?_)
   |refine qeu (h:= ?_)
   |refine qep (h:= ?_)
   |refine qau (h:= ?_)
   |refine qe1 (h:= ?_)
   |refine qe3 (h:= ?_)
   |(refine qal (h:= ?_);intro g)
   |refine qah (h:= ?_)
   |refine qc_ (h:= ?_)
   |refine qb_ (h:= ?_)
   |(refine qev (by eq_refl) (by eq_refl) (qaz (by eq_refl)) (fun hask=> ?_) (fun hask=> ?_))
   |(refine qb5 (by eq_refl) (fun hif=> ?_) (fun hif=> ?_))
  )
 all_goals refine hQ _ _ (ret1 rfl (by (first |exact qfj |exact qfp)) ?_)
 ·rw [k2 hif];rfl
 ·rw [k1 hif];rfl
theorem qii (s:Bool) (m:Four):Pure Tryz.prog 111 #[.bool s,m.v] (.agg #[.int .i64 (told m s).1.hi,.int .u64 (told m s).1.lo,.int .i64 (told m s).2]):=by
 have hA:∀h,(m.lo.hi<9223372036854775808)→(⟨IntKind.i64.wrap m.lo.hi,m.lo.lo,h⟩:Fx).n=m.lo.n:=fun h hlt=>by
  rw [Two.n_int];show IntKind.i64.wrap m.lo.hi * _+m.lo.lo=_;have:=m.lo.b;rw [IntKind.wrap_i64];omega
 have hn:=qu4 ⟨IntKind.i64.wrap m.lo.hi,m.lo.lo,by have:=qph m.lo.hi;have:=m.lo.b;omega⟩
 have t1:170141183460469231731687303715884105728≤m.n→told m s=(Fx.of 0,3):=fun h=>by unfold told;rw [if_pos h]
 have t2:¬170141183460469231731687303715884105728≤m.n→told m s=(Fx.of (sgn s m.lo.n),0):=fun h=>by unfold told;rw [if_neg h]
 generalize told m s=t at *
 obtain ⟨g,hg⟩:∃x,decide (m.lo.hi≥9223372036854775808)=x:=⟨_,rfl⟩
 have e1:qbx .geq .u64 m.lo.hi 9223372036854775808=some (.bool g):=by simp only [qbx,hg]
 have big:170141183460469231731687303715884105728≤m.n↔¬(m.hi.hi=0∧m.hi.lo=0)∨m.lo.hi≥9223372036854775808:=by
  have h1:=m.n_eq;have h2:=m.lo.n_int;have h3:=m.hi.n_int;have:=m.lo.b;have:=m.hi.b;have:=m.lo.lt
  rw [h1];omega
 refine qel Tryz.func111 rfl Tryz.ntmps111 rfl rfl (fun w0 Q hQ=> ?_)
 repeat' (
  first
   |refine qb4 (fun N hN=> ?_)
   |refine qc4 ?_
   |refine qb2 ?_
   |refine qc6 ?_
   |refine qee ?_
   |refine qc5 ?_
   |refine qeg (show X _ _ _ _ _ from ?_)
   |(refine qdd hN ?_;clear hN N)
   |(refine qa1 ?_;clear hN N)
   |(refine qam ?_;clear hN N)
   |refine qb3 ?_
   |refine qap ?_
   |refine qar ?_
   |refine qaj (by eq_refl) ?_
   |refine qda (h:= ?_)
   |refine qax (h:= ?_)
   |refine qa6 (h:= ?_)
   |refine qa4 (h:= ?_)
   |refine qes (h:= ?_)
   |refine qc7 (h:= ?_)
   |refine qbm (h:= ?_)
   |refine qbb (h:= ?_)
   |refine qa0 (hp:=hn) (h:= ?_)
   |(refine qey (h:= ?_);intro g)
   |(refine qb8 (h:= ?_);intro g)
   |refine qb9 (h:= ?_)
   |refine qaw (h:= ?_)
   |refine qb7 (h:= ?_)
   |refine qc9 (h:= ?_)
   |refine qe5 (h:= ?_)
   |refine qe6 (h:= ?_)
   |refine qex (h:= ?_)
   |refine qew (h:= ?_)
   |refine qet (h:= ?_)
   |refine qbo (h:= ?_)
   |refine qbp (h:= ?_)
   |refine qeu (h:= ?_)
   |refine qep (h:= ?_)
   |refine qau (h:= ?_)
   |refine qe1 (h:= ?_)
   |refine qe3 (h:= ?_)
   |(refine qal (h:= ?_);intro g)
   |refine qah (h:= ?_)
   |refine qc_ (h:= ?_)
   |refine qb_ (h:= ?_)
   |(refine qev (by eq_refl) (by eq_refl) (qaz (by eq_refl)) (fun hask=> ?_) (fun hask=> ?_))
   |(refine qb5 (by eq_refl) (fun hif=> ?_) (fun hif=> ?_))
  )
 all_goals refine hQ _ _ (ret1 rfl (by (first |exact qfj |exact qfp)) ?_)
 all_goals clear hQ e1
 ·have hb:=t1 (big.2 (.inl (by rintro ⟨h1,h2⟩;rw [h1,h2] at hask;simp at hask)));rw [hb];rfl
 ·have hb:=t1 (big.2 (.inr (of_decide_eq_true (hg.trans hif))));rw [hb];rfl
 all_goals
  have hg0:¬m.lo.hi≥9223372036854775808:=of_decide_eq_false (hg.trans (by assumption))
  have hb:=t2 (fun h=>(big.1 h).elim (fun h=>h (by simpa using hask)) hg0)
  have hA':=hA (by have:=qph m.lo.hi;have:=m.lo.b;omega) (by omega)
  have hl:=big
 ·have es:∀n,sgn true n= -(n:Int):=fun n=>rfl
  rw [hb,hA',hif,es]
 ·rw [hb,hif]
  have es:∀n,sgn false n=(n:Int):=fun n=>rfl
  rw [es]
  have hlt:(m.lo.n:Int)<170141183460469231731687303715884105728:=by rw [Two.n_int];have:=m.lo.b;omega
  have e:=Fx.n_ext (hA'.trans (Fx.of_n (m.lo.n:Int) ⟨by omega,hlt⟩).symm)
  rw [←e]
def q5x (a b:Fx):Fx×Int:=if a.below=b.below then told ⟨⟨0,0,by decide⟩,Two.of (a.mag.n+b.mag.n)⟩ a.below else if a.mag.n<b.mag.n then told ⟨⟨0,0,by decide⟩,Two.of (b.mag.n+340282366920938463463374607431768211456 - a.mag.n)⟩ b.below else told ⟨⟨0,0,by decide⟩,Two.of (a.mag.n+340282366920938463463374607431768211456 - b.mag.n)⟩ a.below
theorem q6z (a b:Fx):Pure Tryz.prog 97 #[a.v,b.v] (.agg #[.int .i64 (q5x a b).1.hi,.int .u64 (q5x a b).1.lo,.int .i64 (q5x a b).2]):=by
 have h1:=qns a
 have h2:=qns b
 have h3:=qis a.mag b.mag
 have h4:=quc a.mag b.mag
 have h5:=qk8 a.mag b.mag
 have h6:=qk8 b.mag a.mag
 have s1:=qii a.below ⟨⟨0,0,by decide⟩,Two.of (a.mag.n+b.mag.n)⟩
 have s2:=qii b.below ⟨⟨0,0,by decide⟩,Two.of (b.mag.n+340282366920938463463374607431768211456 - a.mag.n)⟩
 have s3:=qii a.below ⟨⟨0,0,by decide⟩,Two.of (a.mag.n+340282366920938463463374607431768211456 - b.mag.n)⟩
 have hr:q5x a b=if a.below=b.below then told ⟨⟨0,0,by decide⟩,Two.of (a.mag.n+b.mag.n)⟩ a.below else if a.mag.n<b.mag.n then told ⟨⟨0,0,by decide⟩,Two.of (b.mag.n+340282366920938463463374607431768211456 - a.mag.n)⟩ b.below else told ⟨⟨0,0,by decide⟩,Two.of (a.mag.n+340282366920938463463374607431768211456 - b.mag.n)⟩ a.below:=rfl
 generalize q5x a b=r at *
 generalize told ⟨⟨0,0,by decide⟩,Two.of (a.mag.n+b.mag.n)⟩ a.below=t1 at *
 generalize told ⟨⟨0,0,by decide⟩,Two.of (b.mag.n+340282366920938463463374607431768211456 - a.mag.n)⟩ b.below=t2 at *
 generalize told ⟨⟨0,0,by decide⟩,Two.of (a.mag.n+340282366920938463463374607431768211456 - b.mag.n)⟩ a.below=t3 at *
 generalize Two.of (a.mag.n+b.mag.n)=S at *
 generalize Two.of (b.mag.n+340282366920938463463374607431768211456 - a.mag.n)=D1 at *
 generalize Two.of (a.mag.n+340282366920938463463374607431768211456 - b.mag.n)=D2 at *
 obtain ⟨sa,hsa⟩:∃x,a.below=x:=⟨_,rfl⟩
 obtain ⟨sb,hsb⟩:∃x,b.below=x:=⟨_,rfl⟩
 obtain ⟨ls,hls⟩:∃x,decide (a.mag.n<b.mag.n)=x:=⟨_,rfl⟩
 have e1:qbx .lss .i64 a.hi 0=some (.bool sa):=by rw [←hsa];rfl
 have e2:qbx .lss .i64 b.hi 0=some (.bool sb):=by rw [←hsb];rfl
 rw [hsa] at s1 s3
 rw [hsb] at s2
 rw [hls] at h4
 rw [hsa,hsb] at hr
 refine qel Tryz.func97 rfl Tryz.ntmps97 rfl rfl (fun w0 Q hQ=> ?_)
 repeat' (
  first
   |refine qb4 (fun N hN=> ?_)
   |refine qc4 ?_
   |refine qcg (id:=1) [] (by kernel_rfl) (by kernel_rfl) ?_
   |refine qcg (id:=3) [(998,.eff)] (by kernel_rfl) (by kernel_rfl) ?_
   |refine qcg (id:=5) [(998,.eff)] (by kernel_rfl) (by kernel_rfl) ?_
   |refine qcg (id:=6) [(998,.eff)] (by kernel_rfl) (by kernel_rfl) ?_
   |refine qb2 ?_
   |refine qc6 ?_
   |refine qee ?_
   |refine qc5 ?_
   |refine qeg (show X _ _ _ _ _ from ?_)
   |(refine qdd hN ?_;clear hN N)
   |(refine qa1 ?_;clear hN N)
   |(refine qam ?_;clear hN N)
   |refine qb3 ?_
   |refine qap ?_
   |refine qar ?_
   |refine qaj (by eq_refl) ?_
   |refine qda (h:= ?_)
   |refine qax (h:= ?_)
   |refine qa6 (h:= ?_)
   |refine qa4 (h:= ?_)
   |refine qes (h:= ?_)
   |refine qc7 (h:= ?_)
   |refine qbm (h:= ?_)
   |refine qbb (h:= ?_)
   |refine qa0 (hp:=h1) (h:= ?_)
   |refine qa0 (hp:=h2) (h:= ?_)
   |refine qa0 (hp:=h3) (h:= ?_)
   |refine qa0 (hp:=h4) (h:= ?_)
   |refine qa0 (hp:=h5) (h:= ?_)
   |refine qa0 (hp:=h6) (h:= ?_)
   |refine qa0 (hp:=s1) (h:= ?_)
   |refine qa0 (hp:=s2) (h:= ?_)
   |refine qa0 (hp:=s3) (h:= ?_)
   |(refine qey (h:= ?_);intro g)
   |(refine qb8 (h:= ?_);intro g)
   |refine qb9 (h:= ?_)
   |refine qaw (h:= ?_)
   |refine qb7 (h:= ?_)
   |refine qc9 (h:= ?_)
   |refine qe5 (h:= ?_)
   |refine qe6 (h:= ?_)
   |refine qex (h:= ?_)
   |refine qew (h:= ?_)
   |refine qet (h:= ?_)
   |refine qbo (h:= ?_)
   |refine qbp (h:= ?_)
   |refine qeu (h:= ?_)
   |refine qep (h:= ?_)
   |refine qau (h:= ?_)
   |refine qe1 (h:= ?_)
   |refine qe3 (h:= ?_)
   |(refine qal (h:= ?_);intro g)
   |refine qah (h:= ?_)
   |refine qc_ (h:= ?_)
   |refine qb_ (h:= ?_)
   |(refine qev (by eq_refl) (by eq_refl) (qaz (by eq_refl)) (fun hask=> ?_) (fun hask=> ?_))
   |(refine qb5 (by eq_refl) (fun hif=> ?_) (fun hif=> ?_))
  )
 all_goals clear h1 h2 h3 h4 h5 h6 s1 s2 s3
 all_goals refine hQ _ _ (ret1 rfl (by (first |exact qfj |exact qfp)) ?_)
 all_goals clear hQ
 ·rw [if_pos (beq_iff_eq.1 hif)] at hr;rw [hr]
 ·have q:¬sa=sb:=by have q:(sa==sb)=false:=(by assumption);intro h;rw [h] at q;simp at q
  rw [if_neg q,if_pos (of_decide_eq_true (hls.trans hif))] at hr;rw [hr]
 ·have q:¬sa=sb:=by have q:(sa==sb)=false:=(by assumption);intro h;rw [h] at q;simp at q
  rw [if_neg q,if_neg (of_decide_eq_false (hls.trans hif))] at hr;rw [hr]
theorem zx8 (a b:Fx) (ha:a.n≠-170141183460469231731687303715884105728) (hb:b.n≠-170141183460469231731687303715884105728):q5x a b=qxs a b:=by
 unfold q5x qxs
 by_cases h:a.below=b.below
 ·rw [if_pos h,if_pos h]
 ·rw [if_neg h,if_neg h]
  have hs:=quv a b h
  have z0:(⟨0,0,by decide⟩:Two).n=0:=by kernel_rfl
  have la:=a.lt
  have lb:=b.lt
  have ma:=a.mag_n
  have mb:=b.mag_n
  by_cases q:a.mag.n<b.mag.n
  ·rw [if_pos q,←hs.1 q]
   unfold told
   rw [if_neg (by rw [Four.n_low z0,Two.of_n];omega)]
  ·rw [if_neg q,←hs.2 q]
   unfold told
   rw [if_neg (by rw [Four.n_low z0,Two.of_n];omega)]
def fxW (hi lo:Int):Fx:=Fx.of (hi * 18446744073709551616+lo)
theorem zr7 {x:Int} (h:inK (some .i64) x): -9223372036854775808≤x∧x<9223372036854775808:=by
 have h:IntKind.i64.wrap x=x:=h
 rw [IntKind.wrap_i64] at h;omega
theorem qdr {x:Int} (h:inK (some .u64) x):0≤x∧x<18446744073709551616:=by
 have h:IntKind.u64.wrap x=x:=h
 rw [IntKind.wrap_u64] at h;omega
theorem q12 {hi lo:Int} (h:inK (some .i64) hi) (h':inK (some .u64) lo):(fxW hi lo).hi=hi:=by
 have:=zr7 h;have:=qdr h'
 unfold fxW Fx.of
 show IntKind.i64.wrap _=_
 rw [IntKind.wrap_i64];omega
theorem zqc {hi lo:Int} (h':inK (some .u64) lo):(fxW hi lo).lo=lo:=by
 have:=qdr h'
 unfold fxW Fx.of
 show (_:Int) % _=_
 omega
theorem qtl {hi lo:Int} (h:inK (some .i64) hi) (h':inK (some .u64) lo):(fxW hi lo).v= .agg #[.int .i64 hi,.int .u64 lo]:=by
 unfold Fx.v;rw [q12 h h',zqc h']
theorem qto {hi lo:Int} (h:inK (some .i64) hi) (h':inK (some .u64) lo):(fxW hi lo).n=hi * 18446744073709551616+lo:=by
 unfold Fx.n;rw [q12 h h',zqc h']
theorem qvq (a:Fx):inK (some .i64) a.hi∧inK (some .u64) a.lo:=by
 have:=a.b
 constructor
 ·show IntKind.i64.wrap a.hi=a.hi;rw [IntKind.wrap_i64];omega
 ·show IntKind.u64.wrap a.lo=a.lo;rw [IntKind.wrap_u64];omega
theorem zqv {e:Int} (h:e=0∨e=3):inK (some .i64) e:=by
 rcases h with rfl |rfl<;>rfl
theorem qma (m:Four) (s:Bool):(told m s).2=0∨(told m s).2=3:=by unfold told;split<;>simp
theorem zio (a b:Fx):(qxs a b).2=0∨(qxs a b).2=3:=by unfold qxs;split;exact qma _ _;exact .inl rfl
theorem zjb (a b:Fx):(q5x a b).2=0∨(q5x a b).2=3:=by
 unfold q5x
 split
 ·exact qma _ _
 ·split<;>exact qma _ _
def kFx:Sh:= .agg [some .i64,some .u64]
def qxz (xs:List Int):List Int:=let p:=qxs (fxW (xs.getD 0 0) (xs.getD 1 0)) (fxW (xs.getD 2 0) (xs.getD 3 0));[p.1.hi,p.1.lo,p.2]
def q4m (xs:List Int):List Int:=let p:=q5x (fxW (xs.getD 0 0) (xs.getD 1 0)) (fxW (xs.getD 2 0) (xs.getD 3 0));[p.1.hi,p.1.lo,p.2]
theorem in4 {a b c d:Option IntKind} {xs:List Int} (h:InC [a,b,c,d] xs):∃x0 x1 x2 x3,xs=[x0,x1,x2,x3]∧inK a x0∧inK b x1∧inK c x2∧inK d x3:=by
 match xs,h with
 |[x0,x1,x2,x3],h=>exact ⟨x0,x1,x2,x3,rfl,h.1,h.2.1,h.2.2.1,h.2.2.2.1⟩
theorem zm9:CTE Tryz.prog qxz 100 [kFx,kFx] (.tup [kFx,.one (some .i64)]):=fun xs h=>by
 obtain ⟨x0,x1,x2,x3,rfl,h0,h1,h2,h3⟩:=in4 h
 have e1:=qtl h0 h1
 have e2:=qtl h2 h3
 have hp:=zcu (fxW x0 x1) (fxW x2 x3)
 rw [e1,e2] at hp
 obtain ⟨i1,i2⟩:=qvq (qxs (fxW x0 x1) (fxW x2 x3)).1
 exact ⟨⟨i1,i2,zqv (zio _ _),trivial⟩,hp⟩
theorem znu:CTE Tryz.prog q4m 97 [kFx,kFx] (.one (.agg [some .i64,some .u64,some .i64])):=fun xs h=>by
 obtain ⟨x0,x1,x2,x3,rfl,h0,h1,h2,h3⟩:=in4 h
 have e1:=qtl h0 h1
 have e2:=qtl h2 h3
 have hp:=q6z (fxW x0 x1) (fxW x2 x3)
 rw [e1,e2] at hp
 obtain ⟨i1,i2⟩:=qvq (q5x (fxW x0 x1) (fxW x2 x3)).1
 exact ⟨⟨i1,i2,zqv (zjb _ _),trivial⟩,hp⟩
def q4r:List Ent:=⟨100,[kFx,kFx],.tup [kFx,.one (some .i64)],fun _=>qxz,false⟩::⟨97,[kFx,kFx],.one (.agg [some .i64,some .u64,some .i64]),fun _=>q4m,false⟩::[]
theorem z7i:qcd Tryz.prog q4r:=qih (qih qvk rfl (by kernel_rfl) znu) rfl (by kernel_rfl) zm9
end Go.Proofs.YtilkebpcjklmfaaGreat.Own
namespace Go.Proofs.YtilkebpcjklmfaaGreat.Own
open Go Go.RowKit Go.Proofs Go.Proofs.YtilkebpcjklmfaaGreat.Plain
open Go.Proofs.YtilkebpcjklmfaaGreat.Limb (DivNum divnum_start div_round double_words val2_mod div_in div_out quot_bit set_word div_end beyond_iff hi_word lo_word)
set_option maxRecDepth 100000
set_option maxHeartbeats 40000000
set_option maxRecDepth 100000 in
theorem zgx {a b c d p q:Nat} (la:a<18446744073709551616) (lb:b<18446744073709551616) (lc:c<18446744073709551616) (ld:d<18446744073709551616) (lp:p<18446744073709551616) (lq:q<18446744073709551616) (hne:¬qbc p q=0)
  (hlen:Pure Tryz.prog 128 #[.agg #[.int .u64 (a:Nat),.int .u64 (b:Nat),.int .u64 (c:Nat),.int .u64 (d:Nat)]] (.int .i64 (qgz (qbr a b c d):Nat)))
  (hlist:Pure Tryz.prog 139 #[.agg #[.int .u64 (a:Nat),.int .u64 (b:Nat),.int .u64 (c:Nat),.int .u64 (d:Nat)]] (.agg #[.int .u64 (d:Nat),.int .u64 (c:Nat),.int .u64 (b:Nat),.int .u64 (a:Nat)]))
  (hz:(((p:Nat):Int)==0&&(((q:Nat):Int)==0&&true))=false) (hsub1:IntKind.i64.wrap (((qgz (qbr a b c d):Nat):Int) - 1)=((qgz (qbr a b c d):Nat):Int) - 1):
  Pure Tryz.prog 135 #[.agg #[.int .u64 (a:Nat),.int .u64 (b:Nat),.int .u64 (c:Nat),.int .u64 (d:Nat)],.agg #[.int .u64 (p:Nat),.int .u64 (q:Nat)]]
   (.tuple #[.agg #[.int .u64 (wrd 3 (qbr a b c d / qbc p q):Nat),.int .u64 (wrd 2 (qbr a b c d / qbc p q):Nat),.int .u64 (wrd 1 (qbr a b c d / qbc p q):Nat),.int .u64 (wrd 0 (qbr a b c d / qbc p q):Nat)],.agg #[.int .u64 (wrd 1 (qbr a b c d % qbc p q):Nat),.int .u64 (wrd 0 (qbr a b c d % qbc p q):Nat)],.bool true]):=by
 refine qel Tryz.func135 rfl Tryz.ntmps135 rfl rfl (fun w0 Q hQ=> ?_)
 repeat (
  first
   |refine qb4 (fun N hN=> ?_)
   |refine qc4 ?_
   |refine qcg (id:=9) [(998,.eff)] (by kernel_rfl) (by kernel_rfl) ?_
   |refine qb2 ?_
   |refine qc6 ?_
   |refine qee ?_
   |refine qc5 ?_
   |refine qeg (show X _ _ _ _ _ from ?_)
   |(refine qdd hN ?_;clear hN N)
   |(refine qa1 ?_;clear hN N)
   |(refine qam ?_;clear hN N)
   |refine qb3 ?_
   |refine qap ?_
   |refine qar ?_
   |refine qaj (by eq_refl) ?_
   |refine qda (h:= ?_)
   |refine qax (h:= ?_)
   |refine qa6 (h:= ?_)
   |refine qa4 (h:= ?_)
   |refine qes (h:= ?_)
   |refine qc7 (h:= ?_)
   |refine qbm (h:= ?_)
   |refine qbb (h:= ?_)
   |refine qa0 (hp:=hlist) (h:= ?_)
   |refine qa0 (hp:=hlen) (h:= ?_)
   |(refine qey (h:= ?_);intro g)
   |(refine qb8 (h:= ?_);intro g)
   |refine qb9 (h:= ?_)
   |refine qaw (h:= ?_)
   |refine qb7 (h:= ?_)
   |refine qc9 (h:= ?_)
   |refine qe5 (h:= ?_)
   |refine qe6 (h:= ?_)
   |refine qex (h:= ?_)
   |refine qew (h:= ?_)
   |refine qet (h:= ?_)
   |refine qbo (h:= ?_)
   |refine qbp (h:= ?_)
   |refine qeu (h:= ?_)
   |refine qep (h:= ?_)
   |refine qau (h:= ?_)
   |refine qe1 (h:= ?_)
   |refine qe3 (h:= ?_)
   |(refine qal (h:= ?_);intro g)
   |refine qah (h:= ?_)
   |refine qc_ (h:= ?_)
   |refine qb_ (h:= ?_)
   |(refine qev (by eq_refl) (by eq_refl) (qaz (by eq_refl)) (fun hask=> ?_) (fun hask=> ?_))
   |(refine qb5 (by eq_refl) (fun hif=> ?_) (fun hif=> ?_))
  )
 rename_i g2 g3 g4 g5 g7
 refine qxh 2 rfl (qxh 3 rfl (qxh 4 rfl (qxh 5 rfl (qxh 7 rfl (qxh 8 rfl (qxh 9 rfl ?_))))))
 have h256:qgz (qbr a b c d)≤256:=(qiv _ _).2 (by have:=q9u la lb lc ld;simpa using this)
 refine zls (fun m l L=>∃(z:Int) (rest:List (Nat×Value)) (r1 r0 o3 o2 o1 o0:Nat),z+1=(m:Int)∧
  l=(9,.int .i64 z)::(8,.pointer (some ⟨g,0,none⟩))::(7,.pointer (some ⟨g7,0,none⟩))::(5,.pointer (some ⟨g5,0,none⟩))::(4,.pointer (some ⟨g4,0,none⟩))::(3,.pointer (some ⟨g3,0,none⟩))::(2,.pointer (some ⟨g2,0,none⟩))::rest∧
  L=[(g,[.int .u64 (o0:Nat),.int .u64 (o1:Nat),.int .u64 (o2:Nat),.int .u64 (o3:Nat)],201),(g7,[.int .u64 (d:Nat),.int .u64 (c:Nat),.int .u64 (b:Nat),.int .u64 (a:Nat)],201),(g5,[.int .u64 (r1:Nat),.int .u64 (r0:Nat)],171),(g4,[.int .u64 0,.int .u64 0,.int .u64 0,.int .u64 0],178),
   (g3,[.int .u64 (p:Nat),.int .u64 (q:Nat)],171),(g2,[.int .u64 (a:Nat),.int .u64 (b:Nat),.int .u64 (c:Nat),.int .u64 (d:Nat)],178)]∧
  r1<18446744073709551616∧r0<18446744073709551616∧o3<18446744073709551616∧o2<18446744073709551616∧o1<18446744073709551616∧o0<18446744073709551616∧DivNum (qbr a b c d) (qbc p q) m (qbc r1 r0) (qbr o3 o2 o1 o0)) (qgz (qbr a b c d)) ?_ ?_
 ·exact ⟨_,_,0,0,0,0,0,0,by omega,rfl,rfl,by decide,by decide,by decide,by decide,by decide,by decide,divnum_start _ _ h256⟩
 rintro m l L N ⟨z,rest,r1,r0,o3,o2,o1,o0,hzm,rfl,rfl,l1,l0,m3,m2,m1,m0,D⟩ hN
 cases m with
 |zero=>
  obtain rfl:z= -1:=by omega
  have hc:decide ((-1:Int)≥0)=false:=by decide
  have hfour:=za4 (o0:Nat) (o1:Nat) (o2:Nat) (o3:Nat)
  obtain ⟨e3,e2,e1,e0,f1,f0⟩:=div_end D l1 l0 m3 m2 m1 m0
  clear hlen hlist hsub1 D
  repeat (
   first
    |refine zbt (id:=14) [(2005,.eff)] [(g,[.int .u64 (o0:Nat),.int .u64 (o1:Nat),.int .u64 (o2:Nat),.int .u64 (o3:Nat)],201),(g5,[.int .u64 (r1:Nat),.int .u64 (r0:Nat)],171)] (by kernel_rfl) (by kernel_rfl) ?_
    |refine qb4 (fun N hN=> ?_)
    |refine qc4 ?_
    |refine qcg (id:=9) [(998,.eff)] (by kernel_rfl) (by kernel_rfl) ?_
    |refine qb2 ?_
    |refine qc6 ?_
    |refine qee ?_
    |refine qc5 ?_
    |refine qeg (show X _ _ _ _ _ from ?_)
    |(refine qdd hN ?_;clear hN N)
    |(refine qa1 ?_;clear hN N)
    |(refine qam ?_;clear hN N)
    |refine qb3 ?_
    |refine qap ?_
    |refine qar ?_
    |refine qaj (by eq_refl) ?_
    |refine qda (h:= ?_)
    |refine qax (h:= ?_)
    |refine qa6 (h:= ?_)
    |refine qa4 (h:= ?_)
    |refine qes (h:= ?_)
    |refine qc7 (h:= ?_)
    |refine qbm (h:= ?_)
    |refine qbb (h:= ?_)
    |refine qa0 (hp:=hfour) (h:= ?_)
    |(refine qey (h:= ?_);intro g)
    |(refine qb8 (h:= ?_);intro g)
    |refine qb9 (h:= ?_)
    |refine qaw (h:= ?_)
    |refine qb7 (h:= ?_)
    |refine qc9 (h:= ?_)
    |refine qe5 (h:= ?_)
    |refine qe6 (h:= ?_)
    |refine qex (h:= ?_)
    |refine qew (h:= ?_)
    |refine qet (h:= ?_)
    |refine qbo (h:= ?_)
    |refine qbp (h:= ?_)
    |refine qeu (h:= ?_)
    |refine qep (h:= ?_)
    |refine qau (h:= ?_)
    |refine qe1 (h:= ?_)
    |refine qe3 (h:= ?_)
    |(refine qal (h:= ?_);intro g)
    |refine qah (h:= ?_)
    |refine qc_ (h:= ?_)
    |refine qb_ (h:= ?_)
    |(refine qev (by eq_refl) (by eq_refl) (qaz (by eq_refl)) (fun hask=> ?_) (fun hask=> ?_))
    |(refine qb5 (by eq_refl) (fun hif=> ?_) (fun hif=> ?_))
   )
  refine hQ _ _ (ret3 rfl (by (first |exact qfj |exact qfp)) (by (first |exact qfj |exact qfp)) (by (first |exact qfj |exact qfp)) ?_)
  rw [e3,e2,e1,e0,f1,f0]
 |succ k=>
  obtain rfl:z=(k:Int):=by omega
  have hk256:k<256:=by have:=D.hm;omega
  have hc:decide ((k:Int)≥0)=true:=by simp
  obtain ⟨e,he⟩:∃e,qbr a b c d / 2 ^ k % 2=e:=⟨_,rfl⟩
  have he2:e<2:=by omega
  have hbit:=zme la lb lc ld hk256
  rw [he] at hbit
  obtain ⟨x1,hx1⟩:∃x,(r1 * 2 % 18446744073709551616|||r0 / 9223372036854775808)=x:=⟨_,rfl⟩
  obtain ⟨x0,hx0⟩:∃x,(r0 * 2 % 18446744073709551616|||e)=x:=⟨_,rfl⟩
  have dw:=double_words r1 r0 e he2 l1 l0
  rw [hx1,hx0] at dw
  obtain ⟨b1,b0,bx⟩:=dw
  have hsub:=q87 b1 b0 lp lq
  have hbb:=beyond_iff r1 r0 e he2 l0
  have w1:((r1:Nat):Int).fdiv (2 ^ (min (63:Int).toNat IntKind.u64.bits))=(r1:Int) / 9223372036854775808:=by
   rw [Int.fdiv_eq_ediv_of_nonneg _ (Int.pow_nonneg (by decide))];rfl
  have w2:IntKind.u64.wrap (((r1:Nat):Int) * 2 ^ (min (1:Int).toNat IntKind.u64.bits))=((r1 * 2 % 18446744073709551616:Nat):Int):=by
   rw [IntKind.wrap_u64];simp [IntKind.bits]
  have w3:((r0:Nat):Int).fdiv (2 ^ (min (63:Int).toNat IntKind.u64.bits))=((r0 / 9223372036854775808:Nat):Int):=by
   rw [Int.fdiv_eq_ediv_of_nonneg _ (Int.pow_nonneg (by decide))];rfl
  have w4:qbx .or .u64 ((r1 * 2 % 18446744073709551616:Nat):Int) ((r0 / 9223372036854775808:Nat):Int)=some (.int .u64 (x1:Nat)):=by
   simp only [qbx];rw [u64_or_nat _ _ (Nat.mod_lt _ (by decide)) (by omega),hx1]
  have w5:IntKind.u64.wrap (((r0:Nat):Int) * 2 ^ (min (1:Int).toNat IntKind.u64.bits))=((r0 * 2 % 18446744073709551616:Nat):Int):=by
   rw [IntKind.wrap_u64];simp [IntKind.bits]
  have w6:qbx .or .u64 ((r0 * 2 % 18446744073709551616:Nat):Int) ((e:Nat):Int)=some (.int .u64 (x0:Nat)):=by
   simp only [qbx];rw [u64_or_nat _ _ (Nat.mod_lt _ (by decide)) (by omega),hx0]
  have w7:qbx .sub .i64 ((k:Nat):Int) 1=some (.int .i64 ((k:Int) - 1)):=by
   simp only [qbx,IntKind.wrap_i64,Option.some.injEq,Value.int.injEq,true_and];omega
  obtain ⟨bb,hbb'⟩:∃bb,decide ((r1:Int) / 9223372036854775808>0)=bb:=⟨_,rfl⟩
  have w8:qbx .gtr .u64 ((r1:Int) / 9223372036854775808) 0=some (.bool bb):=by simp only [qbx,hbb']
  obtain ⟨ls,hls⟩:∃ls,decide (qbc x1 x0<qbc p q)=ls:=⟨_,rfl⟩
  rw [hls] at hsub
  have hbb2:bb=decide (340282366920938463463374607431768211456≤2 * qbc r1 r0+e):=by rw [←hbb'];exact hbb
  obtain ⟨s,hs,hq⟩:∃s,s<64∧(k=s∨k=64+s∨k=128+s∨k=192+s):=⟨k % 64,by omega,by omega⟩
  have hst:((k:Nat):Int).tmod 64=((s:Nat):Int):=by rw [Int.tmod_eq_emod_of_nonneg (by omega)];omega
  have hsh:IntKind.u64.wrap (1 * 2 ^ (min ((s:Nat):Int).toNat IntKind.u64.bits))=((2 ^ s:Nat):Int):=by
   have:2 ^ s<18446744073709551616:=Nat.pow_lt_pow_right (by decide) hs
   rw [IntKind.wrap_u64,Int.toNat_natCast,show IntKind.u64.bits=64 from rfl,Nat.min_eq_left (by omega),Int.one_mul,show (2:Int) ^ s=((2 ^ s:Nat):Int) by rw [Int.natCast_pow];rfl]
   generalize 2 ^ s=P2 at *
   omega
  have hsn:decide (((s:Nat):Int)<0)=false:=by simp
  have hp2:2 ^ s<18446744073709551616:=Nat.pow_lt_pow_right (by decide) hs
  have q3:qbx .or .u64 ((o3:Nat):Int) ((2 ^ s:Nat):Int)=some (.int .u64 ((o3|||2 ^ s:Nat):Int)):=by simp only [qbx];rw [u64_or_nat _ _ m3 hp2]
  have q2:qbx .or .u64 ((o2:Nat):Int) ((2 ^ s:Nat):Int)=some (.int .u64 ((o2|||2 ^ s:Nat):Int)):=by simp only [qbx];rw [u64_or_nat _ _ m2 hp2]
  have q1:qbx .or .u64 ((o1:Nat):Int) ((2 ^ s:Nat):Int)=some (.int .u64 ((o1|||2 ^ s:Nat):Int)):=by simp only [qbx];rw [u64_or_nat _ _ m1 hp2]
  have q0:qbx .or .u64 ((o0:Nat):Int) ((2 ^ s:Nat):Int)=some (.int .u64 ((o0|||2 ^ s:Nat):Int)):=by simp only [qbx];rw [u64_or_nat _ _ m0 hp2]
  have hA:¬qbc p q=0:=hne
  have hB2:=zra lp lq
  have hin:(bb|| !ls)=true→DivNum (qbr a b c d) (qbc p q) k (qbc (wrd 1 (qbc x1 x0+340282366920938463463374607431768211456 - qbc p q)) (wrd 0 (qbc x1 x0+340282366920938463463374607431768211456 - qbc p q))) (qbr o3 o2 o1 o0+2 ^ k)∧qbr o3 o2 o1 o0 % 2 ^ (k+1)=0:=
   fun h=>div_in bb ls D hA hB2 he bx hbb2 hls h
  have hout:bb=false→ls=true→DivNum (qbr a b c d) (qbc p q) k (qbc x1 x0) (qbr o3 o2 o1 o0):=fun h1 h2=>div_out D hA he bx (h1.symm.trans hbb2) (hls.trans h2)
  clear hlen hlist hsub1 hz hx1 hx0 hbb hbb' he bx hbb2
  have hqd:∃i:Int,IntKind.i64.wrap (((k:Nat):Int).tdiv 64)=i∧((i=0∧k=s)∨(i=1∧k=64+s)∨(i=2∧k=128+s)∨(i=3∧k=192+s)):=by
   have e:IntKind.i64.wrap (((k:Nat):Int).tdiv 64)=((k / 64:Nat):Int):=by
    rw [Int.tdiv_eq_ediv_of_nonneg (by omega),IntKind.wrap_i64]
    omega
   rw [e]
   rcases hq with h |h |h |h
   ·exact ⟨0,by omega,.inl ⟨rfl,h⟩⟩
   ·exact ⟨1,by omega,.inr (.inl ⟨rfl,h⟩)⟩
   ·exact ⟨2,by omega,.inr (.inr (.inl ⟨rfl,h⟩))⟩
   ·exact ⟨3,by omega,.inr (.inr (.inr ⟨rfl,h⟩))⟩
  obtain ⟨i,hqi,hi⟩:=hqd
  have fin:∀(D':DivNum (qbr a b c d) (qbc p q) k (qbc (wrd 1 (qbc x1 x0+340282366920938463463374607431768211456 - qbc p q)) (wrd 0 (qbc x1 x0+340282366920938463463374607431768211456 - qbc p q))) (qbr o3 o2 o1 o0+2 ^ k)) (hO:qbr o3 o2 o1 o0 % 2 ^ (k+1)=0),_:=fun D' hO=>And.intro D' (quot_bit o3 o2 o1 o0 k s hs m3 m2 m1 m0 hO)
  have lw1:=qg0 1 (qbc x1 x0+340282366920938463463374607431768211456 - qbc p q)
  have lw0:=qg0 0 (qbc x1 x0+340282366920938463463374607431768211456 - qbc p q)
  clear hq D la lb lc ld lp lq hne hA hB2 hls
  repeat' (
   first
    |refine qb4 (fun N hN=> ?_)
    |refine qc4 ?_
    |refine qcg (id:=9) [(998,.eff)] (by kernel_rfl) (by kernel_rfl) ?_
    |refine qb2 ?_
    |refine qc6 ?_
    |refine qee ?_
    |refine qc5 ?_
    |refine qeg (show X _ _ _ _ _ from ?_)
    |(refine qdd hN ?_;clear hN N)
    |(refine qa1 ?_;clear hN N)
    |(refine qam ?_;clear hN N)
    |refine qb3 ?_
    |refine qap ?_
    |refine qar ?_
    |refine qaj (by eq_refl) ?_
    |refine qda (h:= ?_)
    |refine qax (h:= ?_)
    |refine qa6 (h:= ?_)
    |refine qa4 (h:= ?_)
    |refine qes (h:= ?_)
    |refine qc7 (h:= ?_)
    |refine qbm (h:= ?_)
    |refine qbb (h:= ?_)
    |refine qa0 (hp:=hbit) (h:= ?_)
    |refine qa0 (hp:=hsub) (h:= ?_)
    |(refine qey (h:= ?_);intro g)
    |(refine qb8 (h:= ?_);intro g)
    |refine qb9 (h:= ?_)
    |refine qaw (h:= ?_)
    |refine qb7 (h:= ?_)
    |refine qc9 (h:= ?_)
    |refine qe5 (h:= ?_)
    |refine qe6 (h:= ?_)
    |refine qex (h:= ?_)
    |refine qew (h:= ?_)
    |refine qet (h:= ?_)
    |refine qbo (h:= ?_)
    |refine qbp (h:= ?_)
    |refine qeu (h:= ?_)
    |refine qep (h:= ?_)
    |refine qau (h:= ?_)
    |refine qe1 (h:= ?_)
    |refine qe3 (h:= ?_)
    |(refine qal (h:= ?_);intro g)
    |refine qah (h:= ?_)
    |refine qc_ (h:= ?_)
    |refine qb_ (h:= ?_)
    |(refine qev (by eq_refl) (by eq_refl) (qaz (by eq_refl)) (fun hask=> ?_) (fun hask=> ?_))
    |(refine qb5 (by eq_refl) (fun hif=> ?_) (fun hif=> ?_))
   )
  ·obtain ⟨D',hO⟩:=hin (by rw [hask];rfl)
   obtain ⟨_,Q0,Q1,Q2,Q3⟩:=fin D' hO
   clear fin hin hout
   rcases hi with ⟨rfl,hk⟩ |⟨rfl,hk⟩ |⟨rfl,hk⟩ |⟨rfl,hk⟩
   ·obtain ⟨ho,hv⟩:=Q0 hk
    rw [←hv] at D'
    clear Q0 Q1 Q2 Q3
    repeat' (
     first
      |refine qcg (id:=13) [(998,.eff)] (by kernel_rfl) (by kernel_rfl) ?_
      |refine qb4 (fun N hN=> ?_)
      |refine qc4 ?_
      |refine qcg (id:=9) [(998,.eff)] (by kernel_rfl) (by kernel_rfl) ?_
      |refine qb2 ?_
      |refine qc6 ?_
      |refine qee ?_
      |refine qc5 ?_
      |refine qeg (show X _ _ _ _ _ from ?_)
      |(refine qdd hN ?_;clear hN N)
      |(refine qa1 ?_;clear hN N)
      |(refine qam ?_;clear hN N)
      |refine qb3 ?_
      |refine qap ?_
      |refine qar ?_
      |refine qaj (by eq_refl) ?_
      |refine qda (h:= ?_)
      |refine qax (h:= ?_)
      |refine qa6 (h:= ?_)
      |refine qa4 (h:= ?_)
      |refine qes (h:= ?_)
      |refine qc7 (h:= ?_)
      |refine qbm (h:= ?_)
      |refine qbb (h:= ?_)
      |(refine qey (h:= ?_);intro g)
      |(refine qb8 (h:= ?_);intro g)
      |refine qb9 (h:= ?_)
      |refine qaw (h:= ?_)
      |refine qb7 (h:= ?_)
      |refine qc9 (h:= ?_)
      |refine qe5 (h:= ?_)
      |refine qe6 (h:= ?_)
      |refine qex (h:= ?_)
      |refine qew (h:= ?_)
      |refine qet (h:= ?_)
      |refine qbo (h:= ?_)
      |refine qbp (h:= ?_)
      |refine qeu (h:= ?_)
      |refine qep (h:= ?_)
      |refine qau (h:= ?_)
      |refine qe1 (h:= ?_)
      |refine qe3 (h:= ?_)
      |(refine qal (h:= ?_);intro g)
      |refine qah (h:= ?_)
      |refine qc_ (h:= ?_)
      |refine qb_ (h:= ?_)
      |(refine qev (by eq_refl) (by eq_refl) (qaz (by eq_refl)) (fun hask=> ?_) (fun hask=> ?_))
      |(refine qb5 (by eq_refl) (fun hif=> ?_) (fun hif=> ?_))
     )
    refine qch 2 (by eq_refl) (qch 3 (by eq_refl) (qch 4 (by eq_refl) (qch 5 (by eq_refl) (qch 7 (by eq_refl) (qch 8 (by eq_refl) (qch 9 (by eq_refl) (qlb ?_)))))))
    exact hN k _ _ (Nat.lt_succ_self k) ⟨_,_,_,_,_,_,_,_,by omega,rfl,rfl,lw1,lw0,m3,m2,m1,ho,D'⟩
   ·obtain ⟨ho,hv⟩:=Q1 hk
    rw [←hv] at D'
    clear Q0 Q1 Q2 Q3
    repeat' (
     first
      |refine qcg (id:=13) [(998,.eff)] (by kernel_rfl) (by kernel_rfl) ?_
      |refine qb4 (fun N hN=> ?_)
      |refine qc4 ?_
      |refine qcg (id:=9) [(998,.eff)] (by kernel_rfl) (by kernel_rfl) ?_
      |refine qb2 ?_
      |refine qc6 ?_
      |refine qee ?_
      |refine qc5 ?_
      |refine qeg (show X _ _ _ _ _ from ?_)
      |(refine qdd hN ?_;clear hN N)
      |(refine qa1 ?_;clear hN N)
      |(refine qam ?_;clear hN N)
      |refine qb3 ?_
      |refine qap ?_
      |refine qar ?_
      |refine qaj (by eq_refl) ?_
      |refine qda (h:= ?_)
      |refine qax (h:= ?_)
      |refine qa6 (h:= ?_)
      |refine qa4 (h:= ?_)
      |refine qes (h:= ?_)
      |refine qc7 (h:= ?_)
      |refine qbm (h:= ?_)
      |refine qbb (h:= ?_)
      |(refine qey (h:= ?_);intro g)
      |(refine qb8 (h:= ?_);intro g)
      |refine qb9 (h:= ?_)
      |refine qaw (h:= ?_)
      |refine qb7 (h:= ?_)
      |refine qc9 (h:= ?_)
      |refine qe5 (h:= ?_)
      |refine qe6 (h:= ?_)
      |refine qex (h:= ?_)
      |refine qew (h:= ?_)
      |refine qet (h:= ?_)
      |refine qbo (h:= ?_)
      |refine qbp (h:= ?_)
      |refine qeu (h:= ?_)
      |refine qep (h:= ?_)
      |refine qau (h:= ?_)
      |refine qe1 (h:= ?_)
      |refine qe3 (h:= ?_)
      |(refine qal (h:= ?_);intro g)
      |refine qah (h:= ?_)
      |refine qc_ (h:= ?_)
      |refine qb_ (h:= ?_)
      |(refine qev (by eq_refl) (by eq_refl) (qaz (by eq_refl)) (fun hask=> ?_) (fun hask=> ?_))
      |(refine qb5 (by eq_refl) (fun hif=> ?_) (fun hif=> ?_))
     )
    refine qch 2 (by eq_refl) (qch 3 (by eq_refl) (qch 4 (by eq_refl) (qch 5 (by eq_refl) (qch 7 (by eq_refl) (qch 8 (by eq_refl) (qch 9 (by eq_refl) (qlb ?_)))))))
    exact hN k _ _ (Nat.lt_succ_self k) ⟨_,_,_,_,_,_,_,_,by omega,rfl,rfl,lw1,lw0,m3,m2,ho,m0,D'⟩
   ·obtain ⟨ho,hv⟩:=Q2 hk
    rw [←hv] at D'
    clear Q0 Q1 Q2 Q3
    repeat' (
     first
      |refine qcg (id:=13) [(998,.eff)] (by kernel_rfl) (by kernel_rfl) ?_
      |refine qb4 (fun N hN=> ?_)
      |refine qc4 ?_
      |refine qcg (id:=9) [(998,.eff)] (by kernel_rfl) (by kernel_rfl) ?_
      |refine qb2 ?_
      |refine qc6 ?_
      |refine qee ?_
      |refine qc5 ?_
      |refine qeg (show X _ _ _ _ _ from ?_)
      |(refine qdd hN ?_;clear hN N)
      |(refine qa1 ?_;clear hN N)
      |(refine qam ?_;clear hN N)
      |refine qb3 ?_
      |refine qap ?_
      |refine qar ?_
      |refine qaj (by eq_refl) ?_
      |refine qda (h:= ?_)
      |refine qax (h:= ?_)
      |refine qa6 (h:= ?_)
      |refine qa4 (h:= ?_)
      |refine qes (h:= ?_)
      |refine qc7 (h:= ?_)
      |refine qbm (h:= ?_)
      |refine qbb (h:= ?_)
      |(refine qey (h:= ?_);intro g)
      |(refine qb8 (h:= ?_);intro g)
      |refine qb9 (h:= ?_)
      |refine qaw (h:= ?_)
      |refine qb7 (h:= ?_)
      |refine qc9 (h:= ?_)
      |refine qe5 (h:= ?_)
      |refine qe6 (h:= ?_)
      |refine qex (h:= ?_)
      |refine qew (h:= ?_)
      |refine qet (h:= ?_)
      |refine qbo (h:= ?_)
      |refine qbp (h:= ?_)
      |refine qeu (h:= ?_)
      |refine qep (h:= ?_)
      |refine qau (h:= ?_)
      |refine qe1 (h:= ?_)
      |refine qe3 (h:= ?_)
      |(refine qal (h:= ?_);intro g)
      |refine qah (h:= ?_)
      |refine qc_ (h:= ?_)
      |refine qb_ (h:= ?_)
      |(refine qev (by eq_refl) (by eq_refl) (qaz (by eq_refl)) (fun hask=> ?_) (fun hask=> ?_))
      |(refine qb5 (by eq_refl) (fun hif=> ?_) (fun hif=> ?_))
     )
    refine qch 2 (by eq_refl) (qch 3 (by eq_refl) (qch 4 (by eq_refl) (qch 5 (by eq_refl) (qch 7 (by eq_refl) (qch 8 (by eq_refl) (qch 9 (by eq_refl) (qlb ?_)))))))
    exact hN k _ _ (Nat.lt_succ_self k) ⟨_,_,_,_,_,_,_,_,by omega,rfl,rfl,lw1,lw0,m3,ho,m1,m0,D'⟩
   ·obtain ⟨ho,hv⟩:=Q3 hk
    rw [←hv] at D'
    clear Q0 Q1 Q2 Q3
    repeat' (
     first
      |refine qcg (id:=13) [(998,.eff)] (by kernel_rfl) (by kernel_rfl) ?_
      |refine qb4 (fun N hN=> ?_)
      |refine qc4 ?_
      |refine qcg (id:=9) [(998,.eff)] (by kernel_rfl) (by kernel_rfl) ?_
      |refine qb2 ?_
      |refine qc6 ?_
      |refine qee ?_
      |refine qc5 ?_
      |refine qeg (show X _ _ _ _ _ from ?_)
      |(refine qdd hN ?_;clear hN N)
      |(refine qa1 ?_;clear hN N)
      |(refine qam ?_;clear hN N)
      |refine qb3 ?_
      |refine qap ?_
      |refine qar ?_
      |refine qaj (by eq_refl) ?_
      |refine qda (h:= ?_)
      |refine qax (h:= ?_)
      |refine qa6 (h:= ?_)
      |refine qa4 (h:= ?_)
      |refine qes (h:= ?_)
      |refine qc7 (h:= ?_)
      |refine qbm (h:= ?_)
      |refine qbb (h:= ?_)
      |(refine qey (h:= ?_);intro g)
      |(refine qb8 (h:= ?_);intro g)
      |refine qb9 (h:= ?_)
      |refine qaw (h:= ?_)
      |refine qb7 (h:= ?_)
      |refine qc9 (h:= ?_)
      |refine qe5 (h:= ?_)
      |refine qe6 (h:= ?_)
      |refine qex (h:= ?_)
      |refine qew (h:= ?_)
      |refine qet (h:= ?_)
      |refine qbo (h:= ?_)
      |refine qbp (h:= ?_)
      |refine qeu (h:= ?_)
      |refine qep (h:= ?_)
      |refine qau (h:= ?_)
      |refine qe1 (h:= ?_)
      |refine qe3 (h:= ?_)
      |(refine qal (h:= ?_);intro g)
      |refine qah (h:= ?_)
      |refine qc_ (h:= ?_)
      |refine qb_ (h:= ?_)
      |(refine qev (by eq_refl) (by eq_refl) (qaz (by eq_refl)) (fun hask=> ?_) (fun hask=> ?_))
      |(refine qb5 (by eq_refl) (fun hif=> ?_) (fun hif=> ?_))
     )
    refine qch 2 (by eq_refl) (qch 3 (by eq_refl) (qch 4 (by eq_refl) (qch 5 (by eq_refl) (qch 7 (by eq_refl) (qch 8 (by eq_refl) (qch 9 (by eq_refl) (qlb ?_)))))))
    exact hN k _ _ (Nat.lt_succ_self k) ⟨_,_,_,_,_,_,_,_,by omega,rfl,rfl,lw1,lw0,ho,m2,m1,m0,D'⟩
  ·obtain ⟨D',hO⟩:=hin (by rw [hask,hif];rfl)
   obtain ⟨_,Q0,Q1,Q2,Q3⟩:=fin D' hO
   clear fin hin hout
   rcases hi with ⟨rfl,hk⟩ |⟨rfl,hk⟩ |⟨rfl,hk⟩ |⟨rfl,hk⟩
   ·obtain ⟨ho,hv⟩:=Q0 hk
    rw [←hv] at D'
    clear Q0 Q1 Q2 Q3
    repeat' (
     first
      |refine qcg (id:=13) [(998,.eff)] (by kernel_rfl) (by kernel_rfl) ?_
      |refine qb4 (fun N hN=> ?_)
      |refine qc4 ?_
      |refine qcg (id:=9) [(998,.eff)] (by kernel_rfl) (by kernel_rfl) ?_
      |refine qb2 ?_
      |refine qc6 ?_
      |refine qee ?_
      |refine qc5 ?_
      |refine qeg (show X _ _ _ _ _ from ?_)
      |(refine qdd hN ?_;clear hN N)
      |(refine qa1 ?_;clear hN N)
      |(refine qam ?_;clear hN N)
      |refine qb3 ?_
      |refine qap ?_
      |refine qar ?_
      |refine qaj (by eq_refl) ?_
      |refine qda (h:= ?_)
      |refine qax (h:= ?_)
      |refine qa6 (h:= ?_)
      |refine qa4 (h:= ?_)
      |refine qes (h:= ?_)
      |refine qc7 (h:= ?_)
      |refine qbm (h:= ?_)
      |refine qbb (h:= ?_)
      |(refine qey (h:= ?_);intro g)
      |(refine qb8 (h:= ?_);intro g)
      |refine qb9 (h:= ?_)
      |refine qaw (h:= ?_)
      |refine qb7 (h:= ?_)
      |refine qc9 (h:= ?_)
      |refine qe5 (h:= ?_)
      |refine qe6 (h:= ?_)
      |refine qex (h:= ?_)
      |refine qew (h:= ?_)
      |refine qet (h:= ?_)
      |refine qbo (h:= ?_)
      |refine qbp (h:= ?_)
      |refine qeu (h:= ?_)
      |refine qep (h:= ?_)
      |refine qau (h:= ?_)
      |refine qe1 (h:= ?_)
      |refine qe3 (h:= ?_)
      |(refine qal (h:= ?_);intro g)
      |refine qah (h:= ?_)
      |refine qc_ (h:= ?_)
      |refine qb_ (h:= ?_)
      |(refine qev (by eq_refl) (by eq_refl) (qaz (by eq_refl)) (fun hask=> ?_) (fun hask=> ?_))
      |(refine qb5 (by eq_refl) (fun hif=> ?_) (fun hif=> ?_))
     )
    refine qch 2 (by eq_refl) (qch 3 (by eq_refl) (qch 4 (by eq_refl) (qch 5 (by eq_refl) (qch 7 (by eq_refl) (qch 8 (by eq_refl) (qch 9 (by eq_refl) (qlb ?_)))))))
    exact hN k _ _ (Nat.lt_succ_self k) ⟨_,_,_,_,_,_,_,_,by omega,rfl,rfl,lw1,lw0,m3,m2,m1,ho,D'⟩
   ·obtain ⟨ho,hv⟩:=Q1 hk
    rw [←hv] at D'
    clear Q0 Q1 Q2 Q3
    repeat' (
     first
      |refine qcg (id:=13) [(998,.eff)] (by kernel_rfl) (by kernel_rfl) ?_
      |refine qb4 (fun N hN=> ?_)
      |refine qc4 ?_
      |refine qcg (id:=9) [(998,.eff)] (by kernel_rfl) (by kernel_rfl) ?_
      |refine qb2 ?_
      |refine qc6 ?_
      |refine qee ?_
      |refine qc5 ?_
      |refine qeg (show X _ _ _ _ _ from ?_)
      |(refine qdd hN ?_;clear hN N)
      |(refine qa1 ?_;clear hN N)
      |(refine qam ?_;clear hN N)
      |refine qb3 ?_
      |refine qap ?_
      |refine qar ?_
      |refine qaj (by eq_refl) ?_
      |refine qda (h:= ?_)
      |refine qax (h:= ?_)
      |refine qa6 (h:= ?_)
      |refine qa4 (h:= ?_)
      |refine qes (h:= ?_)
      |refine qc7 (h:= ?_)
      |refine qbm (h:= ?_)
      |refine qbb (h:= ?_)
      |(refine qey (h:= ?_);intro g)
      |(refine qb8 (h:= ?_);intro g)
      |refine qb9 (h:= ?_)
      |refine qaw (h:= ?_)
      |refine qb7 (h:= ?_)
      |refine qc9 (h:= ?_)
      |refine qe5 (h:= ?_)
      |refine qe6 (h:= ?_)
      |refine qex (h:= ?_)
      |refine qew (h:= ?_)
      |refine qet (h:= ?_)
      |refine qbo (h:= ?_)
      |refine qbp (h:= ?_)
      |refine qeu (h:= ?_)
      |refine qep (h:= ?_)
      |refine qau (h:= ?_)
      |refine qe1 (h:= ?_)
      |refine qe3 (h:= ?_)
      |(refine qal (h:= ?_);intro g)
      |refine qah (h:= ?_)
      |refine qc_ (h:= ?_)
      |refine qb_ (h:= ?_)
      |(refine qev (by eq_refl) (by eq_refl) (qaz (by eq_refl)) (fun hask=> ?_) (fun hask=> ?_))
      |(refine qb5 (by eq_refl) (fun hif=> ?_) (fun hif=> ?_))
     )
    refine qch 2 (by eq_refl) (qch 3 (by eq_refl) (qch 4 (by eq_refl) (qch 5 (by eq_refl) (qch 7 (by eq_refl) (qch 8 (by eq_refl) (qch 9 (by eq_refl) (qlb ?_)))))))
    exact hN k _ _ (Nat.lt_succ_self k) ⟨_,_,_,_,_,_,_,_,by omega,rfl,rfl,lw1,lw0,m3,m2,ho,m0,D'⟩
   ·obtain ⟨ho,hv⟩:=Q2 hk
    rw [←hv] at D'
    clear Q0 Q1 Q2 Q3
    repeat' (
     first
      |refine qcg (id:=13) [(998,.eff)] (by kernel_rfl) (by kernel_rfl) ?_
      |refine qb4 (fun N hN=> ?_)
      |refine qc4 ?_
      |refine qcg (id:=9) [(998,.eff)] (by kernel_rfl) (by kernel_rfl) ?_
      |refine qb2 ?_
      |refine qc6 ?_
      |refine qee ?_
      |refine qc5 ?_
      |refine qeg (show X _ _ _ _ _ from ?_)
      |(refine qdd hN ?_;clear hN N)
      |(refine qa1 ?_;clear hN N)
      |(refine qam ?_;clear hN N)
      |refine qb3 ?_
      |refine qap ?_
      |refine qar ?_
      |refine qaj (by eq_refl) ?_
      |refine qda (h:= ?_)
      |refine qax (h:= ?_)
      |refine qa6 (h:= ?_)
      |refine qa4 (h:= ?_)
      |refine qes (h:= ?_)
      |refine qc7 (h:= ?_)
      |refine qbm (h:= ?_)
      |refine qbb (h:= ?_)
      |(refine qey (h:= ?_);intro g)
      |(refine qb8 (h:= ?_);intro g)
      |refine qb9 (h:= ?_)
      |refine qaw (h:= ?_)
      |refine qb7 (h:= ?_)
      |refine qc9 (h:= ?_)
      |refine qe5 (h:= ?_)
      |refine qe6 (h:= ?_)
      |refine qex (h:= ?_)
      |refine qew (h:= ?_)
      |refine qet (h:= ?_)
      |refine qbo (h:= ?_)
      |refine qbp (h:= ?_)
      |refine qeu (h:= ?_)
      |refine qep (h:= ?_)
      |refine qau (h:= ?_)
      |refine qe1 (h:= ?_)
      |refine qe3 (h:= ?_)
      |(refine qal (h:= ?_);intro g)
      |refine qah (h:= ?_)
      |refine qc_ (h:= ?_)
      |refine qb_ (h:= ?_)
      |(refine qev (by eq_refl) (by eq_refl) (qaz (by eq_refl)) (fun hask=> ?_) (fun hask=> ?_))
      |(refine qb5 (by eq_refl) (fun hif=> ?_) (fun hif=> ?_))
     )
    refine qch 2 (by eq_refl) (qch 3 (by eq_refl) (qch 4 (by eq_refl) (qch 5 (by eq_refl) (qch 7 (by eq_refl) (qch 8 (by eq_refl) (qch 9 (by eq_refl) (qlb ?_)))))))
    exact hN k _ _ (Nat.lt_succ_self k) ⟨_,_,_,_,_,_,_,_,by omega,rfl,rfl,lw1,lw0,m3,ho,m1,m0,D'⟩
   ·obtain ⟨ho,hv⟩:=Q3 hk
    rw [←hv] at D'
    clear Q0 Q1 Q2 Q3
    repeat' (
     first
      |refine qcg (id:=13) [(998,.eff)] (by kernel_rfl) (by kernel_rfl) ?_
      |refine qb4 (fun N hN=> ?_)
      |refine qc4 ?_
      |refine qcg (id:=9) [(998,.eff)] (by kernel_rfl) (by kernel_rfl) ?_
      |refine qb2 ?_
      |refine qc6 ?_
      |refine qee ?_
      |refine qc5 ?_
      |refine qeg (show X _ _ _ _ _ from ?_)
      |(refine qdd hN ?_;clear hN N)
      |(refine qa1 ?_;clear hN N)
      |(refine qam ?_;clear hN N)
      |refine qb3 ?_
      |refine qap ?_
      |refine qar ?_
      |refine qaj (by eq_refl) ?_
      |refine qda (h:= ?_)
      |refine qax (h:= ?_)
      |refine qa6 (h:= ?_)
      |refine qa4 (h:= ?_)
      |refine qes (h:= ?_)
      |refine qc7 (h:= ?_)
      |refine qbm (h:= ?_)
      |refine qbb (h:= ?_)
      |(refine qey (h:= ?_);intro g)
      |(refine qb8 (h:= ?_);intro g)
      |refine qb9 (h:= ?_)
      |refine qaw (h:= ?_)
      |refine qb7 (h:= ?_)
      |refine qc9 (h:= ?_)
      |refine qe5 (h:= ?_)
      |refine qe6 (h:= ?_)
      |refine qex (h:= ?_)
      |refine qew (h:= ?_)
      |refine qet (h:= ?_)
      |refine qbo (h:= ?_)
      |refine qbp (h:= ?_)
      |refine qeu (h:= ?_)
      |refine qep (h:= ?_)
      |refine qau (h:= ?_)
      |refine qe1 (h:= ?_)
      |refine qe3 (h:= ?_)
      |(refine qal (h:= ?_);intro g)
      |refine qah (h:= ?_)
      |refine qc_ (h:= ?_)
      |refine qb_ (h:= ?_)
      |(refine qev (by eq_refl) (by eq_refl) (qaz (by eq_refl)) (fun hask=> ?_) (fun hask=> ?_))
      |(refine qb5 (by eq_refl) (fun hif=> ?_) (fun hif=> ?_))
     )
    refine qch 2 (by eq_refl) (qch 3 (by eq_refl) (qch 4 (by eq_refl) (qch 5 (by eq_refl) (qch 7 (by eq_refl) (qch 8 (by eq_refl) (qch 9 (by eq_refl) (qlb ?_)))))))
    exact hN k _ _ (Nat.lt_succ_self k) ⟨_,_,_,_,_,_,_,_,by omega,rfl,rfl,lw1,lw0,ho,m2,m1,m0,D'⟩
  ·have D':=hout hask (by cases ls<;>simp_all)
   clear fin hin hout
   refine qch 2 (by eq_refl) (qch 3 (by eq_refl) (qch 4 (by eq_refl) (qch 5 (by eq_refl) (qch 7 (by eq_refl) (qch 8 (by eq_refl) (qch 9 (by eq_refl) (qlb ?_)))))))
   exact hN k _ _ (Nat.lt_succ_self k) ⟨_,_,_,_,_,_,_,_,by omega,rfl,rfl,b1,b0,m3,m2,m1,m0,D'⟩
theorem q2_ (a:Four) (b:Two) (hb:b.n≠0):Pure Tryz.prog 135 #[a.v,b.v] (.tuple #[(Four.of (a.n / b.n)).v,(Two.of (a.n % b.n)).v,.bool true]):=by
 obtain ⟨⟨x3,x2,hx⟩,⟨x1,x0,hx'⟩⟩:=a
 obtain ⟨y1,y0,hy⟩:=b
 obtain ⟨a3,rfl⟩:=Int.eq_ofNat_of_zero_le hx.1
 obtain ⟨a2,rfl⟩:=Int.eq_ofNat_of_zero_le hx.2.2.1
 obtain ⟨a1,rfl⟩:=Int.eq_ofNat_of_zero_le hx'.1
 obtain ⟨a0,rfl⟩:=Int.eq_ofNat_of_zero_le hx'.2.2.1
 obtain ⟨b1,rfl⟩:=Int.eq_ofNat_of_zero_le hy.1
 obtain ⟨b0,rfl⟩:=Int.eq_ofNat_of_zero_le hy.2.2.1
 have hne:¬qbc b1 b0=0:=hb
 refine zgx (by omega) (by omega) (by omega) (by omega) (by omega) (by omega) hne (qsb ⟨⟨a3,a2,hx⟩,⟨a1,a0,hx'⟩⟩) (zft ⟨⟨a3,a2,hx⟩,⟨a1,a0,hx'⟩⟩) ?_ ?_
 ·rw [Bool.eq_false_iff]
  intro h
  simp only [Bool.and_eq_true,beq_iff_eq] at h
  apply hne
  unfold qbc
  omega
 ·have:qgz (qbr a3 a2 a1 a0)≤256:=(qiv _ _).2 (by have:=q9u (a:=a3) (b:=a2) (c:=a1) (d:=a0) (by omega) (by omega) (by omega) (by omega);simpa using this)
  rw [IntKind.wrap_i64];omega
end Go.Proofs.YtilkebpcjklmfaaGreat.Own
namespace Go.Proofs.YtilkebpcjklmfaaGreat.Own
open Go Go.RowKit Go.Proofs Go.Proofs.YtilkebpcjklmfaaGreat.Plain
open Go.Proofs.YtilkebpcjklmfaaGreat.Limb (n2 n4)
set_option maxRecDepth 100000
set_option maxHeartbeats 40000000
def kTw:Sh:= .agg [some .u64,some .u64]
def kFo:Sh:= .agg [some .u64,some .u64,some .u64,some .u64]
def zdg (xs:List Int):Nat:=n4 (xs.getD 0 0) (xs.getD 1 0) (xs.getD 2 0) (xs.getD 3 0)
def q9t (xs:List Int):Nat:=n2 (xs.getD 4 0) (xs.getD 5 0)
def yb5 (xs:List Int):List Int:=if q9t xs=0 then [0,0,0,0,0,0,0] else
 [(Four.of (zdg xs / q9t xs)).hi.hi,(Four.of (zdg xs / q9t xs)).hi.lo,(Four.of (zdg xs / q9t xs)).lo.hi,(Four.of (zdg xs / q9t xs)).lo.lo,(Two.of (zdg xs % q9t xs)).hi,(Two.of (zdg xs % q9t xs)).lo,1]
theorem qqk (a:Two):inK (some .u64) a.hi∧inK (some .u64) a.lo:=by
 have:=a.b
 constructor
 ·show IntKind.u64.wrap a.hi=a.hi;rw [IntKind.wrap_u64];omega
 ·show IntKind.u64.wrap a.lo=a.lo;rw [IntKind.wrap_u64];omega
theorem in6 {a b c d e f:Option IntKind} {xs:List Int} (h:InC [a,b,c,d,e,f] xs):∃x0 x1 x2 x3 x4 x5,xs=[x0,x1,x2,x3,x4,x5]∧(inK a x0∧inK b x1∧inK c x2∧inK d x3)∧inK e x4∧inK f x5:=by
 match xs,h with
 |[x0,x1,x2,x3,x4,x5],h=>exact ⟨x0,x1,x2,x3,x4,x5,rfl,⟨h.1,h.2.1,h.2.2.1,h.2.2.2.1⟩,h.2.2.2.2.1,h.2.2.2.2.2.1⟩
theorem div_zero {a b c d:Int} (ha:inK (some .u64) a) (hb:inK (some .u64) b) (hc:inK (some .u64) c) (hd:inK (some .u64) d):Pure Tryz.prog 135 #[.agg #[.int .u64 a,.int .u64 b,.int .u64 c,.int .u64 d],.agg #[.int .u64 0,.int .u64 0]] (.tuple #[.agg #[.int .u64 0,.int .u64 0,.int .u64 0,.int .u64 0],.agg #[.int .u64 0,.int .u64 0],.bool false]):=by
 have rel:∀(j:Nat) (x:Int),(qaa (FT []) [a,b,c,d]).iv j=x→inK (some .u64) x→RelC (eV (qaa (FT []) [a,b,c,d])) [] (.opq (.ivar .u64 j)) (.int .u64 x):=fun j x h hk=>by
  have:=qbu (e:=qaa (FT []) [a,b,c,d]) (σ:=[]) (.ivar .u64 j)
  rw [qne (k:=some .u64) rfl] at this
  have e:qf2 (some .u64) ((SE.ivar .u64 j).val (qaa (FT []) [a,b,c,d]))= .int .u64 x:=by
   simp only [SE.val,h]
   show Value.int .u64 (IntKind.u64.wrap x)=_
   rw [show IntKind.u64.wrap x=x from hk]
  rwa [e] at this
 exact qmm (c:=cfT bW [] []) (d:=300) (vs:=[.agg [.opq (.ivar .u64 0),.opq (.ivar .u64 1),.opq (.ivar .u64 2),.opq (.ivar .u64 3)],.agg [.int .u64 0,.int .u64 0]]) (v:= .tup [.agg [.int .u64 0,.int .u64 0,.int .u64 0,.int .u64 0],.agg [.int .u64 0,.int .u64 0],.one (.bool false)]) (okT qbi bW_l qvk rfl .nil) (by kernel_rfl)
  (.cons (.agg (.cons (rel 0 a rfl ha) (.cons (rel 1 b rfl hb) (.cons (rel 2 c rfl hc) (.cons (rel 3 d rfl hd) .nil))))) (.cons (.agg (.cons .int (.cons .int .nil))) .nil))
  (.tup (.cons (.agg (.cons .int (.cons .int (.cons .int (.cons .int .nil))))) (.cons (.agg (.cons .int (.cons .int .nil))) (.cons (.one .bool) .nil))))
theorem zt1:CTE Tryz.prog (fun xs=>yb5 xs) 135 [kFo,kTw] (.tup [kFo,kTw,.one none]):=fun xs h=>by
 obtain ⟨x0,x1,x2,x3,x4,x5,rfl,⟨h0,h1,h2,h3⟩,h4,h5⟩:=in6 h
 have b0:=qdr h0
 have b1:=qdr h1
 have b2:=qdr h2
 have b3:=qdr h3
 have b4:=qdr h4
 have b5:=qdr h5
 show InC _ (yb5 _)∧Pure Tryz.prog _ _ (qui _ (yb5 _))
 unfold yb5
 by_cases hz:q9t [x0,x1,x2,x3,x4,x5]=0
 ·rw [if_pos hz]
  have hz':n2 x4 x5=0:=hz
  unfold n2 qbc at hz'
  obtain rfl:x4=0:=by omega
  obtain rfl:x5=0:=by omega
  exact ⟨⟨rfl,rfl,rfl,rfl,rfl,rfl,.inl rfl,trivial⟩,div_zero h0 h1 h2 h3⟩
 ·rw [if_neg hz]
  have hp:=q2_ ⟨⟨x0,x1,by omega⟩,⟨x2,x3,by omega⟩⟩ ⟨x4,x5,by omega⟩ hz
  obtain ⟨i1,i2⟩:=qqk (Four.of (zdg [x0,x1,x2,x3,x4,x5] / q9t [x0,x1,x2,x3,x4,x5])).hi
  obtain ⟨i3,i4⟩:=qqk (Four.of (zdg [x0,x1,x2,x3,x4,x5] / q9t [x0,x1,x2,x3,x4,x5])).lo
  obtain ⟨i5,i6⟩:=qqk (Two.of (zdg [x0,x1,x2,x3,x4,x5] % q9t [x0,x1,x2,x3,x4,x5]))
  exact ⟨⟨i1,i2,i3,i4,i5,i6,.inr rfl,trivial⟩,hp⟩
def twA (xs:List Int):Nat:=n2 (xs.getD 0 0) (xs.getD 1 0)
def twB (xs:List Int):Nat:=n2 (xs.getD 2 0) (xs.getD 3 0)
def z11 (xs:List Int):List Int:=[(Two.of (twA xs+twB xs)).hi,(Two.of (twA xs+twB xs)).lo,b2i (decide (340282366920938463463374607431768211456≤twA xs+twB xs))]
def qws (xs:List Int):List Int:=[(Two.of (twA xs+340282366920938463463374607431768211456 - twB xs)).hi,(Two.of (twA xs+340282366920938463463374607431768211456 - twB xs)).lo,b2i (decide (twA xs<twB xs))]
def gLen (xs:List Int):List Int:=[((qgz (zdg xs):Nat):Int)]
theorem zo8 (b:Bool):inK none (b2i b):=by cases b;exact .inl rfl;exact .inr rfl
theorem zob (t:Two) (d:Bool):qui (.tup [kTw,.one none]) [t.hi,t.lo,b2i d]= .tuple #[t.v,.bool d]:=by cases d<;>rfl
theorem tw_n {x y:Int} (h:0≤x∧x<18446744073709551616∧0≤y∧y<18446744073709551616):(⟨x,y,h⟩:Two).n=n2 x y:=rfl
theorem fo_n {x y z t:Int} (h:0≤x∧x<18446744073709551616∧0≤y∧y<18446744073709551616) (h':0≤z∧z<18446744073709551616∧0≤t∧t<18446744073709551616):(⟨⟨x,y,h⟩,⟨z,t,h'⟩⟩:Four).n=n4 x y z t:=rfl
theorem zl5:CTE Tryz.prog z11 116 [kTw,kTw] (.tup [kTw,.one none]):=fun xs h=>by
 obtain ⟨x0,x1,x2,x3,rfl,h0,h1,h2,h3⟩:=in4 h
 have b0:=qdr h0
 have b1:=qdr h1
 have b2:=qdr h2
 have b3:=qdr h3
 have hp:=qlt ⟨x0,x1,by omega⟩ ⟨x2,x3,by omega⟩
 rw [tw_n,tw_n] at hp
 unfold z11
 rw [show twA [x0,x1,x2,x3]=n2 x0 x1 from rfl,show twB [x0,x1,x2,x3]=n2 x2 x3 from rfl]
 generalize decide (340282366920938463463374607431768211456≤n2 x0 x1+n2 x2 x3)=d at *
 generalize Two.of (n2 x0 x1+n2 x2 x3)=t at *
 obtain ⟨i1,i2⟩:=qqk t
 refine ⟨⟨i1,i2,zo8 _,trivial⟩,?_⟩
 rw [zob];exact hp
theorem zit:CTE Tryz.prog qws 119 [kTw,kTw] (.tup [kTw,.one none]):=fun xs h=>by
 obtain ⟨x0,x1,x2,x3,rfl,h0,h1,h2,h3⟩:=in4 h
 have b0:=qdr h0
 have b1:=qdr h1
 have b2:=qdr h2
 have b3:=qdr h3
 have hp:=qke ⟨x0,x1,by omega⟩ ⟨x2,x3,by omega⟩
 rw [tw_n,tw_n] at hp
 unfold qws
 rw [show twA [x0,x1,x2,x3]=n2 x0 x1 from rfl,show twB [x0,x1,x2,x3]=n2 x2 x3 from rfl]
 generalize decide (n2 x0 x1<n2 x2 x3)=d at *
 generalize Two.of (n2 x0 x1+340282366920938463463374607431768211456 - n2 x2 x3)=t at *
 obtain ⟨i1,i2⟩:=qqk t
 refine ⟨⟨i1,i2,zo8 _,trivial⟩,?_⟩
 rw [zob];exact hp
theorem zu5:CTE Tryz.prog gLen 128 [kFo] (.one (.one (some .i64))):=fun xs h=>by
 obtain ⟨x0,x1,x2,x3,rfl,h0,h1,h2,h3⟩:=in4 h
 have b0:=qdr h0
 have b1:=qdr h1
 have b2:=qdr h2
 have b3:=qdr h3
 have hp:=qsb ⟨⟨x0,x1,by omega⟩,⟨x2,x3,by omega⟩⟩
 have hlt:=Four.lt ⟨⟨x0,x1,by omega⟩,⟨x2,x3,by omega⟩⟩
 rw [fo_n] at hp hlt
 unfold gLen
 rw [show zdg [x0,x1,x2,x3]=n4 x0 x1 x2 x3 from rfl]
 have h256:qgz (n4 x0 x1 x2 x3)≤256:=(qiv _ _).2 (by simpa using hlt)
 generalize qgz (n4 x0 x1 x2 x3)=n at *
 refine ⟨⟨?_,trivial⟩,hp⟩
 show IntKind.i64.wrap ((n:Nat):Int)=_
 rw [IntKind.wrap_i64];omega
def zlj:List Ent:=⟨135,[kFo,kTw],.tup [kFo,kTw,.one none],fun _ xs=>yb5 xs,false⟩::⟨116,[kTw,kTw],.tup [kTw,.one none],fun _=>z11,false⟩::⟨119,[kTw,kTw],.tup [kTw,.one none],fun _=>qws,false⟩::⟨128,[kFo],.one (.one (some .i64)),fun _=>gLen,false⟩::q4r
theorem yb4:qcd Tryz.prog zlj:=qih (qih (qih (qih z7i rfl (by kernel_rfl) zu5) rfl (by kernel_rfl) zit) rfl (by kernel_rfl) zl5) rfl (by kernel_rfl) zt1
end Go.Proofs.YtilkebpcjklmfaaGreat.Own
namespace Go.Proofs.YtilkebpcjklmfaaGreat.Own
open Go Go.RowKit Go.Proofs Go.ChangeShapes Go.WideShapes Go.ChangeAt
set_option maxRecDepth 100000
set_option maxHeartbeats 40000000
inductive Lf where
 |num (k:Option IntKind)
 |sl (e:TypeId) (ks:Ks)
 deriving DecidableEq
def qnr:List Lf→Option Ks
 |[]=>some []
 | .num k::r=>(match qnr r with |some l=>some (k::l) |none=>none)
 | .sl _ _::_=>none
def znj (P:Program) (g:TypeId→Option (List Lf)):Nat→List Field→Option (List Lf)
 |_,[]=>some []
 |o,f::r=>(match g f.type with
  |some l=>bif decide (f.offset=o)&&decide (P.cellsOf f.type=l.length) then (match znj P g (o+l.length) r with |some m=>some (l++m) |none=>none) else none
  |none=>none)
def z27 (P:Program):Nat→TypeId→Option (List Lf)
 |0,_=>none
 |d+1,t=>match P.underlying t with
  |some (.int k)=>some [.num (some k)]
  |some .bool=>some [.num none]
  |some (.slice e)=>(match z27 P d e with
   |some l=>(match qnr l with |some ks=>bif decide (P.cellsOf e=ks.length) then some [.sl e ks] else none |none=>none)
   |none=>none)
  |some (.struct fs)=>(match znj P (z27 P d) 0 fs.toList with |some l=>bif decide (P.cellsOf t=l.length) then some l else none |none=>none)
  |_=>none
structure SlR (w:World) (ks:Ks) (v:Value) (rows:List (List Int)) (s:Nat×Nat×Nat):Prop where
 v:v=slV rows.length s.1 s.2.1 s.2.2
 n:s.2.2=0→rows=[]
 l:rows.length≤maxLen
 c:∀j u,(qbh ks rows)[j]? =some u→s.1<w.heap.size∧w.cell? ⟨s.1,s.2.1+j,none⟩=some u
inductive LfsOK (w:World):List Lf→List Value→List Int→List (Nat×Nat×Nat)→Prop where
 |nil:LfsOK w [] [] [] []
 |num {k x ls cs xs ss} (h:inK k x) (t:LfsOK w ls cs xs ss):LfsOK w (.num k::ls) (qf2 k x::cs) (x::xs) ss
 |sl {e ks v rows s ls cs xs ss} (h:SlR w ks v rows s) (t:LfsOK w ls cs xs ss):LfsOK w (.sl e ks::ls) (v::cs) (enc rows::xs) (s::ss)
theorem LfsOK.app {w:World}:∀{ls ls':List Lf} {cs cs':List Value} {xs xs':List Int} {ss ss':List (Nat×Nat×Nat)},LfsOK w ls cs xs ss→LfsOK w ls' cs' xs' ss'→LfsOK w (ls++ls') (cs++cs') (xs++xs') (ss++ss')
 |_,_,_,_,_,_,_,_,.nil,h=>h
 |_,_,_,_,_,_,_,_,.num h t,h'=> .num h (LfsOK.app t h')
 |_,_,_,_,_,_,_,_,.sl h t,h'=> .sl h (LfsOK.app t h')
theorem LfsOK.len {w:World}:∀{ls:List Lf} {cs:List Value} {xs:List Int} {ss:List (Nat×Nat×Nat)},LfsOK w ls cs xs ss→xs.length=ls.length∧cs.length=ls.length
 |_,_,_,_,.nil=>⟨rfl,rfl⟩
 |_,_,_,_,.num h t=>by have:=t.len;simp [this]
 |_,_,_,_,.sl h t=>by have:=t.len;simp [this]
theorem LfsOK.nums {w:World}:∀{ls:List Lf} {ks:Ks} {cs:List Value} {xs:List Int} {ss:List (Nat×Nat×Nat)},qnr ls=some ks→LfsOK w ls cs xs ss→InC ks xs∧∀(j:Nat) (el:List Int),(∀i,i<xs.length→el.getD (j+i) 0=xs.getD i 0)→qgh ks j el=cs
 |[],ks,_,_,_,h,hl=>by cases h;cases hl;exact ⟨trivial,fun _ _ _=>rfl⟩
 | .num k::ls,ks,cs,xs,ss,h,hl=>by
  cases hl with |num hk t=>
  simp only [qnr] at h
  split at h
  ·rename_i l hl;cases h
   obtain ⟨h1,h2⟩:=LfsOK.nums hl t
   refine ⟨⟨hk,h1⟩,fun j el he=> ?_⟩
   have e0:=he 0 (by simp)
   simp only [Nat.add_zero,List.getD_cons_zero] at e0
   rw [qgh,e0,q1d hk,h2 (j+1) el fun i hi=>by
    have:=he (i+1) (by simp;omega)
    rw [show j+1+i=j+(i+1) by omega];simpa using this]
  ·cases h
 | .sl _ _::_,ks,_,_,_,h,_=>by cases h
theorem qoj:∀{a b:List Lf},(qnr (a++b)).isSome=true→(qnr a).isSome=true∧(qnr b).isSome=true
 |[],b,h=>⟨rfl,h⟩
 | .num k::a,b,h=>by
  simp only [List.cons_append,qnr] at h ⊢
  cases hn:qnr (a++b) with
  |none=>rw [hn] at h;cases h
  |some l=>
   obtain ⟨h1,h2⟩:=qoj (a:=a) (b:=b) (by rw [hn];rfl)
   refine ⟨?_,h2⟩
   cases ha:qnr a with
   |none=>rw [ha] at h1;cases h1
   |some l=>rfl
 | .sl _ _::a,b,h=>by cases h
theorem wf_in {k:IntKind} {n:Int} (h:(Lit.int k n).wf=true):k.wrap n=n:=by
 simp only [Lit.wf,Bool.and_eq_true,decide_eq_true_eq] at h
 obtain ⟨h1,h2⟩:=h
 cases k<;>simp only [IntKind.min,IntKind.max,IntKind.wrap,IntKind.bits,IntKind.signed] at h1 h2 ⊢<;>simp at h1 h2 ⊢<;>(try split)<;>omega
def q8h (v:Value):Prop:=∀a n c,v= .slice (some a) n c→a.spot=none
section
variable {H:Type} {enc':TypeId×Value→H} {P:Program} {w:World} {base:Nat} {sp:Nat→Bool} {held:Bool}
theorem cells?_get {a:Addr} {n:Nat} {cs:List Value} (h:w.cells? base a n=some cs):cs.length=n∧∀i,i<n→w.cell? (a.add i)=cs[i]? :=by
 have:=World.cells?_some h
 exact ⟨this.2.1,this.2.2⟩
theorem zdh {ks:Ks} {a:Addr}:∀(n:Nat),(∀i,i<n→∃row:List Int,∀r,r<ks.length→w.cell? (a.add (i * ks.length+r))=(qgh ks 0 row)[r]?)→∃rows:List (List Int),rows.length=n∧∀j u,(qbh ks rows)[j]? =some u→w.cell? (a.add j)=some u
 |0,_=>⟨[],rfl,fun j u h=>by simp [qbh] at h⟩
 |n+1,h=>by
  obtain ⟨rows,h1,h2⟩:=zdh n fun i hi=>h i (by omega)
  obtain ⟨row,hr⟩:=h n (by omega)
  refine ⟨rows++[row],by simp [h1],fun j u hj=> ?_⟩
  rw [qli,qd6,show qbh ks []=[] from rfl,List.append_nil] at hj
  by_cases hjl:j<(qbh ks rows).length
  ·rw [List.getElem?_append_left hjl] at hj;exact h2 j u hj
  ·rw [List.getElem?_append_right (by omega)] at hj
   have hl:=qdi ks rows
   rw [h1] at hl
   have hjr:j - (qbh ks rows).length<ks.length:=by have:=(List.getElem?_eq_some_iff.1 hj).1;rwa [qeq] at this
   have:=hr (j - (qbh ks rows).length) hjr
   rw [hj,hl] at this
   rw [show n * ks.length+(j - n * ks.length)=j by omega] at this
   exact this
theorem qrv:∀(d:Nat) {t:TypeId} {ls:List Lf} {fuel:Nat} {cs:List Value} {x:DataW H×List MemPlace},z27 P d t=some ls→DataW.trod enc' P w base sp held fuel t cs=some x→((qnr ls).isSome=true∨∀v∈cs,q8h v)→∃xs ss,LfsOK w ls cs xs ss
 |0,_,_,_,_,_,h,_,_=>by cases h
 |d+1,t,ls,fuel,cs,x,h,ht,hs=>by
  unfold z27 at h
  split at h
  ·rename_i k hu;cases h
   obtain ⟨n,rfl,_,hw⟩:=DataW.trod_int hu ht
   exact ⟨[n],[],.num (k:=some k) (wf_in hw) .nil⟩
  ·rename_i hu;cases h
   obtain ⟨b,rfl,_⟩:=DataW.trod_bool hu ht
   have e:Value.bool b=qf2 none (b2i b):=by simp only [qf2,qas]
   rw [e]
   exact ⟨[b2i b],[],.num (k:=none) (by cases b;exact .inl rfl;exact .inr rfl) .nil⟩
  ·rename_i e hu
   split at h
   ·rename_i l hl
    split at h
    ·rename_i ks hks
     cases hb:decide (P.cellsOf e=ks.length) with
     |false=>rw [hb,cond_false] at h;cases h
     |true=>
      rw [hb,cond_true] at h;cases h
      have hsz:=of_decide_eq_true hb
      rcases DataW.trod_slice hu ht with ⟨rfl,_⟩ |⟨a,len,cap,elems,rest,n,_,rfl,_,_,hle,hcm,hlen,hel,_⟩
      ·refine ⟨[enc []],[(0,0,0)],.sl (rows:=[]) ⟨rfl,fun _=>rfl,Nat.zero_le _,fun j u hj=>by simp [qbh] at hj⟩ .nil⟩
      ·have hspot:a.spot=none:=by
        rcases hs with hs |hs
        ·cases hs
        ·exact hs _ (.head _) a len cap rfl
       have ha:∀j,a.add j=⟨a.block,a.off+j,none⟩:=fun j=>by
        cases a;simp only at hspot;subst hspot;exact qds _ _ _
       obtain ⟨rows,r1,r2⟩:=zdh (w:=w) (ks:=ks) (a:=a) len fun i hi=>by
        have:=hel i hi
        have hsome:∃y,elems[i]? =some y:=⟨_,List.getElem?_eq_getElem (by omega)⟩
        obtain ⟨y,hy⟩:=hsome
        rw [hy,Option.bind_eq_some_iff] at this
        obtain ⟨ecs,c1,c2⟩:=this
        rw [hsz] at c1
        obtain ⟨g1,g2⟩:=cells?_get c1
        obtain ⟨xs,ss,hlf⟩:=qrv d hl c2 (.inl (by rw [hks];rfl))
        obtain ⟨_,q2⟩:=LfsOK.nums hks hlf
        refine ⟨xs,fun r hr=> ?_⟩
        have q3:=q2 0 xs fun i _=>by rw [Nat.zero_add]
        rw [q3]
        have:=g2 r hr
        have e3:a.add (i * ks.length+r)=(a.add (i * ks.length)).add r:=by rw [ha,ha,qds,Nat.add_assoc]
        rw [e3];exact this
       refine ⟨[enc rows],[(a.block,a.off,2 * cap+1)],.sl (rows:=rows) ⟨?_,fun q=>by simp at q,by omega,fun j u hj=> ?_⟩ .nil⟩
       ·unfold slV
        rw [if_neg (by simp),r1]
        have e1:(2 * cap+1) / 2=cap:=by omega
        have e2:a=⟨a.block,a.off,none⟩:=by cases a;simp only at hspot;subst hspot;rfl
        simp only [e1]
        rw [←e2]
       ·have:=r2 j u hj
        rw [ha] at this
        exact ⟨World.block_lt_of_cell? w ⟨a.block,a.off+j,none⟩ this,this⟩
    ·cases h
   ·cases h
  ·rename_i fs hu
   obtain ⟨xs,n,_,_,hl,hlen,hf⟩:=DataW.trod_struct hu ht
   split at h
   rotate_left
   ·cases h
   rename_i l0 h0
   cases hbc:decide (P.cellsOf t=l0.length) with
   |false=>rw [hbc,cond_false] at h;cases h
   |true=>
   rw [hbc,cond_true] at h;cases h
   have hcell:=of_decide_eq_true hbc
   have key:∀(r:List Field) (o:Nat) (ls:List Lf),znj P (z27 P d) o r=some ls→((qnr ls).isSome=true∨∀v∈cs,q8h v)→(∀f∈r,∃y,DataW.trod enc' P w base sp held n f.type ((cs.drop f.offset).take (P.cellsOf f.type))=some y)→∃xs ss,LfsOK w ls ((cs.drop o).take ls.length) xs ss:=by
    intro r
    induction r with
    |nil=>intro o ls h _ _;cases h;exact ⟨[],[],by simpa using .nil⟩
    |cons f r ih=>
     intro o ls h hs hy
     simp only [znj] at h
     split at h
     ·rename_i l hl2
      cases hb:(decide (f.offset=o)&&decide (P.cellsOf f.type=l.length)) with
      |false=>rw [hb,cond_false] at h;cases h
      |true=>
       rw [hb,cond_true] at h
       simp only [Bool.and_eq_true,decide_eq_true_eq] at hb
       obtain ⟨h1,h2⟩:=hb
       split at h
       ·rename_i m hm
        cases h
        obtain ⟨y,hy1⟩:=hy f (.head _)
        rw [h1,h2] at hy1
        obtain ⟨x1,s1,q1⟩:=qrv d hl2 hy1 (hs.imp (fun q=>(qoj q).1) fun q v hv=>q v (List.mem_of_mem_drop (List.mem_of_mem_take hv)))
        obtain ⟨x2,s2,q2⟩:=ih _ m hm (hs.imp (fun q=>(qoj q).2) id) fun f hf=>hy f (.tail _ hf)
        refine ⟨x1++x2,s1++s2,?_⟩
        have:=q1.app q2
        rw [←List.drop_drop] at this
        rw [List.length_append,List.take_add]
        exact this
       ·cases h
     ·cases h
   obtain ⟨xs',ss,hq⟩:=key fs.toList 0 ls h0 hs fun f hm=>by
    obtain ⟨i,hi⟩:=List.getElem?_of_mem hm
    have hi2:fs[i]? =some f:=by simpa using hi
    have:=hf i f hi2
    have hil:i<xs.length:=by rw [hlen];exact (Array.getElem?_eq_some_iff.1 hi2).1
    exact ⟨_,by rw [this];exact List.getElem?_eq_getElem hil⟩
   have hcl:cs.length=ls.length:=by rw [hl,hcell]
   rw [List.drop_zero,List.take_of_length_le (by omega)] at hq
   exact ⟨xs',ss,hq⟩
  ·cases h
end
def symL:List Lf→Nat→Nat→List C
 |[],_,_=>[]
 | .num (some q)::r,j,k=> .opq (.ivar q j)::symL r (j+1) k
 | .num none::r,j,k=> .opq (.bvar j)::symL r (j+1) k
 | .sl _ _::r,j,k=> .sli k (.lvar j)::symL r (j+1) (k+1)
def symF:List Lf→Nat→Nat→MB
 |[],_,_=>[]
 | .num _::r,j,k=>symF r (j+1) k
 | .sl e ks::r,j,k=>(k,[.big (.lvar j) ks],e,false)::symF r (j+1) (k+1)
section
variable {E:Env} {σ:List (Nat×Nat×Nat)} {P:Program} {w:World}
theorem z77 {k:Nat} {x:SE} {ks:Ks} {T:TypeId} {m:MB} (h:FR P E σ [m] w) {g b c:Nat} (hk:σ[k]? =some (g,b,c)) (hl:(x.lst E).length≤maxLen) (h0:c=0→x.lst E=[]) (hc:∀(j:Nat) (v:Value),(qbh ks (x.lst E))[j]? =some v→g<w.heap.size∧w.cell? ⟨g,b+j,none⟩=some v):
  FR P E σ [(k,[.big x ks],T,false)::m] w:=by
 refine ⟨fun k' cs T' o hk'=> ?_,fun k' y ks' T' hk'=> ?_⟩
 ·simp only [lkM,lkB,qjx,cond_true] at hk'
  cases hb:Nat.beq k k' with
  |true=>simp only [hb,cond_true] at hk';cases hk'
  |false=>simp only [hb,cond_false] at hk';exact h.n k' cs T' o (by simp only [lkM];exact hk')
 ·simp only [qtf,lkL] at hk'
  cases hb:Nat.beq k k' with
  |true=>
   simp only [hb,cond_true,Option.some.injEq,Prod.mk.injEq] at hk'
   obtain ⟨rfl,rfl,rfl⟩:=hk'
   rw [←Nat.eq_of_beq_eq_true hb]
   exact ⟨g,b,c,hk,hl,h0,hc⟩
  |false=>simp only [hb,cond_false] at hk';exact h.l k' y ks' T' (by simp only [qtf];exact hk')
theorem qr7:∀{ls:List Lf} {cs:List Value} {xs:List Int} {ss:List (Nat×Nat×Nat)},LfsOK w ls cs xs ss→∀(j k:Nat),(∀i,i<xs.length→E.iv (j+i)=xs.getD i 0∧E.bv (j+i)=(xs.getD i 0 !=0))→(∀i x,ss[i]? =some x→σ[k+i]? =some x)→RelCs E σ (symL ls j k) cs∧FR P E σ [symF ls j k] w
 |_,_,_,_,.nil,j,k,_,_=>⟨.nil,⟨fun _ _ _ _ h=>(by cases h),fun _ _ _ _ h=>(by cases h)⟩⟩
 |_,_,_,_,.num (k:=q) (x:=x) hq t,j,k,hx,hs=>by
  obtain ⟨h1,h2⟩:=qr7 t (j+1) k (fun i hi=>by
   have:=hx (i+1) (by simp;omega)
   rw [show j+1+i=j+(i+1) by omega];simpa using this) hs
  have h0:=hx 0 (by simp)
  simp only [Nat.add_zero,List.getD_cons_zero] at h0
  cases q with
  |some q=>
   have:=qbu (e:=E) (σ:=σ) (.ivar q j)
   have e:eS E (.ivar q j)=qf2 (some q) x:=by
    rw [qne (k:=some q) rfl];simp only [SE.val,h0.1];rw [show q.wrap x=x from hq]
   rw [e] at this
   exact ⟨.cons this h1,h2⟩
  |none=>
   have:=qbu (e:=E) (σ:=σ) (.bvar j)
   have e:eS E (.bvar j)=qf2 none x:=by
    rw [qne (k:=none) rfl];simp only [SE.val,h0.2,qf2,qas]
   rw [e] at this
   exact ⟨.cons this h1,h2⟩
 |_,_,_,_,.sl (e:=e) (ks:=ks) (rows:=rows) (s:=s) hq t,j,k,hx,hs=>by
  obtain ⟨h1,h2⟩:=qr7 t (j+1) (k+1) (fun i hi=>by
   have:=hx (i+1) (by simp;omega)
   rw [show j+1+i=j+(i+1) by omega];simpa using this) (fun i x hi=>by
   rw [show k+1+i=k+(i+1) by omega];exact hs (i+1) x (by simpa using hi))
  have h0:=hx 0 (by simp)
  simp only [Nat.add_zero,List.getD_cons_zero] at h0
  have hk:=hs 0 s rfl
  rw [Nat.add_zero] at hk
  have hl:(SE.lvar j).lst E=rows:=by simp only [SE.lst,SE.val,h0.1,qan]
  have:=RelC.sli (e:=E) (x:= .lvar j) (σ:=σ) (k:=k) (g:=s.1) (b:=s.2.1) (c:=s.2.2) hk
  rw [hl,qcz hq.l,←hq.v] at this
  exact ⟨.cons this h1,z77 h2 hk (by rw [hl];exact hq.l) (fun q=>by rw [hl];exact hq.n q) (fun i v hi=>by rw [hl] at hi;exact hq.c i v hi)⟩
end
inductive LT where
 |done
 |ask (x:SE) (t e:LT)
 |know (x:SE) (b:Bool) (t:LT)
def LT.ok (E:Env):LT→Prop
 | .done=>True
 | .ask x t e=>((x.val E !=0)=true→t.ok E)∧((x.val E !=0)=false→e.ok E)
 | .know x b t=>(x.val E !=0)=b∧t.ok E
theorem qfy {x:SE} (h:qea x=true):x.ty=some none:=by
 unfold qea at h
 split at h
 ·assumption
 ·cases h
end Go.Proofs.YtilkebpcjklmfaaGreat.Own
namespace Go.Proofs.YtilkebpcjklmfaaGreat.Own
open Go Go.RowKit Go.Proofs
set_option maxRecDepth 100000
set_option maxHeartbeats 40000000
def cfK (b:Cfg) (Tb:List Ent) (K:qm7) (ds:List (SE×Bool)):Cfg:={cfT b Tb ds with H:=fun f vs=>match K f vs with |some v=>some v |none=>hT Tb f vs}
def KOK (P:Program) (K:qm7):Prop:=∀(e:Vl) (σ:List (Nat×Nat×Nat)) (f:Nat) (vs:List V) (v:V) (us:List Value),K f vs=some v→RelVs e σ vs us→isFn P f=true∧∃u,RelV e σ v u∧Pure P f (List.toArray us) u
theorem okK {b:Cfg} (hb:CfgOK b) {E:Env} {Tb:List Ent} {K:qm7} (hK:KOK b.P K) (hlb:LB b Tb) (h:qcd b.P Tb) (hE:E.F=fun f i ys=>(FT Tb f ys).getD i 0) {ds:List (SE×Bool)} (hk:Knows E ds) {σ0:List (Nat×Nat×Nat)}:OK (cfK b Tb K ds) (eV E) σ0:=
 have o:=okT hb hlb h hE hk (σ0:=σ0)
 ⟨o.he,o.x,fun σ hx f vs v us h1 h2=>by
  change (match K f vs with |some v=>some v |none=>hT Tb f vs)=some v at h1
  cases hf:K f vs with
  |some x=>rw [hf] at h1;cases h1;exact hK _ σ f vs _ us hf h2
  |none=>rw [hf] at h1;exact o.h σ hx f vs v us h1 h2,o.g,o.d,o.l,o.b,o.mixed⟩
def litC:C→Option Value
 | .int k n=>some (.int k n)
 | .bool b=>some (.bool b)
 | .nils=>some (.slice none 0 0)
 |_=>none
def q5j:List C→Option (List Value)
 |[]=>some []
 |c::cs=>match litC c,q5j cs with |some v,some vs=>some (v::vs) |_,_=>none
def z30:V→Option Value
 | .one c=>litC c
 | .agg cs=>(match q5j cs with |some vs=>some (.agg (List.toArray vs)) |none=>none)
 |_=>none
def q5p:List V→Option (List Value)
 |[]=>some []
 |c::cs=>match z30 c,q5p cs with |some v,some vs=>some (v::vs) |_,_=>none
section
variable {e:Vl} {σ:List (Nat×Nat×Nat)}
theorem qzf {c:C} {u v:Value} (h:litC c=some u) (hr:RelC e σ c v):v=u:=by
 cases hr<;>cases h<;>rfl
theorem q9h {c:C} {u:Value} (h:litC c=some u):RelC e σ c u:=by
 cases c<;>cases h<;>constructor
theorem qvg:∀{cs:List C} {us vs:List Value},q5j cs=some us→RelCs e σ cs vs→vs=us
 |_,us,_,h,.nil=>by cases h;rfl
 |c::cs,us,_,h,.cons hc ht=>by
  simp only [q5j] at h
  split at h
  ·rename_i v vs h1 h2
   cases h
   rw [qzf h1 hc,qvg h2 ht]
  ·cases h
theorem qys:∀{cs:List C} {us:List Value},q5j cs=some us→RelCs e σ cs us
 |[],us,h=>by cases h;exact .nil
 |c::cs,us,h=>by
  simp only [q5j] at h
  split at h
  ·rename_i v vs h1 h2
   cases h
   exact .cons (q9h h1) (qys h2)
  ·cases h
theorem znv {x:V} {u v:Value} (h:z30 x=some u) (hr:RelV e σ x v):v=u:=by
 cases hr with
 |one hc=>exact qzf h hc
 |agg hc=>
  simp only [z30] at h
  split at h
  ·rename_i vs h1;cases h;rw [qvg h1 hc]
  ·cases h
 |tup _=>cases h
 |any=>cases h
theorem qxc {x:V} {u:Value} (h:z30 x=some u):RelV e σ x u:=by
 cases x with
 |one c=>exact .one (q9h h)
 |agg cs=>
  simp only [z30] at h
  split at h
  ·rename_i vs h1;cases h;exact .agg (qys h1)
  ·cases h
 |tup _=>cases h
 |any=>cases h
theorem qth:∀{xs:List V} {us vs:List Value},q5p xs=some us→RelVs e σ xs vs→vs=us
 |_,us,_,h,.nil=>by cases h;rfl
 |c::cs,us,_,h,.cons hc ht=>by
  simp only [q5p] at h
  split at h
  ·rename_i v vs h1 h2
   cases h
   rw [znv h1 hc,qth h2 ht]
  ·cases h
theorem q1e:∀{xs:List V} {us:List Value},q5p xs=some us→RelVs e σ xs us
 |[],us,h=>by cases h;exact .nil
 |c::cs,us,h=>by
  simp only [q5p] at h
  split at h
  ·rename_i v vs h1 h2
   cases h
   exact .cons (qxc h1) (q1e h2)
  ·cases h
end
def eqcK:C→C→Bool
 | .nils,.nils=>true
 |a,b=>ye1 a b
theorem zgo {a b:C} (h:eqcK a b=true):a=b:=by
 unfold eqcK at h
 split at h
 ·rfl
 ·exact qw5 h
def eqlK:List C→List C→Bool
 |[],[]=>true
 |a::az,b::bs=>eqcK a b&&eqlK az bs
 |_,_=>false
theorem ze6:∀{a b:List C},eqlK a b=true→a=b
 |[],[],_=>rfl
 |a::az,b::bs,h=>by simp only [eqlK,Bool.and_eq_true] at h;rw [zgo h.1,ze6 h.2]
 |[],b::bs,h=>by cases h
 |a::az,[],h=>by cases h
def eqvK:V→V→Bool
 | .one a,.one b=>eqcK a b
 | .agg a,.agg b=>eqlK a b
 |_,_=>false
theorem zs9 {a b:V} (h:eqvK a b=true):a=b:=by
 unfold eqvK at h
 split at h
 ·rw [zgo h]
 ·rw [ze6 h]
 ·cases h
def q9b:List V→List V→Bool
 |[],[]=>true
 |a::az,b::bs=>eqvK a b&&q9b az bs
 |_,_=>false
theorem qza:∀{a b:List V},q9b a b=true→a=b
 |[],[],_=>rfl
 |a::az,b::bs,h=>by
  simp only [q9b,Bool.and_eq_true] at h
  rw [zs9 h.1,qza h.2]
 |[],_::_,h=>by cases h
 |_::_,[],h=>by cases h
structure KEnt where
 f:Nat
 vs:List V
 v:V
def kL:List KEnt→qm7
 |[],_,_=>none
 |k::r,f,vs=>bif Nat.beq k.f f&&q9b k.vs vs then some k.v else kL r f vs
def KE (P:Program) (k:KEnt):Prop:=isFn P k.f=true∧∃us u,q5p k.vs=some us∧z30 k.v=some u∧Pure P k.f (List.toArray us) u
theorem yhf {P:Program}:∀{l:List KEnt},(∀k∈l,KE P k)→KOK P (kL l)
 |[],_=>fun _ _ _ _ _ _ h=>by cases h
 |k::r,hl=>fun e σ f vs v us h hr=>by
  simp only [kL] at h
  cases hb:(Nat.beq k.f f&&q9b k.vs vs) with
  |true=>
   rw [hb,cond_true] at h
   cases h
   simp only [Bool.and_eq_true] at hb
   obtain ⟨h1,us',u,h2,h3,h4⟩:=hl k (.head _)
   have e1:=Nat.eq_of_beq_eq_true hb.1
   have e2:=qza hb.2
   subst e1;subst e2
   rw [qth h2 hr]
   exact ⟨h1,u,qxc h3,h4⟩
  |false=>
   rw [hb,cond_false] at h
   exact yhf (fun k hk=>hl k (.tail _ hk)) e σ f vs v us h hr
end Go.Proofs.YtilkebpcjklmfaaGreat.Own
namespace Go.Proofs.YtilkebpcjklmfaaGreat.Own
open Go Go.RowKit Go.Proofs Go.Proofs.YtilkebpcjklmfaaGreat.Plain
open Go.Proofs.YtilkebpcjklmfaaGreat.Limb (n2 n4)
set_option maxRecDepth 100000
set_option maxHeartbeats 40000000
theorem qkt {E:Env} {σ:List (Nat×Nat×Nat)} {k:IntKind} {x:SE} {a:Int} (hk:x.ty=some (some k)) (h:x.val E=a):RelC (eV E) σ (.opq x) (.int k a):=by
 have:=qbu (e:=E) (σ:=σ) x
 rw [qne (k:=some k) hk] at this
 rw [h] at this
 exact this
def shX1:SE:= .bin .or .u64 (.lit .u64 0) (.bin .shr .u64 (.bin .shr .u64 (.ivar .u64 0) (.lit .u64 1)) (.lit .i64 63))
def shX2:SE:= .bin .or .u64 (.bin .shl .u64 (.ivar .u64 0) (.lit .i64 0)) (.bin .shr .u64 (.bin .shr .u64 (.ivar .u64 1) (.lit .u64 1)) (.lit .i64 63))
def shX3:SE:= .bin .shl .u64 (.ivar .u64 1) (.lit .i64 0)
theorem ycw:(evF (cfT bW [] []) 300 136 [.agg [.int .u64 0,.int .u64 0,.opq (.ivar .u64 0),.opq (.ivar .u64 1)],.one (.int .i64 64)] [] [] 0).map (·.1)=some (.agg [.opq shX1,.opq shX2,.opq shX3,.int .u64 0]):=by kernel_rfl
theorem qm8 {x:Int} (h:0≤x∧x<18446744073709551616):IntKind.u64.wrap x=x:=by rw [IntKind.wrap_u64];omega
theorem or_zero {x:Int} (h:0≤x∧x<18446744073709551616):bits .or .u64 x 0=x:=by
 obtain ⟨n,rfl⟩:=Int.eq_ofNat_of_zero_le h.1
 have:=u64_or_nat n 0 (by omega) (by decide)
 simpa using this
theorem zqj {x:Int} (h:0≤x∧x<18446744073709551616):IntKind.u64.wrap ((IntKind.u64.wrap (x.fdiv (2 ^ (min (IntKind.u64.wrap 1).toNat IntKind.u64.bits)))).fdiv (2 ^ (min (IntKind.i64.wrap 63).toNat IntKind.u64.bits)))=0:=by
 have e1:x.fdiv (2 ^ (min (IntKind.u64.wrap 1).toNat IntKind.u64.bits))=x / 2:=by rw [Int.fdiv_eq_ediv_of_nonneg _ (Int.pow_nonneg (by decide))];rfl
 have h2:0≤x / 2∧x / 2<9223372036854775808:=by omega
 have e3:IntKind.u64.wrap (x / 2)=x / 2:=qm8 (by omega)
 rw [e1,e3]
 generalize x / 2=y at *
 have e2:y.fdiv (2 ^ (min (IntKind.i64.wrap 63).toNat IntKind.u64.bits))=y / 9223372036854775808:=by rw [Int.fdiv_eq_ediv_of_nonneg _ (Int.pow_nonneg (by decide))];rfl
 rw [e2,show y / 9223372036854775808=0 by omega];rfl
theorem znh {x:Int} (h:0≤x∧x<18446744073709551616):IntKind.u64.wrap (x * 2 ^ (min (IntKind.i64.wrap 0).toNat IntKind.u64.bits))=x:=by
 have e1:x * 2 ^ (min (IntKind.i64.wrap 0).toNat IntKind.u64.bits)=x * 1:=rfl
 rw [e1,Int.mul_one,qm8 h]
theorem qw_ {h l:Int} (hh:0≤h∧h<18446744073709551616) (hl:0≤l∧l<18446744073709551616):Pure Tryz.prog 136 #[.agg #[.int .u64 0,.int .u64 0,.int .u64 h,.int .u64 l],.int .i64 64] (.agg #[.int .u64 0,.int .u64 h,.int .u64 l,.int .u64 0]):=by
 have f0:(qaa (FT []) [h,l]).iv 0=h:=rfl
 have f1:(qaa (FT []) [h,l]).iv 1=l:=rfl
 have w0:IntKind.u64.wrap 0=0:=rfl
 have v1:shX1.val (qaa (FT []) [h,l])=0:=by
  simp only [shX1,SE.val,qbg,f0,qm8 hh,zqj hh,w0];rfl
 have v2:shX2.val (qaa (FT []) [h,l])=h:=by
  simp only [shX2,SE.val,qbg,f0,f1,qm8 hh,qm8 hl,zqj hl,znh hh,or_zero hh]
 have v3:shX3.val (qaa (FT []) [h,l])=l:=by
  simp only [shX3,SE.val,qbg,f1,qm8 hl,znh hl]
 exact qmm (c:=cfT bW [] []) (d:=300) (vs:=[.agg [.int .u64 0,.int .u64 0,.opq (.ivar .u64 0),.opq (.ivar .u64 1)],.one (.int .i64 64)]) (v:= .agg [.opq shX1,.opq shX2,.opq shX3,.int .u64 0]) (okT qbi bW_l qvk rfl .nil) ycw
  (.cons (.agg (.cons .int (.cons .int (.cons (qkt rfl (by simp only [SE.val,f0,qm8 hh])) (.cons (qkt rfl (by simp only [SE.val,f1,qm8 hl])) .nil))))) (.cons (.one .int) .nil))
  (.agg (.cons (qkt rfl v1) (.cons (qkt rfl v2) (.cons (qkt rfl v3) (.cons .int .nil)))))
end Go.Proofs.YtilkebpcjklmfaaGreat.Own
