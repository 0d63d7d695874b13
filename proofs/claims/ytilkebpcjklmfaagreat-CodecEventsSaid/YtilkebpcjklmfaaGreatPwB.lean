/- A world turned: what is known and what is asked. A world turned: what its lists are. The document's division, bit by bit: what its loop makes of numbers. Contracts as trees, found by program and checked by the kernel. The document's division and quotient: what the code computes. Contracts that were proved by hand, as a table: the document's quotient. Contracts as trees, found by program and checked by the kernel. The table ahead of the codec's loops. Numbers as eight bytes: terms, and a loop that lays a row's numbers behind what is there. Numbers as eight bytes: the loop, where the slice's list and its block's are told apart. -/
import Derived.Test.YtilkebpcjklmfaaGreatDf6
set_option linter.unusedVariables false
set_option linter.unusedSimpArgs false
namespace Go.Proofs.YtilkebpcjklmfaaGreat.Own
open Go Go.RowKit Go.Proofs Go.Proofs.YtilkebpcjklmfaaGreat.Plain
set_option maxRecDepth 100000
set_option maxHeartbeats 40000000
def wtL0:SE:=(.lap 20051 1 (.cons (.lvar 0) .nil))
def wtL1:SE:=(.app 33 0 (some .i64) (.cons (.bin .add .i64 (.lit .i64 1) (.bin .rem .i64 (.conv .i64 (.ivar .u8 4)) (.lit .i64 3))) .nil))
def wtL2:SE:=(.app 33 1 (some .u64) (.cons (.bin .add .i64 (.lit .i64 1) (.bin .rem .i64 (.conv .i64 (.ivar .u8 4)) (.lit .i64 3))) .nil))
def wtL3:SE:=(.lap 20052 8 (.cons wtL1 (.cons wtL2 (.cons (.bin .shl .u64 (.conv .u64 (.ivar .u8 4)) (.lit .u64 56)) (.cons (.bin .shl .u64 (.conv .u64 (.bin .rem .u8 (.ivar .u8 4) (.lit .u8 4))) (.lit .u64 62)) (.cons (.bin .rem .i64 (.bin .quo .i64 (.conv .i64 (.ivar .u8 4)) (.lit .i64 4)) (.lit .i64 2)) (.cons (.bin .rem .i64 (.bin .quo .i64 (.conv .i64 (.ivar .u8 4)) (.lit .i64 8)) (.lit .i64 2)) (.cons .lnil .nil))))))))
def wtL4:SE:=(.lap 20052 8 (.cons wtL1 (.cons wtL2 (.cons (.bin .shl .u64 (.conv .u64 (.ivar .u8 4)) (.lit .u64 56)) (.cons (.bin .shl .u64 (.conv .u64 (.bin .rem .u8 (.ivar .u8 4) (.lit .u8 4))) (.lit .u64 62)) (.cons (.bin .rem .i64 (.bin .quo .i64 (.conv .i64 (.ivar .u8 4)) (.lit .i64 4)) (.lit .i64 2)) (.cons (.bin .rem .i64 (.bin .quo .i64 (.conv .i64 (.ivar .u8 4)) (.lit .i64 8)) (.lit .i64 2)) (.cons wtL0 .nil))))))))
def wtL7:SE:=(.lap 20053 9 (.cons wtL1 (.cons wtL2 (.cons (.bin .shl .u64 (.conv .u64 (.ivar .u8 4)) (.lit .u64 56)) (.cons (.bin .shl .u64 (.conv .u64 (.bin .rem .u8 (.ivar .u8 4) (.lit .u8 4))) (.lit .u64 62)) (.cons (.bin .rem .i64 (.bin .quo .i64 (.conv .i64 (.ivar .u8 4)) (.lit .i64 4)) (.lit .i64 2)) (.cons (.bin .rem .i64 (.bin .quo .i64 (.conv .i64 (.ivar .u8 4)) (.lit .i64 8)) (.lit .i64 2)) (.cons wtL0 (.cons wtL3 .nil)))))))))
def wtL8:SE:=(.lap 20053 8 (.cons wtL1 (.cons wtL2 (.cons (.bin .shl .u64 (.conv .u64 (.ivar .u8 4)) (.lit .u64 56)) (.cons (.bin .shl .u64 (.conv .u64 (.bin .rem .u8 (.ivar .u8 4) (.lit .u8 4))) (.lit .u64 62)) (.cons (.bin .rem .i64 (.bin .quo .i64 (.conv .i64 (.ivar .u8 4)) (.lit .i64 4)) (.lit .i64 2)) (.cons (.bin .rem .i64 (.bin .quo .i64 (.conv .i64 (.ivar .u8 4)) (.lit .i64 8)) (.lit .i64 2)) (.cons wtL0 (.cons wtL3 .nil)))))))))
def wtL9:SE:=(.lap 20054 8 (.cons (.lvar 1) (.cons wtL1 (.cons wtL2 (.cons (.bin .shl .u64 (.conv .u64 (.ivar .u8 4)) (.lit .u64 56)) (.cons (.bin .shl .u64 (.conv .u64 (.bin .rem .u8 (.ivar .u8 4) (.lit .u8 4))) (.lit .u64 62)) (.cons (.bin .rem .i64 (.bin .quo .i64 (.conv .i64 (.ivar .u8 4)) (.lit .i64 4)) (.lit .i64 2)) (.cons (.bin .rem .i64 (.bin .quo .i64 (.conv .i64 (.ivar .u8 4)) (.lit .i64 8)) (.lit .i64 2)) (.cons wtL0 (.cons wtL8 (.cons wtL7 .nil)))))))))))
def wtL10:SE:=(.lap 20056 11 (.cons (.lvar 3) (.cons wtL1 (.cons wtL2 (.cons (.bin .shl .u64 (.conv .u64 (.ivar .u8 4)) (.lit .u64 56)) (.cons (.bin .shl .u64 (.conv .u64 (.bin .rem .u8 (.ivar .u8 4) (.lit .u8 4))) (.lit .u64 62)) (.cons (.bin .rem .i64 (.bin .quo .i64 (.conv .i64 (.ivar .u8 4)) (.lit .i64 4)) (.lit .i64 2)) (.cons (.bin .rem .i64 (.bin .quo .i64 (.conv .i64 (.ivar .u8 4)) (.lit .i64 8)) (.lit .i64 2)) (.cons wtL0 (.cons wtL9 (.cons wtL8 (.cons wtL7 .nil))))))))))))
noncomputable def qac (xs:List Int):Env:=qaa (FT qcn) xs
theorem qcp {F:Nat→List Int→List Int} {xs:List Int} {f i:Nat} {zs:SE}:(SE.lap f i zs).val (qaa F xs)=(F f (zs.vals (qaa F xs))).getD i 0:=by
 simp only [SE.val];rfl
theorem qab {e:Env} {a zs:SE}:(SE.cons a zs).vals e=a.val e::zs.vals e:=by simp only [SE.vals]
theorem qad {e:Env}:SE.nil.vals e=[]:=by simp only [SE.vals]
theorem ft51:FT qcn 20051=boG (FT qfo):=by kernel_rfl
theorem ft52:FT qcn 20052=waG (FT qft):=by kernel_rfl
theorem ft53:FT qcn 20053=clG (FT qju):=by kernel_rfl
theorem ft54:FT qcn 20054=twG (FT qls):=by kernel_rfl
theorem ft56:FT qcn 20056=wlG (FT qd9):=by kernel_rfl
theorem zlf:FT qcn 20061=q1y (FT qfx):=by kernel_rfl
theorem ft31:FT qcn 20031=mrG (FT qhx):=by kernel_rfl
structure WtLen (xs:List Int):Prop where
 l0:(dec (xs.getD 0 0)).length≤maxLen
 l1:(dec (xs.getD 1 0)).length≤maxLen
 l2:(dec (xs.getD 2 0)).length≤maxLen
 l3:(dec (xs.getD 3 0)).length≤maxLen
theorem qdb {n:Nat} (h:n≤1000000):n≤maxLen:=by unfold maxLen;omega
section
variable {xs:List Int} (hl:WtLen xs)
include hl
theorem qsu:(dec (wtL0.val (qac xs))).length≤5∧∀el∈dec (wtL0.val (qac xs)),zzp (FT qfo) el:=by
 have e:wtL0.val (qac xs)=(boG (FT qfo) [xs.getD 0 0]).getD 1 0:=by
  unfold wtL0 qac;rw [qcp,ft51];simp only [qab,qad,lvar_at]
 have hp:Pre boL (FT qfo) [xs.getD 0 0]:=⟨fun c hc=>by
  have hc:c∈[(0,0)]:=hc
  simp only [List.mem_singleton] at hc;subst hc;exact hl.l0,fun c hc=>(by cases hc),fun c hc=>(by cases hc)⟩
 obtain ⟨ys,h1,h2,h3⟩:=ygl (FT qfo) [xs.getD 0 0] hp
 rw [e,h1];exact ⟨h2,h3⟩
omit hl in
theorem zk2:dec (wtL3.val (qac xs))=[]:=by
 have e:∃zs:List Int,wtL3.val (qac xs)=(waG (FT qft) zs).getD 8 0∧dec (zs.getD 6 0)=[]:=by
  unfold wtL3 qac;rw [qcp,ft52]
  refine ⟨_,rfl,?_⟩
  simp only [qab,qad,List.getD_cons_succ,List.getD_cons_zero,SE.val,qan]
 obtain ⟨zs,e,h6⟩:=e
 have hp:Pre waL (FT qft) zs:=⟨fun c hc=>by
  have hc:c∈[(1,6)]:=hc
  simp only [List.mem_singleton] at hc;subst hc;rw [show zs.getD (1,6).2 0=zs.getD 6 0 from rfl,h6];exact Nat.zero_le _,fun c hc=>by
  have hc:c∈[6]:=hc
  simp only [List.mem_singleton] at hc;subst hc;rw [h6];exact Nat.zero_le _,fun c hc=>(by cases hc)⟩
 obtain ⟨ys,h1,h2⟩:=zo6 (FT qft) zs hp
 rw [e,h1]
 rw [h6] at h2
 exact h2
theorem z6y (zs:List Int) (h6:zs.getD 6 0=wtL0.val (qac xs)) (h7:dec (zs.getD 7 0)=[]):∃ys,clG (FT qju) zs=0::ys∧dec (ys.getD 7 0)=List.replicate (dec (wtL0.val (qac xs))).length [-1]∧dec (ys.getD 8 0)=(dec (wtL0.val (qac xs))).map qnm:=by
 have hn:=(qsu hl).1
 have hp:Pre clL (FT qju) zs:=⟨fun c hc=>by
  have hc:c∈[(1,6),(2,7)]:=hc
  simp only [List.mem_cons,List.not_mem_nil,or_false] at hc
  rcases hc with rfl |rfl
  ·rw [show zs.getD (1,6).2 0=zs.getD 6 0 from rfl,h6];exact qdb (by omega)
  ·rw [show zs.getD (2,7).2 0=zs.getD 7 0 from rfl,h7];exact Nat.zero_le _,fun c hc=>by
  have hc:c∈[6]:=hc
  simp only [List.mem_singleton] at hc;subst hc;rw [h6];omega,fun c hc=>by
  have hc:c∈[(SE.cmp .eql (.len (.lvar 7)) (.lit .i64 0),true)]:=hc
  simp only [List.mem_singleton] at hc;subst hc
  have l:=qby (F:=FT qju) (lv:=7) (n:=0) (xs:=zs) (by rw [h7];rfl) (Nat.zero_le _)
  have w0:IntKind.i64.wrap 0=0:=rfl
  simp only [SE.val,qas,qa8,w0]
  simp only [SE.val] at l
  rw [l];rfl⟩
 obtain ⟨ys,h1,h2,h3⟩:=z7s (FT qju) zs hp
 rw [h6] at h2 h3
 exact ⟨ys,h1,h2,h3⟩
theorem zkd:dec (wtL8.val (qac xs))=List.replicate (dec (wtL0.val (qac xs))).length [-1]:=by
 have e:∃zs:List Int,wtL8.val (qac xs)=(clG (FT qju) zs).getD 8 0∧zs.getD 6 0=wtL0.val (qac xs)∧zs.getD 7 0=wtL3.val (qac xs):=by
  unfold wtL8 qac;rw [qcp,ft53]
  refine ⟨_,rfl,?_,?_⟩<;>simp only [qab,qad,List.getD_cons_succ,List.getD_cons_zero]
 obtain ⟨zs,e,h6,h7⟩:=e
 obtain ⟨ys,h1,h2,h3⟩:=z6y hl zs h6 (by rw [h7];exact zk2)
 rw [e,h1];exact h2
theorem q4o:dec (wtL7.val (qac xs))=(dec (wtL0.val (qac xs))).map qnm:=by
 have e:∃zs:List Int,wtL7.val (qac xs)=(clG (FT qju) zs).getD 9 0∧zs.getD 6 0=wtL0.val (qac xs)∧zs.getD 7 0=wtL3.val (qac xs):=by
  unfold wtL7 qac;rw [qcp,ft53]
  refine ⟨_,rfl,?_,?_⟩<;>simp only [qab,qad,List.getD_cons_succ,List.getD_cons_zero]
 obtain ⟨zs,e,h6,h7⟩:=e
 obtain ⟨ys,h1,h2,h3⟩:=z6y hl zs h6 (by rw [h7];exact zk2)
 rw [e,h1];exact h3
theorem q49:(dec (wtL9.val (qac xs))).length≤10∧∀el∈dec (wtL9.val (qac xs)),ygn (FT qls) (dec (wtL0.val (qac xs))).length el:=by
 have e:∃zs:List Int,wtL9.val (qac xs)=(twG (FT qls) zs).getD 8 0∧zs.getD 0 0=xs.getD 1 0∧zs.getD 7 0=wtL0.val (qac xs)∧zs.getD 8 0=wtL8.val (qac xs)∧zs.getD 9 0=wtL7.val (qac xs):=by
  unfold wtL9 qac;rw [qcp,ft54]
  refine ⟨_,rfl,?_,?_,?_,?_⟩<;>simp only [qab,qad,List.getD_cons_succ,List.getD_cons_zero,lvar_at]
 obtain ⟨zs,e,h0,h7,h8,h9⟩:=e
 have hn:=(qsu hl).1
 have hp:Pre twL (FT qls) zs:=⟨fun c hc=>by
  have hc:c∈[(2,9),(3,8),(0,0)]:=hc
  simp only [List.mem_cons,List.not_mem_nil,or_false] at hc
  rcases hc with rfl |rfl |rfl
  ·rw [show zs.getD (2,9).2 0=zs.getD 9 0 from rfl,h9,q4o hl,List.length_map];exact qdb (by omega)
  ·rw [show zs.getD (3,8).2 0=zs.getD 8 0 from rfl,h8,zkd hl,List.length_replicate];exact qdb (by omega)
  ·rw [show zs.getD (0,0).2 0=zs.getD 0 0 from rfl,h0];exact hl.l1,fun c hc=>(by cases hc),fun c hc=>(by cases hc)⟩
 obtain ⟨ys,h1,h2,h3⟩:=z7r (FT qls) zs hp
 rw [h7,qcz (qdb (by omega))] at h3
 rw [e,h1];exact ⟨h2,h3⟩
theorem q3k:(dec (wtL10.val (qac xs))).length=(dec (wtL0.val (qac xs))).length∧∀j,ThR ((dec (wtL7.val (qac xs))).getD j []) ((dec (wtL10.val (qac xs))).getD j []):=by
 have e:∃zs:List Int,wtL10.val (qac xs)=(wlG (FT qd9) zs).getD 11 0∧zs.getD 0 0=xs.getD 3 0∧zs.getD 7 0=wtL0.val (qac xs)∧zs.getD 8 0=wtL9.val (qac xs)∧zs.getD 9 0=wtL8.val (qac xs)∧zs.getD 10 0=wtL7.val (qac xs):=by
  unfold wtL10 qac;rw [qcp,ft56]
  refine ⟨_,rfl,?_,?_,?_,?_,?_⟩<;>simp only [qab,qad,List.getD_cons_succ,List.getD_cons_zero,lvar_at]
 obtain ⟨zs,e,h0,h7,h8,h9,h10⟩:=e
 have hn:=(qsu hl).1
 have hl7:(dec (zs.getD 10 0)).length=(dec (wtL0.val (qac xs))).length:=by rw [h10,q4o hl,List.length_map]
 have hp:Pre wlL (FT qd9) zs:=⟨fun c hc=>by
  have hc:c∈[(2,10),(3,8),(4,9),(0,0)]:=hc
  simp only [List.mem_cons,List.not_mem_nil,or_false] at hc
  rcases hc with rfl |rfl |rfl |rfl
  ·rw [show zs.getD (2,10).2 0=zs.getD 10 0 from rfl,hl7];exact qdb (by omega)
  ·rw [show zs.getD (3,8).2 0=zs.getD 8 0 from rfl,h8];exact qdb (by have:=(q49 hl).1;omega)
  ·rw [show zs.getD (4,9).2 0=zs.getD 9 0 from rfl,h9,zkd hl,List.length_replicate];exact qdb (by omega)
  ·rw [show zs.getD (0,0).2 0=zs.getD 0 0 from rfl,h0];exact hl.l3,fun c hc=>by
  have hc:c∈[10]:=hc
  simp only [List.mem_singleton] at hc;subst hc;rw [hl7];omega,fun c hc=>by
  have hc:c∈[(SE.cmp .neq (.len (.lvar 7)) (.len (.lvar 10)),false)]:=hc
  simp only [List.mem_singleton] at hc;subst hc
  have l7:=qby (F:=FT qd9) (lv:=7) (n:=(dec (wtL0.val (qac xs))).length) (xs:=zs) (by rw [h7]) (qdb (by omega))
  have l10:=qby (F:=FT qd9) (lv:=10) (n:=(dec (wtL0.val (qac xs))).length) (xs:=zs) hl7 (qdb (by omega))
  have v:∀a b:SE,((SE.cmp .neq a b).val (qaa (FT qd9) zs) !=0)=(a.val (qaa (FT qd9) zs) !=b.val (qaa (FT qd9) zs)):=fun a b=>by simp only [SE.val,qas,qa8]
  rw [v,l7,l10];simp⟩
 obtain ⟨ys,h1,h2,h3⟩:=yc1 (FT qd9) zs hp
 rw [h7] at h2
 rw [h10] at h3
 rw [e,h1];exact ⟨h2,h3⟩
end
end Go.Proofs.YtilkebpcjklmfaaGreat.Own
namespace Go.Proofs.YtilkebpcjklmfaaGreat.Own
open Go Go.RowKit Go.Proofs Go.Proofs.YtilkebpcjklmfaaGreat.Plain
open Go.Proofs.YtilkebpcjklmfaaGreat.Limb (DivNum divnum_start div_round double_words val2_mod div_in div_out quot_bit set_word div_end beyond_iff hi_word lo_word)
set_option maxRecDepth 100000
set_option maxHeartbeats 40000000
theorem ql_ {n:Nat} (h:n<18446744073709551616):IntKind.u64.wrap (n:Int)=(n:Int):=by rw [IntKind.wrap_u64];omega
theorem qe7 {op:BinOp} {k:IntKind} {a b:SE} {e:Env}:(SE.bin op k a b).val e=qbg op k (a.val e) (b.val e):=by simp only [SE.val]
theorem qai {k:IntKind} {n:Int} {e:Env}:(SE.lit k n).val e=k.wrap n:=by simp only [SE.val]
theorem qec {a:SE} {e:Env}:((SE.not a).val e !=0)= !(a.val e !=0):=by simp only [SE.val,qas]
theorem qgk {F:Nat→List Int→List Int} {xs:List Int} {f i:Nat} {k:Option IntKind} {zs:SE}:(SE.app f i k zs).val (qaa F xs)=wrK k ((F f (zs.vals (qaa F xs))).getD i 0):=by
 simp only [SE.val];rfl
theorem qce {op:BinOp} {a b:SE} {e:Env}:((SE.cmp op a b).val e !=0)=qa8 op (a.val e) (b.val e):=by simp only [SE.val,qas]
theorem qen {F:Nat→List Int→List Int} {zs:List Int} {j n:Nat} (h:zs.getD j 0=(n:Int)) (hn:n<18446744073709551616):(SE.ivar .u64 j).val (qaa F zs)=(n:Int):=by
 have e:(SE.ivar .u64 j).val (qaa F zs)=IntKind.u64.wrap (zs.getD j 0):=by simp only [SE.val];rfl
 rw [e,h,ql_ hn]
theorem qt3 (n s:Nat) (hs:s<64) (hn:n<18446744073709551616):qbg .shr .u64 (n:Int) (s:Int)=((n / 2 ^ s:Nat):Int):=by
 show IntKind.u64.wrap ((n:Int).fdiv (2 ^ (min ((s:Int)).toNat IntKind.u64.bits)))=_
 rw [Int.toNat_natCast,show min s (IntKind.bits .u64)=s from Nat.min_eq_left (by show s≤64;omega),Int.fdiv_eq_ediv_of_nonneg _ (Int.pow_nonneg (by decide)),show (2:Int) ^ s=((2 ^ s:Nat):Int) by rw [Int.natCast_pow];rfl,←Int.natCast_ediv]
 exact ql_ (Nat.lt_of_le_of_lt (Nat.div_le_self _ _) hn)
theorem zri (n:Nat) (hn:n<18446744073709551616):qbg .and .u64 (n:Int) 1=((n % 2:Nat):Int):=by
 have h:=u64_and_nat n 1 hn (by decide)
 have e:n&&& 1=n % 2:=Nat.and_two_pow_sub_one_eq_mod n 1
 rw [e] at h
 show IntKind.u64.wrap (bits .and .u64 (n:Int) 1)=_
 have h':bits .and .u64 (n:Int) 1=((n % 2:Nat):Int):=h
 rw [h'];exact ql_ (by omega)
theorem qs1 (n:Nat):qbg .shl .u64 (n:Int) 1=IntKind.u64.wrap ((n:Int) * 2):=rfl
theorem qqb (a b:Int):qbg .sub .u64 a b=IntKind.u64.wrap (a - b):=by unfold qbg;rfl
theorem w0u:IntKind.u64.wrap 0=0:=rfl
theorem w1u:IntKind.u64.wrap 1=1:=rfl
theorem w63u:IntKind.u64.wrap 63=((63:Nat):Int):=rfl
section
variable {F:Nat→List Int→List Int} {zs:List Int}
theorem ydl {r1 r0:Nat} (h4:zs.getD 4 0=(r1:Int)) (h5:zs.getD 5 0=(r0:Int)) (b1:r1<18446744073709551616) (b0:r0<18446744073709551616):dfHi.val (qaa F zs)=((r1 * 2 % 18446744073709551616|||r0 / 9223372036854775808:Nat):Int):=by
 unfold dfHi
 rw [qe7,qe7,qe7,qai,qai,qen h4 b1,qen h5 b0,w1u,w63u,qs1,qt3 r0 63 (by omega) b0]
 have h:=hi_word r1 r0 b0
 have e:((r0 / 2 ^ 63:Nat):Int)=(r0:Int) / 9223372036854775808:=by simp only [Nat.reducePow];omega
 rw [e]
 show IntKind.u64.wrap (bits .or .u64 (IntKind.u64.wrap ((r1:Int) * 2)) ((r0:Int) / 9223372036854775808))=_
 rw [h]
 exact ql_ (double_words r1 r0 0 (by omega) b1 b0).1
theorem zun {a b c d:Nat} (h8:zs.getD 8 0=(a:Int)) (h9:zs.getD 9 0=(b:Int)) (h10:zs.getD 10 0=(c:Int)) (h11:zs.getD 11 0=(d:Int)) (la:a<18446744073709551616) (lb:b<18446744073709551616) (lc:c<18446744073709551616) (ld:d<18446744073709551616) (k:Nat) (hk:k<256):
  (SE.bin .and .u64 (.bin .shr .u64 (.ivar .u64 (11 - k / 64)) (.lit .i64 (Int.ofNat (k % 64)))) (.lit .u64 1)).val (qaa F zs)=((qbr a b c d / 2 ^ k % 2:Nat):Int):=by
 have hm:k % 64<64:=Nat.mod_lt _ (by decide)
 obtain ⟨b0,b1,b2,b3⟩:=qt4 a b c d (k % 64) ld lc lb
 have wi:IntKind.i64.wrap (Int.ofNat (k % 64))=((k % 64:Nat):Int):=by rw [IntKind.wrap_i64];show (((k % 64:Nat):Int)+_) % _ - _=_;omega
 have fin:∀(j x:Nat),zs.getD j 0=(x:Int)→x<18446744073709551616→x / 2 ^ (k % 64) % 2=qbr a b c d / 2 ^ k % 2→(SE.bin .and .u64 (.bin .shr .u64 (.ivar .u64 j) (.lit .i64 (Int.ofNat (k % 64)))) (.lit .u64 1)).val (qaa F zs)=((qbr a b c d / 2 ^ k % 2:Nat):Int):=by
  intro j x hx lx h
  rw [qe7,qe7,qai,qai,qen hx lx,wi,w1u,qt3 x _ hm lx,zri _ (Nat.lt_of_le_of_lt (Nat.div_le_self _ _) lx),h]
 rcases (show k / 64=0∨k / 64=1∨k / 64=2∨k / 64=3 by omega) with h |h |h |h
 ·rw [h];exact fin 11 d h11 ld (by rw [b0 hm];congr 2;congr 1;omega)
 ·rw [h];exact fin 10 c h10 lc (by rw [b1 hm];congr 2;congr 1;omega)
 ·rw [h];exact fin 9 b h9 lb (by rw [b2 hm];congr 2;congr 1;omega)
 ·rw [h];exact fin 8 a h8 la (by rw [b3 hm];congr 2;congr 1;omega)
theorem z5g {r0 a b c d e:Nat} (h5:zs.getD 5 0=(r0:Int)) (h8:zs.getD 8 0=(a:Int)) (h9:zs.getD 9 0=(b:Int)) (h10:zs.getD 10 0=(c:Int)) (h11:zs.getD 11 0=(d:Int)) (b0:r0<18446744073709551616) (la:a<18446744073709551616) (lb:b<18446744073709551616) (lc:c<18446744073709551616) (ld:d<18446744073709551616) (k:Nat) (hk:k<256) (he:qbr a b c d / 2 ^ k % 2=e):
  (dfLo k).val (qaa F zs)=((r0 * 2 % 18446744073709551616|||e:Nat):Int):=by
 unfold dfLo
 have e2:e<2:=by rw [←he];exact Nat.mod_lt _ (by decide)
 rw [qe7,zun h8 h9 h10 h11 la lb lc ld k hk,qe7,qai,qen h5 b0,w1u,qs1,he]
 show IntKind.u64.wrap (bits .or .u64 (IntKind.u64.wrap ((r0:Int) * 2)) (e:Int))=_
 rw [lo_word r0 e e2]
 exact ql_ (double_words 0 r0 e e2 (by decide) b0).2.1
theorem dfQ_v {o0 o1 o2 o3:Nat} (h0:zs.getD 0 0=(o0:Int)) (h1:zs.getD 1 0=(o1:Int)) (h2:zs.getD 2 0=(o2:Int)) (h3:zs.getD 3 0=(o3:Int)) (l0:o0<18446744073709551616) (l1:o1<18446744073709551616) (l2:o2<18446744073709551616) (l3:o3<18446744073709551616) (k:Nat) (hk:k<256) (h:qbr o3 o2 o1 o0 % 2 ^ (k+1)=0):
  ∃y0 y1 y2 y3:Nat,(dfQ k 0).val (qaa F zs)=(y0:Int)∧(dfQ k 1).val (qaa F zs)=(y1:Int)∧(dfQ k 2).val (qaa F zs)=(y2:Int)∧(dfQ k 3).val (qaa F zs)=(y3:Int)∧
   qbr y3 y2 y1 y0=qbr o3 o2 o1 o0+2 ^ k∧y0<18446744073709551616∧y1<18446744073709551616∧y2<18446744073709551616∧y3<18446744073709551616:=by
 have hm:k % 64<64:=Nat.mod_lt _ (by decide)
 obtain ⟨z0,z1,z2,z3⟩:=quot_bit o3 o2 o1 o0 k (k % 64) hm l3 l2 l1 l0 h
 have st:∀(m o:Nat),zs.getD m 0=(o:Int)→o<18446744073709551616→(o|||2 ^ (k % 64))<18446744073709551616→(SE.bin .or .u64 (.ivar .u64 m) (.lit .u64 (Int.ofNat (2 ^ (k % 64))))).val (qaa F zs)=((o|||2 ^ (k % 64):Nat):Int):=by
  intro m o ho lo lo2
  have sw:=set_word o (k % 64) hm lo
  rw [qe7,qai,qen ho lo]
  have e:(Int.ofNat (2 ^ (k % 64)):Int)=2 ^ (k % 64):=by show ((2 ^ (k % 64):Nat):Int)=_;rw [Int.natCast_pow];rfl
  rw [e]
  show IntKind.u64.wrap (bits .or .u64 (o:Int) (IntKind.u64.wrap (2 ^ (k % 64))))=_
  rw [sw];exact ql_ lo2
 have q:∀m,dfQ k m=bif Nat.beq (k / 64) m then .bin .or .u64 (.ivar .u64 m) (.lit .u64 (Int.ofNat (2 ^ (k % 64)))) else .ivar .u64 m:=fun m=>rfl
 rw [q 0,q 1,q 2,q 3]
 rcases (show k / 64=0∨k / 64=1∨k / 64=2∨k / 64=3 by omega) with g |g |g |g
 ·rw [g];obtain ⟨y,e⟩:=z0 (by omega)
  exact ⟨_,o1,o2,o3,st 0 o0 h0 l0 y,qen h1 l1,qen h2 l2,qen h3 l3,e,y,l1,l2,l3⟩
 ·rw [g];obtain ⟨y,e⟩:=z1 (by omega)
  exact ⟨o0,_,o2,o3,qen h0 l0,st 1 o1 h1 l1 y,qen h2 l2,qen h3 l3,e,l0,y,l2,l3⟩
 ·rw [g];obtain ⟨y,e⟩:=z2 (by omega)
  exact ⟨o0,o1,_,o3,qen h0 l0,qen h1 l1,st 2 o2 h2 l2 y,qen h3 l3,e,l0,l1,y,l3⟩
 ·rw [g];obtain ⟨y,e⟩:=z3 (by omega)
  exact ⟨o0,o1,o2,_,qen h0 l0,qen h1 l1,qen h2 l2,st 3 o3 h3 l3 y,e,l0,l1,l2,y⟩
end
theorem f35 (x1 x0 p q:Nat) (h1:x1<18446744073709551616) (h0:x0<18446744073709551616) (hp:p<18446744073709551616) (hq:q<18446744073709551616):FT qdv 113 [(x1:Int),(x0:Int),(p:Int),(q:Int)]=[b2i (decide (qbc x1 x0<qbc p q))]:=by
 have g:FT qdv 113=qaf z8m (FT qcn):=by kernel_rfl
 rw [g]
 simp only [qaf,z8m,ST.get,qce]
 rw [qen (j:=0) rfl h1,qen (j:=2) rfl hp]
 simp only [qa8]
 by_cases c1:(x1:Int)<(p:Int)
 ·rw [decide_eq_true c1,cond_true,show decide (qbc x1 x0<qbc p q)=true by rw [decide_eq_true_eq];unfold qbc;omega];rfl
 ·rw [decide_eq_false c1,cond_false]
  by_cases c2:x1=p
  ·subst c2
   rw [show ((x1:Int)==(x1:Int))=true by simp,cond_true]
   have e:(qc0 (V.one (C.opq (SE.cmp .lss (.ivar .u64 1) (.ivar .u64 3))))).map (qfn (qaa (FT qcn) [(x1:Int),(x0:Int),(x1:Int),(q:Int)]))=[(SE.cmp .lss (.ivar .u64 1) (.ivar .u64 3)).val (qaa (FT qcn) [(x1:Int),(x0:Int),(x1:Int),(q:Int)])]:=rfl
   rw [e]
   have e2:(SE.cmp .lss (.ivar .u64 1) (.ivar .u64 3)).val (qaa (FT qcn) [(x1:Int),(x0:Int),(x1:Int),(q:Int)])=b2i (decide ((x0:Int)<(q:Int))):=by
    have:=qen (F:=FT qcn) (zs:=[(x1:Int),(x0:Int),(x1:Int),(q:Int)]) (j:=1) rfl h0
    have:=qen (F:=FT qcn) (zs:=[(x1:Int),(x0:Int),(x1:Int),(q:Int)]) (j:=3) rfl hq
    simp only [SE.val,qa8] at *
    simp only [*]
   rw [e2]
   congr 2
   rw [decide_eq_decide];unfold qbc;omega
  ·rw [show ((x1:Int)==(p:Int))=false by rw [beq_eq_false_iff_ne];omega,cond_false,show decide (qbc x1 x0<qbc p q)=false by rw [decide_eq_false_iff_not];unfold qbc;omega];rfl
theorem z79 (x1 x0 p q:Nat) (h1:x1<18446744073709551616) (h0:x0<18446744073709551616) (hp:p<18446744073709551616) (hq:q<18446744073709551616):
  (x0<q→IntKind.u64.wrap (IntKind.u64.wrap ((x1:Int) - (p:Int)) - 1)=((wrd 1 (qbc x1 x0+340282366920938463463374607431768211456 - qbc p q):Nat):Int))∧
  (¬x0<q→IntKind.u64.wrap (IntKind.u64.wrap ((x1:Int) - (p:Int)) - 0)=((wrd 1 (qbc x1 x0+340282366920938463463374607431768211456 - qbc p q):Nat):Int))∧
  IntKind.u64.wrap ((x0:Int) - (q:Int))=((wrd 0 (qbc x1 x0+340282366920938463463374607431768211456 - qbc p q):Nat):Int):=by
 unfold qbc wrd
 simp only [Nat.reducePow,IntKind.wrap_u64]
 refine ⟨fun h=>by omega,fun h=>by omega,by omega⟩
theorem z59 (x1 x0 p q:Nat) (W1 W0:Int) (ls:Bool) (h1:x1<18446744073709551616) (h0:x0<18446744073709551616) (hp:p<18446744073709551616) (hq:q<18446744073709551616)
  (s1:x0<q→IntKind.u64.wrap (IntKind.u64.wrap ((x1:Int) - (p:Int)) - 1)=W1) (s2:¬x0<q→IntKind.u64.wrap (IntKind.u64.wrap ((x1:Int) - (p:Int)) - 0)=W1) (s3:IntKind.u64.wrap ((x0:Int) - (q:Int))=W0)
  (hl:FT qgq 113 [(x1:Int),(x0:Int),(p:Int),(q:Int)]=[b2i ls]):
  qaf tr36 (FT qgq) [(x1:Int),(x0:Int),(p:Int),(q:Int)]=[W1,W0,b2i ls]:=by
 have i0:=qen (F:=FT qgq) (zs:=[(x1:Int),(x0:Int),(p:Int),(q:Int)]) (j:=0) rfl h1
 have i1:=qen (F:=FT qgq) (zs:=[(x1:Int),(x0:Int),(p:Int),(q:Int)]) (j:=1) rfl h0
 have i2:=qen (F:=FT qgq) (zs:=[(x1:Int),(x0:Int),(p:Int),(q:Int)]) (j:=2) rfl hp
 have i3:=qen (F:=FT qgq) (zs:=[(x1:Int),(x0:Int),(p:Int),(q:Int)]) (j:=3) rfl hq
 have wb:wrK none (b2i ls)=b2i ls:=by cases ls<;>rfl
 have va:(SE.app 113 0 none (.cons (.ivar .u64 0) (.cons (.ivar .u64 1) (.cons (.ivar .u64 2) (.cons (.ivar .u64 3) .nil))))).val (qaa (FT qgq) [(x1:Int),(x0:Int),(p:Int),(q:Int)])=b2i ls:=by
  rw [qgk,qab,qab,qab,qab,qad,i0,i1,i2,i3,hl,List.getD_cons_zero,wb]
 simp only [qaf,tr36,ST.get,qce]
 rw [i1,i3]
 simp only [qa8]
 by_cases c:x0<q
 ·rw [decide_eq_true (show (x0:Int)<(q:Int) by omega),cond_true]
  simp only [qc0,List.map,qfn]
  rw [va,qe7,qe7,qe7,qai,i0,i1,i2,i3,w1u,qqb,qqb,qqb,s1 c,s3]
 ·rw [decide_eq_false (show ¬(x0:Int)<(q:Int) by omega),cond_false]
  simp only [qc0,List.map,qfn]
  rw [va,qe7,qe7,qe7,qai,i0,i1,i2,i3,w0u,qqb,qqb,qqb,s2 c,s3]
theorem f36 (x1 x0 p q:Nat) (h1:x1<18446744073709551616) (h0:x0<18446744073709551616) (hp:p<18446744073709551616) (hq:q<18446744073709551616):
  FT qdv 114 [(x1:Int),(x0:Int),(p:Int),(q:Int)]=[((wrd 1 (qbc x1 x0+340282366920938463463374607431768211456 - qbc p q):Nat):Int),((wrd 0 (qbc x1 x0+340282366920938463463374607431768211456 - qbc p q):Nat):Int),b2i (decide (qbc x1 x0<qbc p q))]:=by
 have g:FT qdv 114=qaf tr36 (FT qgq):=by kernel_rfl
 have g35a:FT qdv 113=qaf z8m (FT qcn):=by kernel_rfl
 have g35b:FT qgq 113=qaf z8m (FT qcn):=by kernel_rfl
 have g35:=g35a.trans g35b.symm
 have hs:=z79 x1 x0 p q h1 h0 hp hq
 have hl:=f35 x1 x0 p q h1 h0 hp hq
 rw [g35] at hl
 rw [g]
 exact z59 x1 x0 p q _ _ _ h1 h0 hp hq hs.1 hs.2.1 hs.2.2 hl
def stD (o0 o1 o2 o3 r1 r0 p q a b c d:Nat):List Int:=[(o0:Int),(o1:Int),(o2:Int),(o3:Int),(r1:Int),(r0:Int),(p:Int),(q:Int),(a:Int),(b:Int),(c:Int),(d:Int)]
structure LtD (o0 o1 o2 o3 r1 r0:Nat):Prop where
 l0:o0<18446744073709551616
 l1:o1<18446744073709551616
 l2:o2<18446744073709551616
 l3:o3<18446744073709551616
 m1:r1<18446744073709551616
 m0:r0<18446744073709551616
theorem zxo {p q a b c d:Nat} (lp:p<18446744073709551616) (lq:q<18446744073709551616) (la:a<18446744073709551616) (lb:b<18446744073709551616) (lc:c<18446744073709551616) (ld:d<18446744073709551616) (hB:¬qbc p q=0)
  {o0 o1 o2 o3 r1 r0:Nat} (hl:LtD o0 o1 o2 o3 r1 r0) (k:Nat) (hk:k<256) (D:DivNum (qbr a b c d) (qbc p q) (k+1) (qbc r1 r0) (qbr o3 o2 o1 o0)):
  ∃y0 y1 y2 y3 z1 z0:Nat,(dfT (255 - k)).get (qaa (FT qdv) (stD o0 o1 o2 o3 r1 r0 p q a b c d))=(none,stD y0 y1 y2 y3 z1 z0 p q a b c d)∧LtD y0 y1 y2 y3 z1 z0∧DivNum (qbr a b c d) (qbc p q) k (qbc z1 z0) (qbr y3 y2 y1 y0):=by
 obtain ⟨e,he⟩:∃e,qbr a b c d / 2 ^ k % 2=e:=⟨_,rfl⟩
 have he2:e<2:=by rw [←he];exact Nat.mod_lt _ (by decide)
 have vHi:=ydl (F:=FT qdv) (zs:=stD o0 o1 o2 o3 r1 r0 p q a b c d) (r1:=r1) (r0:=r0) rfl rfl hl.m1 hl.m0
 have vLo:=z5g (F:=FT qdv) (zs:=stD o0 o1 o2 o3 r1 r0 p q a b c d) (r0:=r0) (e:=e) rfl rfl rfl rfl rfl hl.m0 la lb lc ld k hk he
 obtain ⟨lx1,lx0,hx⟩:=double_words r1 r0 e he2 hl.m1 hl.m0
 have hB2:qbc p q<340282366920938463463374607431768211456:=by unfold qbc;omega
 generalize (r1 * 2 % 18446744073709551616|||r0 / 9223372036854775808)=x1 at *
 generalize (r0 * 2 % 18446744073709551616|||e)=x0 at *
 have i4:=qen (F:=FT qdv) (zs:=stD o0 o1 o2 o3 r1 r0 p q a b c d) (j:=4) rfl hl.m1
 have i6:=qen (F:=FT qdv) (zs:=stD o0 o1 o2 o3 r1 r0 p q a b c d) (j:=6) rfl lp
 have i7:=qen (F:=FT qdv) (zs:=stD o0 o1 o2 o3 r1 r0 p q a b c d) (j:=7) rfl lq
 have i8:=qen (F:=FT qdv) (zs:=stD o0 o1 o2 o3 r1 r0 p q a b c d) (j:=8) rfl la
 have i9:=qen (F:=FT qdv) (zs:=stD o0 o1 o2 o3 r1 r0 p q a b c d) (j:=9) rfl lb
 have i10:=qen (F:=FT qdv) (zs:=stD o0 o1 o2 o3 r1 r0 p q a b c d) (j:=10) rfl lc
 have i11:=qen (F:=FT qdv) (zs:=stD o0 o1 o2 o3 r1 r0 p q a b c d) (j:=11) rfl ld
 have i0:=qen (F:=FT qdv) (zs:=stD o0 o1 o2 o3 r1 r0 p q a b c d) (j:=0) rfl hl.l0
 have i1:=qen (F:=FT qdv) (zs:=stD o0 o1 o2 o3 r1 r0 p q a b c d) (j:=1) rfl hl.l1
 have i2:=qen (F:=FT qdv) (zs:=stD o0 o1 o2 o3 r1 r0 p q a b c d) (j:=2) rfl hl.l2
 have i3:=qen (F:=FT qdv) (zs:=stD o0 o1 o2 o3 r1 r0 p q a b c d) (j:=3) rfl hl.l3
 have vA:(dfA k).vals (qaa (FT qdv) (stD o0 o1 o2 o3 r1 r0 p q a b c d))=[(x1:Int),(x0:Int),(p:Int),(q:Int)]:=by
  unfold dfA;rw [qab,qab,qab,qab,qad,vHi,vLo,i6,i7]
 have q1:((SE.cmp .eql (.bin .shr .u64 (.ivar .u64 4) (.lit .u64 63)) (.lit .u64 1)).val (qaa (FT qdv) (stD o0 o1 o2 o3 r1 r0 p q a b c d)) !=0)=decide (340282366920938463463374607431768211456≤2 * qbc r1 r0+e):=by
  rw [qce,qe7,qai,qai,i4,w63u,w1u,qt3 r1 63 (by omega) hl.m1]
  simp only [qa8,Nat.reducePow]
  have h0:=hl.m0;have h1:=hl.m1
  rw [Bool.eq_iff_iff,beq_iff_eq,decide_eq_true_eq]
  unfold qbc;omega
 have q2:((SE.not (.app 113 0 none (dfA k))).val (qaa (FT qdv) (stD o0 o1 o2 o3 r1 r0 p q a b c d)) !=0)= !decide (qbc x1 x0<qbc p q):=by
  rw [qec,qgk,vA,f35 x1 x0 p q lx1 lx0 lp lq,List.getD_cons_zero]
  cases decide (qbc x1 x0<qbc p q)<;>rfl
 have hs:=f36 x1 x0 p q lx1 lx0 lp lq
 have ek:255 - (255 - k)=k:=by omega
 have eT:∀E:Env,(dfT (255 - k)).get E=bif (SE.cmp .eql (.bin .shr .u64 (.ivar .u64 4) (.lit .u64 63)) (.lit .u64 1)).val E !=0 then (q5f k).get E else bif (SE.not (.app 113 0 none (dfA k))).val E !=0 then (q5f k).get E else (q0z k).get E:=fun E=>by
  simp only [dfT,RT.get,ek]
 have sub:∀bb ls:Bool,bb=decide (340282366920938463463374607431768211456≤2 * qbc r1 r0+e)→decide (qbc x1 x0<qbc p q)=ls→(bb|| !ls)=true→
   ∃y0 y1 y2 y3 z1 z0:Nat,(q5f k).get (qaa (FT qdv) (stD o0 o1 o2 o3 r1 r0 p q a b c d))=(none,stD y0 y1 y2 y3 z1 z0 p q a b c d)∧LtD y0 y1 y2 y3 z1 z0∧DivNum (qbr a b c d) (qbc p q) k (qbc z1 z0) (qbr y3 y2 y1 y0):=by
  intro bb ls hbb hls h
  obtain ⟨D',hz⟩:=div_in bb ls D hB hB2 he hx hbb hls h
  obtain ⟨y0,y1,y2,y3,v0,v1,v2,v3,ve,n0,n1,n2,n3⟩:=dfQ_v (F:=FT qdv) (zs:=stD o0 o1 o2 o3 r1 r0 p q a b c d) (o0:=o0) (o1:=o1) (o2:=o2) (o3:=o3) rfl rfl rfl rfl hl.l0 hl.l1 hl.l2 hl.l3 k hk hz
  rw [←ve] at D'
  have w1:wrd 1 (qbc x1 x0+340282366920938463463374607431768211456 - qbc p q)<18446744073709551616:=by unfold wrd;exact Nat.mod_lt _ (by decide)
  have w0:wrd 0 (qbc x1 x0+340282366920938463463374607431768211456 - qbc p q)<18446744073709551616:=by unfold wrd;exact Nat.mod_lt _ (by decide)
  generalize wrd 1 (qbc x1 x0+340282366920938463463374607431768211456 - qbc p q)=z1 at *
  generalize wrd 0 (qbc x1 x0+340282366920938463463374607431768211456 - qbc p q)=z0 at *
  refine ⟨y0,y1,y2,y3,z1,z0,?_,⟨n0,n1,n2,n3,w1,w0⟩,D'⟩
  have a0:(SE.app 114 0 (some .u64) (dfA k)).val (qaa (FT qdv) (stD o0 o1 o2 o3 r1 r0 p q a b c d))=(z1:Int):=by
   rw [qgk,vA,hs,List.getD_cons_zero];exact ql_ w1
  have a1:(SE.app 114 1 (some .u64) (dfA k)).val (qaa (FT qdv) (stD o0 o1 o2 o3 r1 r0 p q a b c d))=(z0:Int):=by
   rw [qgk,vA,hs,List.getD_cons_succ,List.getD_cons_zero];exact ql_ w0
  simp only [q5f,RT.get,uV,List.map]
  rw [v0,v1,v2,v3,a0,a1,i6,i7,i8,i9,i10,i11];rfl
 rw [eT,q1,q2]
 cases hb:decide (340282366920938463463374607431768211456≤2 * qbc r1 r0+e) with
 |true=>
  rw [cond_true]
  exact sub true _ hb.symm rfl (Bool.true_or _)
 |false=>
  rw [cond_false]
  cases hls:decide (qbc x1 x0<qbc p q) with
  |true=>
   refine ⟨o0,o1,o2,o3,x1,x0,?_,⟨hl.l0,hl.l1,hl.l2,hl.l3,lx1,lx0⟩,div_out D hB he hx hb.symm hls⟩
   show (q0z k).get _=_
   simp only [q0z,RT.get,uV,List.map]
   rw [vHi,vLo,i0,i1,i2,i3,i6,i7,i8,i9,i10,i11];rfl
  |false=>
   exact sub false false hb.symm hls rfl
theorem zpr {p q a b c d:Nat} (lp:p<18446744073709551616) (lq:q<18446744073709551616) (la:a<18446744073709551616) (lb:b<18446744073709551616) (lc:c<18446744073709551616) (ld:d<18446744073709551616) (hB:¬qbc p q=0):
  ∀(m:Nat) {o0 o1 o2 o3 r1 r0:Nat},m≤256→LtD o0 o1 o2 o3 r1 r0→DivNum (qbr a b c d) (qbc p q) m (qbc r1 r0) (qbr o3 o2 o1 o0)→
  ∃y0 y1 y2 y3 z1 z0:Nat,qkx zhh (FT qdv) (256 - m) (m+1) (stD o0 o1 o2 o3 r1 r0 p q a b c d)=some (0,stD y0 y1 y2 y3 z1 z0 p q a b c d)∧LtD y0 y1 y2 y3 z1 z0∧DivNum (qbr a b c d) (qbc p q) 0 (qbc z1 z0) (qbr y3 y2 y1 y0)
 |0,o0,o1,o2,o3,r1,r0,_,hl,D=>by
  refine ⟨o0,o1,o2,o3,r1,r0,?_,hl,D⟩
  have e:zhh 256= .out 0 dfIds:=rfl
  simp only [qkx,Nat.sub_zero,e,RT.get,dfIds,uV,List.map]
  rw [qen (j:=0) rfl hl.l0,qen (j:=1) rfl hl.l1,qen (j:=2) rfl hl.l2,qen (j:=3) rfl hl.l3,qen (j:=4) rfl hl.m1,qen (j:=5) rfl hl.m0,qen (j:=6) rfl lp,qen (j:=7) rfl lq,qen (j:=8) rfl la,qen (j:=9) rfl lb,qen (j:=10) rfl lc,qen (j:=11) rfl ld]
  rfl
 |m+1,o0,o1,o2,o3,r1,r0,hm,hl,D=>by
  obtain ⟨y0,y1,y2,y3,z1,z0,h1,h2,h3⟩:=zxo lp lq la lb lc ld hB hl m (by omega) D
  obtain ⟨u0,u1,u2,u3,t1,t0,g1,g2,g3⟩:=zpr lp lq la lb lc ld hB m (by omega) h2 h3
  refine ⟨u0,u1,u2,u3,t1,t0,?_,g2,g3⟩
  have e:zhh (256 - (m+1))=dfT (255 - m):=by
   rw [show 256 - (m+1)=255 - m by omega]
   unfold zhh
   rw [show Nat.blt (255 - m) 256=true by rw [Nat.blt_eq];omega,cond_true]
  have e2:256 - (m+1)+1=256 - m:=by omega
  show (match (zhh (256 - (m+1))).get (qaa (FT qdv) (stD o0 o1 o2 o3 r1 r0 p q a b c d)) with |(none,ys)=>qkx zhh (FT qdv) (256 - (m+1)+1) (m+1) ys |(some e,ys)=>some (e,ys))=_
  rw [e,h1,e2]
  exact g1
theorem z8c {p q a b c d:Nat} (lp:p<18446744073709551616) (lq:q<18446744073709551616) (la:a<18446744073709551616) (lb:b<18446744073709551616) (lc:c<18446744073709551616) (ld:d<18446744073709551616) (hB:¬qbc p q=0):
  dfG (FT qdv) (stD 0 0 0 0 0 0 p q a b c d)=0::stD (wrd 0 (qbr a b c d / qbc p q)) (wrd 1 (qbr a b c d / qbc p q)) (wrd 2 (qbr a b c d / qbc p q)) (wrd 3 (qbr a b c d / qbc p q)) (wrd 1 (qbr a b c d % qbc p q)) (wrd 0 (qbr a b c d % qbc p q)) p q a b c d:=by
 have hA:qbr a b c d<2 ^ 256:=by unfold qbr;simp only [Nat.reducePow];omega
 have D0:DivNum (qbr a b c d) (qbc p q) 256 (qbc 0 0) (qbr 0 0 0 0):=by
  have e:qbr a b c d / 2 ^ 256=0:=Nat.div_eq_of_lt hA
  exact ⟨Nat.le_refl _,by rw [e,Nat.zero_mod];rfl,by rw [e,Nat.zero_div,Nat.zero_mul];rfl⟩
 obtain ⟨y0,y1,y2,y3,z1,z0,h1,h2,h3⟩:=zpr lp lq la lb lc ld hB 256 (Nat.le_refl _) (o0:=0) (o1:=0) (o2:=0) (o3:=0) (r1:=0) (r0:=0) ⟨by decide,by decide,by decide,by decide,by decide,by decide⟩ D0
 obtain ⟨e3,e2,e1,e0,f1,f0⟩:=div_end h3 h2.m1 h2.m0 h2.l3 h2.l2 h2.l1 h2.l0
 have ei:dfIds.map (SE.val (qaa (FT qdv) (stD 0 0 0 0 0 0 p q a b c d)))=stD 0 0 0 0 0 0 p q a b c d:=by
  simp only [dfIds,uV,List.map]
  rw [qen (j:=0) (n:=0) rfl (by decide),qen (j:=1) (n:=0) rfl (by decide),qen (j:=2) (n:=0) rfl (by decide),qen (j:=3) (n:=0) rfl (by decide),qen (j:=4) (n:=0) rfl (by decide),qen (j:=5) (n:=0) rfl (by decide),qen (j:=6) rfl lp,qen (j:=7) rfl lq,qen (j:=8) rfl la,qen (j:=9) rfl lb,qen (j:=10) rfl lc,qen (j:=11) rfl ld]
  rfl
 unfold dfG qfv
 rw [ei,h1,e3,e2,e1,e0,f1,f0]
 rfl
end Go.Proofs.YtilkebpcjklmfaaGreat.Own
namespace Go.Proofs.YtilkebpcjklmfaaGreat.Own
open Go Go.RowKit Go.Proofs
set_option maxRecDepth 100000
set_option maxHeartbeats 40000000
abbrev B8:SE:=.cons Al (.cons Al (.cons Al (.cons Al (.cons Al (.cons Al (.cons As (.cons BV DS)))))))
def zgr:ST:=(.ask (.and (.cmp .eql As Al) (.and (.cmp .eql BV Al) Ap)) (.leaf (.agg [Ak,Ak,Ak,Ak,Ak,Ak,BK])) (.leaf (.agg [(.opq (.app 14706 4 (some .u64) B8)),(.opq (.app 14706 3 (some .u64) B8)),(.opq (.app 14706 2 (some .u64) B8)),(.opq (.app 14706 1 (some .u64) B8)),(.opq (.app 14706 5 (some .u64) B8)),(.opq (.app 14706 6 (some .u64) B8)),BQ])))
noncomputable def qrt:List Ent:=⟨126,[.agg [some .u64,some .u64,some .u64,some .u64],.agg [some .u64,some .u64]],.one (.agg [some .u64,some .u64,some .u64,some .u64,some .u64,some .u64,none]),qaf zgr,false⟩::qk9
theorem q8k:qcd Tryz.prog qrt:=qbd (b:=bW.loops q8l) (qag qbi _) (qbj zn8) (d:=300) yet (fn rfl) (by kernel_rfl)
theorem zeq:LBs Tryz.prog q8l qrt:=qao zn8 (by kernel_rfl)
def yfb:List LEnt:=q8l
noncomputable def qw1:List Ent:=qrt
theorem zen:qcd Tryz.prog qw1:=q8k
theorem z6p:LBs Tryz.prog q8l qw1:=zeq
end Go.Proofs.YtilkebpcjklmfaaGreat.Own
namespace Go.Proofs.YtilkebpcjklmfaaGreat.Own
open Go Go.RowKit Go.Proofs Go.Proofs.YtilkebpcjklmfaaGreat.Plain
open Go.Proofs.YtilkebpcjklmfaaGreat.Limb (n2 n4 double_words)
set_option maxRecDepth 100000
set_option maxHeartbeats 40000000
theorem qlq {a b:SE} {e:Env}:((SE.and a b).val e !=0)=((a.val e !=0)&&(b.val e !=0)):=by simp only [SE.val,qas]
theorem q6j {p q a b c d:Nat} (lp:p<18446744073709551616) (lq:q<18446744073709551616) (la:a<18446744073709551616) (lb:b<18446744073709551616) (lc:c<18446744073709551616) (ld:d<18446744073709551616) (hB:¬qbc p q=0) (Q R:Nat) (hQ:qbr a b c d / qbc p q=Q) (hR:qbr a b c d % qbc p q=R):
  FT qw1 126 [(a:Int),(b:Int),(c:Int),(d:Int),(p:Int),(q:Int)]=[((wrd 3 Q:Nat):Int),((wrd 2 Q:Nat):Int),((wrd 1 Q:Nat):Int),((wrd 0 Q:Nat):Int),((wrd 1 R:Nat):Int),((wrd 0 R:Nat):Int),1]:=by
 have g:FT qw1 126=qaf zgr (FT qk9):=by kernel_rfl
 have gl:FT qk9 14706=dfG (FT qdv):=by kernel_rfl
 have hv:=z8c lp lq la lb lc ld hB
 rw [hQ,hR] at hv
 have w3:=qg0 3 Q;have w2:=qg0 2 Q;have w1:=qg0 1 Q;have w0:=qg0 0 Q;have z1:=qg0 1 R;have z0:=qg0 0 R
 generalize wrd 3 Q=Q3 at *
 generalize wrd 2 Q=Q2 at *
 generalize wrd 1 Q=Q1 at *
 generalize wrd 0 Q=Q0 at *
 generalize wrd 1 R=R1 at *
 generalize wrd 0 R=R0 at *
 rw [g]
 have i0:=qen (F:=FT qk9) (zs:=[(a:Int),(b:Int),(c:Int),(d:Int),(p:Int),(q:Int)]) (j:=0) rfl la
 have i1:=qen (F:=FT qk9) (zs:=[(a:Int),(b:Int),(c:Int),(d:Int),(p:Int),(q:Int)]) (j:=1) rfl lb
 have i2:=qen (F:=FT qk9) (zs:=[(a:Int),(b:Int),(c:Int),(d:Int),(p:Int),(q:Int)]) (j:=2) rfl lc
 have i3:=qen (F:=FT qk9) (zs:=[(a:Int),(b:Int),(c:Int),(d:Int),(p:Int),(q:Int)]) (j:=3) rfl ld
 have i4:=qen (F:=FT qk9) (zs:=[(a:Int),(b:Int),(c:Int),(d:Int),(p:Int),(q:Int)]) (j:=4) rfl lp
 have i5:=qen (F:=FT qk9) (zs:=[(a:Int),(b:Int),(c:Int),(d:Int),(p:Int),(q:Int)]) (j:=5) rfl lq
 have hz:((SE.and (.cmp .eql (.ivar .u64 4) (.lit .u64 0)) (.and (.cmp .eql (.ivar .u64 5) (.lit .u64 0)) (.cmp .eql (.lit .i64 1) (.lit .i64 1)))).val (qaa (FT qk9) [(a:Int),(b:Int),(c:Int),(d:Int),(p:Int),(q:Int)]) !=0)=false:=by
  rw [qlq,qlq,qce,qce,i4,i5,qai,w0u]
  simp only [qa8]
  by_cases h:p=0
  ·have:¬q=0:=fun h2=>hB (by subst h h2;rfl)
   rw [show ((q:Int)==0)=false by rw [beq_eq_false_iff_ne];omega];simp
  ·rw [show ((p:Int)==0)=false by rw [beq_eq_false_iff_ne];omega];simp
 have ap:∀(i n:Nat),((0:Int)::stD Q0 Q1 Q2 Q3 R1 R0 p q a b c d).getD i 0=(n:Int)→n<18446744073709551616→(SE.app 14706 i (some .u64) (.cons (.lit .u64 0) (.cons (.lit .u64 0) (.cons (.lit .u64 0) (.cons (.lit .u64 0) (.cons (.lit .u64 0) (.cons (.lit .u64 0) (.cons (.ivar .u64 4) (.cons (.ivar .u64 5) (.cons (.ivar .u64 0) (.cons (.ivar .u64 1) (.cons (.ivar .u64 2) (.cons (.ivar .u64 3) .nil))))))))))))).val (qaa (FT qk9) [(a:Int),(b:Int),(c:Int),(d:Int),(p:Int),(q:Int)])=(n:Int):=by
  intro i n h hn
  rw [qgk]
  simp only [qab,qad,i0,i1,i2,i3,i4,i5,qai,w0u]
  rw [gl]
  have e:[(0:Int),0,0,0,0,0,(p:Int),(q:Int),(a:Int),(b:Int),(c:Int),(d:Int)]=stD 0 0 0 0 0 0 p q a b c d:=rfl
  rw [e,hv,h]
  exact ql_ hn
 simp only [qaf,zgr,ST.get]
 rw [hz,cond_false]
 simp only [qc0,List.map,qfn]
 rw [ap 4 Q3 rfl w3,ap 3 Q2 rfl w2,ap 2 Q1 rfl w1,ap 1 Q0 rfl w0,ap 5 R1 rfl z1,ap 6 R0 rfl z0]
 rfl
theorem qml {n:Nat} (h:n<18446744073709551616):inK (some .u64) (n:Int):=ql_ h
theorem q5m (A:Four) (B:Two) (hB:B.n≠0):Pure Tryz.prog 126 #[A.v,B.v] (.agg #[.int .u64 (Four.of (A.n / B.n)).hi.hi,.int .u64 (Four.of (A.n / B.n)).hi.lo,.int .u64 (Four.of (A.n / B.n)).lo.hi,.int .u64 (Four.of (A.n / B.n)).lo.lo,.int .u64 (Two.of (A.n % B.n)).hi,.int .u64 (Two.of (A.n % B.n)).lo,.bool true]):=by
 obtain ⟨⟨x3,x2,hx⟩,⟨x1,x0,hx'⟩⟩:=A
 obtain ⟨y1,y0,hy⟩:=B
 obtain ⟨a3,rfl⟩:=Int.eq_ofNat_of_zero_le hx.1
 obtain ⟨a2,rfl⟩:=Int.eq_ofNat_of_zero_le hx.2.2.1
 obtain ⟨a1,rfl⟩:=Int.eq_ofNat_of_zero_le hx'.1
 obtain ⟨a0,rfl⟩:=Int.eq_ofNat_of_zero_le hx'.2.2.1
 obtain ⟨b1,rfl⟩:=Int.eq_ofNat_of_zero_le hy.1
 obtain ⟨b0,rfl⟩:=Int.eq_ofNat_of_zero_le hy.2.2.1
 have hne:¬qbc b1 b0=0:=hB
 obtain ⟨Q,hQ⟩:∃Q,qbr a3 a2 a1 a0 / qbc b1 b0=Q:=⟨_,rfl⟩
 obtain ⟨R,hR⟩:∃R,qbr a3 a2 a1 a0 % qbc b1 b0=R:=⟨_,rfl⟩
 have hv:=q6j (p:=b1) (q:=b0) (a:=a3) (b:=a2) (c:=a1) (d:=a0) (by omega) (by omega) (by omega) (by omega) (by omega) (by omega) hne Q R hQ hR
 have hc:=((zen 126 [.agg [some .u64,some .u64,some .u64,some .u64],.agg [some .u64,some .u64]] (.one (.agg [some .u64,some .u64,some .u64,some .u64,some .u64,some .u64,none])) rfl).2 [(a3:Int),(a2:Int),(a1:Int),(a0:Int),(b1:Int),(b0:Int)] ⟨qml (by omega),qml (by omega),qml (by omega),qml (by omega),qml (by omega),qml (by omega),trivial⟩).2
 rw [hv] at hc
 have e1:(⟨⟨(a3:Int),(a2:Int),hx⟩,⟨(a1:Int),(a0:Int),hx'⟩⟩:Four).n / (⟨(b1:Int),(b0:Int),hy⟩:Two).n=Q:=hQ
 have e2:(⟨⟨(a3:Int),(a2:Int),hx⟩,⟨(a1:Int),(a0:Int),hx'⟩⟩:Four).n % (⟨(b1:Int),(b0:Int),hy⟩:Two).n=R:=hR
 rw [e1,e2]
 exact hc
theorem zro:(evF (cfT bW [] []) 300 125 [.agg [.int .u64 0,.int .u64 0,.opq (.ivar .u64 0),.opq (.ivar .u64 1)],.one (.int .i64 65)] [] [] 0).map (·.1)=some (.agg [.opq (.bin .or .u64 (.lit .u64 0) (.bin .shr .u64 (.ivar .u64 0) (.lit .i64 63))),.opq (.bin .or .u64 (.bin .shl .u64 (.ivar .u64 0) (.lit .i64 1)) (.bin .shr .u64 (.ivar .u64 1) (.lit .i64 63))),.opq (.bin .shl .u64 (.ivar .u64 1) (.lit .i64 1)),.int .u64 0]):=by kernel_rfl
theorem w63i:IntKind.i64.wrap 63=((63:Nat):Int):=rfl
theorem w1i:IntKind.i64.wrap 1=1:=rfl
theorem ycg (a b:Int):qbg .or .u64 a b=IntKind.u64.wrap (bits .or .u64 a b):=by unfold qbg;rfl
theorem sh2 (n:Nat):IntKind.u64.wrap ((n:Int) * 2)=((n * 2 % 18446744073709551616:Nat):Int):=by rw [IntKind.wrap_u64];omega
theorem qwj (h l:Nat) (hh:h<18446744073709551616) (hl:l<18446744073709551616):Pure Tryz.prog 125 #[.agg #[.int .u64 0,.int .u64 0,.int .u64 (h:Int),.int .u64 (l:Int)],.int .i64 65] (.agg #[.int .u64 ((h / 9223372036854775808:Nat):Int),.int .u64 ((h * 2 % 18446744073709551616|||l / 9223372036854775808:Nat):Int),.int .u64 ((l * 2 % 18446744073709551616:Nat):Int),.int .u64 0]):=by
 have i0:=qen (F:=FT []) (zs:=[(h:Int),(l:Int)]) (j:=0) rfl hh
 have i1:=qen (F:=FT []) (zs:=[(h:Int),(l:Int)]) (j:=1) rfl hl
 have p63:∀n:Nat,n / 2 ^ 63=n / 9223372036854775808:=fun n=>by simp only [Nat.reducePow]
 have b1:h / 9223372036854775808<18446744073709551616:=by omega
 have v1:(SE.bin .or .u64 (.lit .u64 0) (.bin .shr .u64 (.ivar .u64 0) (.lit .i64 63))).val (qaa (FT []) [(h:Int),(l:Int)])=((h / 9223372036854775808:Nat):Int):=by
  rw [qe7,qe7,qai,qai,i0,w63i,w0u,qt3 h 63 (by omega) hh,p63,ycg]
  have:=u64_or_nat 0 (h / 9223372036854775808) (by decide) b1
  rw [Nat.zero_or] at this
  have h':bits .or .u64 0 ((h / 9223372036854775808:Nat):Int)=((h / 9223372036854775808:Nat):Int):=this
  rw [h'];exact ql_ b1
 have v2:(SE.bin .or .u64 (.bin .shl .u64 (.ivar .u64 0) (.lit .i64 1)) (.bin .shr .u64 (.ivar .u64 1) (.lit .i64 63))).val (qaa (FT []) [(h:Int),(l:Int)])=((h * 2 % 18446744073709551616|||l / 9223372036854775808:Nat):Int):=by
  rw [qe7,qe7,qe7,qai,qai,i0,i1,w63i,w1i,qt3 l 63 (by omega) hl,p63,qs1,ycg,sh2,u64_or_nat _ _ (Nat.mod_lt _ (by decide)) (by omega)]
  exact ql_ (double_words h l 0 (by omega) hh hl).1
 have v3:(SE.bin .shl .u64 (.ivar .u64 1) (.lit .i64 1)).val (qaa (FT []) [(h:Int),(l:Int)])=((l * 2 % 18446744073709551616:Nat):Int):=by
  rw [qe7,qai,i1,w1i,qs1,sh2]
 exact qmm (c:=cfT bW [] []) (d:=300) (vs:=[.agg [.int .u64 0,.int .u64 0,.opq (.ivar .u64 0),.opq (.ivar .u64 1)],.one (.int .i64 65)]) (okT qbi bW_l qvk rfl .nil) zro
  (.cons (.agg (.cons .int (.cons .int (.cons (qkt rfl i0) (.cons (qkt rfl i1) .nil))))) (.cons (.one .int) .nil))
  (.agg (.cons (qkt rfl v1) (.cons (qkt rfl v2) (.cons (qkt rfl v3) (.cons .int .nil)))))
theorem zni (h l x:Nat) (hh:h<18446744073709551616) (hl:l<18446744073709551616) (d:qbc x (l * 2 % 18446744073709551616)=(2 * qbc h l+0) % 340282366920938463463374607431768211456):qbr (h / 9223372036854775808) x (l * 2 % 18446744073709551616) 0=qbc h l * 36893488147419103232:=by
 have q1:(2 * qbc h l+0) / 340282366920938463463374607431768211456=h / 9223372036854775808:=by unfold qbc;omega
 have q2:=Nat.div_add_mod (2 * qbc h l+0) 340282366920938463463374607431768211456
 rw [q1,←d] at q2
 clear d q1
 generalize l * 2 % 18446744073709551616=t0 at *
 generalize h / 9223372036854775808=t2 at *
 unfold qbc at q2
 unfold qbr qbc
 omega
theorem zux (h l:Nat) (hh:h<18446744073709551616) (hl:l<18446744073709551616):qbr (h / 9223372036854775808) (h * 2 % 18446744073709551616|||l / 9223372036854775808) (l * 2 % 18446744073709551616) 0=qbc h l * 36893488147419103232:=by
 have d:=(double_words h l 0 (by omega) hh hl).2.2
 have e0:(l * 2 % 18446744073709551616|||0)=l * 2 % 18446744073709551616:=Nat.or_zero _
 rw [e0] at d
 generalize (h * 2 % 18446744073709551616|||l / 9223372036854775808)=x at *
 exact zni h l x hh hl d
theorem q4y (t:Two):Pure Tryz.prog 125 #[.agg #[.int .u64 0,.int .u64 0,.int .u64 t.hi,.int .u64 t.lo],.int .i64 65] (Four.of (t.n * 36893488147419103232)).v:=by
 obtain ⟨y1,y0,hy⟩:=t
 obtain ⟨h,rfl⟩:=Int.eq_ofNat_of_zero_le hy.1
 obtain ⟨l,rfl⟩:=Int.eq_ofNat_of_zero_le hy.2.2.1
 have hh:h<18446744073709551616:=by omega
 have hl:l<18446744073709551616:=by omega
 have hp:=qwj h l hh hl
 have hv:=zux h l hh hl
 have hb:=(double_words h l 0 (by omega) hh hl).1
 have key:∀F:Four,F.n=qbc h l * 36893488147419103232→F=Four.of (qbc h l * 36893488147419103232):=fun F h=>by rw [←h,Four.n_of]
 have e:(⟨(h:Int),(l:Int),hy⟩:Two).n=qbc h l:=rfl
 rw [e,←key ⟨⟨((h / 9223372036854775808:Nat):Int),((h * 2 % 18446744073709551616|||l / 9223372036854775808:Nat):Int),by omega⟩,⟨((l * 2 % 18446744073709551616:Nat):Int),0,by omega⟩⟩ hv]
 exact hp
def qx0 (x y:Nat):Nat:=(x * 36893488147419103232+y) / (2 * y % 340282366920938463463374607431768211456)
def qte (a b:Fx):Fx×Int:=if b.n=0 then (Fx.of 0,2) else told (Four.of (qx0 a.mag.n b.mag.n)) (!(a.below==b.below))
theorem qya (A:Four):Pure Tryz.prog 126 #[A.v,.agg #[.int .u64 0,.int .u64 0]] (.agg #[.int .u64 0,.int .u64 0,.int .u64 0,.int .u64 0,.int .u64 0,.int .u64 0,.bool false]):=by
 obtain ⟨⟨x3,x2,hx⟩,⟨x1,x0,hx'⟩⟩:=A
 have g:FT qw1 126=qaf zgr (FT qk9):=by kernel_rfl
 have ok:∀x:Int,0≤x∧x<18446744073709551616→inK (some .u64) x:=fun x h=>by show IntKind.u64.wrap x=x;rw [IntKind.wrap_u64];omega
 have hc:=((zen 126 [.agg [some .u64,some .u64,some .u64,some .u64],.agg [some .u64,some .u64]] (.one (.agg [some .u64,some .u64,some .u64,some .u64,some .u64,some .u64,none])) rfl).2 [x3,x2,x1,x0,0,0] ⟨ok _ ⟨hx.1,hx.2.1⟩,ok _ hx.2.2,ok _ ⟨hx'.1,hx'.2.1⟩,ok _ hx'.2.2,rfl,rfl,trivial⟩).2
 have hv:FT qw1 126 [x3,x2,x1,x0,0,0]=[0,0,0,0,0,0,0]:=by
  rw [g]
  have hz:((SE.and (.cmp .eql (.ivar .u64 4) (.lit .u64 0)) (.and (.cmp .eql (.ivar .u64 5) (.lit .u64 0)) (.cmp .eql (.lit .i64 1) (.lit .i64 1)))).val (qaa (FT qk9) [x3,x2,x1,x0,0,0]) !=0)=true:=by
   rw [qlq,qlq,qce,qce,qce,qen (n:=0) rfl (by decide),qen (n:=0) rfl (by decide),qai,qai,w0u,w1i];rfl
  simp only [qaf,zgr,ST.get]
  rw [hz,cond_true];rfl
 rw [hv] at hc
 exact hc
theorem zik (F:Four) (y:Two) (N:Nat) (hN:F.n+y.n=N) (hlt:N<115792089237316195423570985008687907853269984665640564039457584007913129639936):
  (340282366920938463463374607431768211456≤F.lo.n+y.n→(⟨Two.of (F.hi.n+1),Two.of (F.lo.n+y.n)⟩:Four).n=N)∧(¬340282366920938463463374607431768211456≤F.lo.n+y.n→(⟨F.hi,Two.of (F.lo.n+y.n)⟩:Four).n=N):=by
 have h0:=F.n_eq
 have hl:=F.lo.lt
 have hh:=F.hi.lt
 have hy:=y.lt
 have s:=Two.of_n (F.lo.n+y.n)
 have u:=Two.of_n (F.hi.n+1)
 refine ⟨fun h=> ?_,fun h=> ?_⟩
 ·rw [Four.n_eq ⟨_,_⟩];show (Two.of (F.hi.n+1)).n * _+(Two.of (F.lo.n+y.n)).n=_;rw [s,u];omega
 ·rw [Four.n_eq ⟨_,_⟩];show F.hi.n * _+(Two.of (F.lo.n+y.n)).n=_;rw [s];omega
theorem zh5 {t:Two} (h:t.n=0):t.v= .agg #[.int .u64 0,.int .u64 0]:=by
 have:=t.n_int;have:=t.b
 have h1:t.hi=0:=by omega
 have h2:t.lo=0:=by omega
 show Value.agg #[.int .u64 t.hi,.int .u64 t.lo]=_
 rw [h1,h2]
theorem qua (A:Four) (B:Two):∃r1 r0:Int,∃ok:Bool,Pure Tryz.prog 126 #[A.v,B.v] (.agg #[.int .u64 (Four.of (A.n / B.n)).hi.hi,.int .u64 (Four.of (A.n / B.n)).hi.lo,.int .u64 (Four.of (A.n / B.n)).lo.hi,.int .u64 (Four.of (A.n / B.n)).lo.lo,.int .u64 r1,.int .u64 r0,.bool ok]):=by
 by_cases h:B.n=0
 ·refine ⟨0,0,false,?_⟩
  have hp:=qya A
  rw [h,Nat.div_zero,zh5 h]
  exact hp
 ·exact ⟨_,_,_,q5m A B h⟩
theorem rd_lt (x y:Nat) (hx:x<340282366920938463463374607431768211456) (hy:y<340282366920938463463374607431768211456):x * 36893488147419103232+y<115792089237316195423570985008687907853269984665640564039457584007913129639936:=by omega
theorem zaa (x:Nat) (hx:x<340282366920938463463374607431768211456):(Four.of (x * 36893488147419103232)).n=x * 36893488147419103232:=by
 rw [Four.of_n];exact Nat.mod_eq_of_lt (by omega)
theorem zyh (y:Nat):(Two.of (y+y)).n=2 * y % 340282366920938463463374607431768211456:=by rw [Two.of_n];congr 1;omega
theorem qwb (b:Fx):b.n=0↔(b.hi=0∧b.lo=0):=by have:=b.b;unfold Fx.n;omega
theorem zba (a b:Fx):Pure Tryz.prog 109 #[a.v,b.v] (.agg #[.int .i64 (qte a b).1.hi,.int .u64 (qte a b).1.lo,.int .i64 (qte a b).2]):=by
 have o1:=qns a
 have o2:=qns b
 have s1:=q4y a.mag
 have ea:decide (a.hi<0)=a.below:=rfl
 have eb:decide (b.hi<0)=b.below:=rfl
 have c1:qbx .lss .i64 a.hi 0=some (.bool a.below):=by simp only [qbx,ea]
 have c2:qbx .lss .i64 b.hi 0=some (.bool b.below):=by simp only [qbx,eb]
 have hzi:=qwb b
 have tt:true=true:=rfl;have ff:false=false:=rfl;have nt:(!true)=false:=rfl;have nf:(!false)=true:=rfl
 by_cases hz:b.n=0
 ·have hr:qte a b=(Fx.of 0,2):=by unfold qte;rw [if_pos hz]
  rw [hr]
  obtain ⟨bh,bl,hb⟩:=b
  obtain ⟨h1,h2⟩:=hzi.1 hz
  have h1:bh=0:=h1
  have h2:bl=0:=h2
  subst h1 h2
  clear hr hz hzi o2 c2 eb
  have hz3:((⟨0,0,hb⟩:Fx).hi==0&&((⟨0,0,hb⟩:Fx).lo==0&&true))=true:=rfl
  refine qel Tryz.func109 rfl Tryz.ntmps109 rfl rfl (fun w0 Q hQ=> ?_)
  repeat' (
   first
    |refine qb4 (fun N hN=> ?_)
    |refine qc4 ?_
    |refine qcg (id:=3) [] (by kernel_rfl) (by kernel_rfl) ?_
    |refine qcg (id:=8) [] (by kernel_rfl) (by kernel_rfl) ?_
    |refine qb2 ?_
    |refine qc6 ?_
    |refine qee ?_
    |refine qc5 ?_
    |refine qeg (show X _ _ _ _ _ from ?_)
    |(refine qdd hN ?_;clear hN N)
    |(refine qa1 ?_;clear hN N)
    |(refine qam ?_;clear hN N)
    |refine qb3 ?_
    |refine qap ?_
    |refine qar ?_
    |refine qaj (by eq_refl) ?_
    |refine qda (h:= ?_)
    |refine qax (h:= ?_)
    |refine qa6 (h:= ?_)
    |refine qa4 (h:= ?_)
    |refine qes (h:= ?_)
    |refine qc7 (h:= ?_)
    |refine qbm (h:= ?_)
    |refine qbb (h:= ?_)
    |refine qa0 (hp:=o1) (h:= ?_)
    |refine qa0 (hp:=s1) (h:= ?_)
    |(refine qey (h:= ?_);intro g)
    |(refine qb8 (h:= ?_);intro g)
    |refine qb9 (h:= ?_)
    |refine qaw (h:= ?_)
    |refine qb7 (h:= ?_)
    |refine qc9 (h:= ?_)
    |refine qe5 (h:= ?_)
    |refine qe6 (h:= ?_)
    |refine qex (h:= ?_)
    |refine qew (h:= ?_)
    |refine qet (h:= ?_)
    |refine qbo (h:= ?_)
    |refine qbp (h:= ?_)
    |refine qeu (h:= ?_)
    |refine qep (h:= ?_)
    |refine qau (h:= ?_)
    |refine qe1 (h:= ?_)
    |refine qe3 (h:= ?_)
    |(refine qal (h:= ?_);intro g)
    |refine qah (h:= ?_)
    |refine qc_ (h:= ?_)
    |refine qb_ (h:= ?_)
    |(refine qev (by eq_refl) (by eq_refl) (qaz (by eq_refl)) (fun hask=> ?_) (fun hask=> ?_))
    |(refine qb5 (by eq_refl) (fun hif=> ?_) (fun hif=> ?_))
   )
  all_goals refine hQ _ _ (ret1 rfl (by (first |exact qfj |exact qfp)) ?_)
  all_goals rfl
 ·have hr:qte a b=told (Four.of (qx0 a.mag.n b.mag.n)) (!(a.below==b.below)):=by unfold qte;rw [if_neg hz]
  rw [hr]
  have sg:=qii (!(a.below==b.below)) (Four.of (qx0 a.mag.n b.mag.n))
  unfold qx0 at sg ⊢
  obtain ⟨k1,k0⟩:=zik (Four.of (a.mag.n * 36893488147419103232)) b.mag _ rfl (by rw [zaa _ a.mag.lt];exact rd_lt _ _ a.mag.lt b.mag.lt)
  rw [zaa _ a.mag.lt] at k1 k0
  have a1:=qis (Four.of (a.mag.n * 36893488147419103232)).lo b.mag
  have a2:=qis (Four.of (a.mag.n * 36893488147419103232)).hi ⟨0,1,by decide⟩
  have z1:(⟨0,1,by decide⟩:Two).n=1:=by kernel_rfl
  rw [z1] at a2
  have a3:=qis b.mag b.mag
  obtain ⟨r1,r0,ok,d1⟩:=qua ⟨Two.of ((Four.of (a.mag.n * 36893488147419103232)).hi.n+1),Two.of ((Four.of (a.mag.n * 36893488147419103232)).lo.n+b.mag.n)⟩ (Two.of (b.mag.n+b.mag.n))
  obtain ⟨t1,t0,ok',d0⟩:=qua ⟨(Four.of (a.mag.n * 36893488147419103232)).hi,Two.of ((Four.of (a.mag.n * 36893488147419103232)).lo.n+b.mag.n)⟩ (Two.of (b.mag.n+b.mag.n))
  rw [zyh] at d1 d0
  generalize hc:decide (340282366920938463463374607431768211456≤(Four.of (a.mag.n * 36893488147419103232)).lo.n+b.mag.n)=c at *
  have hcc:(340282366920938463463374607431768211456≤(Four.of (a.mag.n * 36893488147419103232)).lo.n+b.mag.n)↔c=true:=by rw [←hc];exact decide_eq_true_iff.symm
  rw [hcc] at k1 k0
  clear hcc hc hr ea eb
  generalize decide (340282366920938463463374607431768211456≤(Four.of (a.mag.n * 36893488147419103232)).hi.n+1)=c' at *
  generalize decide (340282366920938463463374607431768211456≤b.mag.n+b.mag.n)=c'' at *
  generalize Two.of ((Four.of (a.mag.n * 36893488147419103232)).lo.n+b.mag.n)=S at *
  generalize Two.of ((Four.of (a.mag.n * 36893488147419103232)).hi.n+1)=U at *
  generalize Four.of (a.mag.n * 36893488147419103232)=FF at *
  generalize Two.of (b.mag.n+b.mag.n)=B2 at *
  generalize 2 * b.mag.n % 340282366920938463463374607431768211456=D2 at *
  generalize a.mag.n * 36893488147419103232+b.mag.n=NN at *
  have hz3:(b.hi==0&&(b.lo==0&&true))=false:=by
   rw [Bool.eq_false_iff];intro h;simp at h;exact hz (hzi.2 h)
  clear hz hzi
  cases c with
  |true=>
   rw [k1 rfl] at d1
   have d1':Pure Tryz.prog 126 #[.agg #[.int .u64 U.hi,.int .u64 U.lo,.int .u64 S.hi,.int .u64 S.lo],B2.v] _:=d1
   clear d0 d1 k0 k1
   generalize Four.of (NN / D2)=QQ at *
   generalize told QQ (!(a.below==b.below))=TT at *
   refine qel Tryz.func109 rfl Tryz.ntmps109 rfl rfl (fun w0 Q hQ=> ?_)
   repeat' (
    first
     |refine qb4 (fun N hN=> ?_)
     |refine qc4 ?_
     |refine qcg (id:=3) [] (by kernel_rfl) (by kernel_rfl) ?_
     |refine qcg (id:=8) [] (by kernel_rfl) (by kernel_rfl) ?_
     |refine qb2 ?_
     |refine qc6 ?_
     |refine qee ?_
     |refine qc5 ?_
     |refine qeg (show X _ _ _ _ _ from ?_)
     |(refine qdd hN ?_;clear hN N)
     |(refine qa1 ?_;clear hN N)
     |(refine qam ?_;clear hN N)
     |refine qb3 ?_
     |refine qap ?_
     |refine qar ?_
     |refine qaj (by eq_refl) ?_
     |refine qda (h:= ?_)
     |refine qax (h:= ?_)
     |refine qa6 (h:= ?_)
     |refine qa4 (h:= ?_)
     |refine qes (h:= ?_)
     |refine qc7 (h:= ?_)
     |refine qbm (h:= ?_)
     |refine qbb (h:= ?_)
     |refine qa0 (hp:=o1) (h:= ?_)
     |refine qa0 (hp:=o2) (h:= ?_)
     |refine qa0 (hp:=s1) (h:= ?_)
     |refine qa0 (hp:=a1) (h:= ?_)
     |refine qa0 (hp:=a2) (h:= ?_)
     |refine qa0 (hp:=a3) (h:= ?_)
     |refine qa0 (hp:=d1') (h:= ?_)
     |refine qa0 (hp:=sg) (h:= ?_)
     |(refine qey (h:= ?_);intro g)
     |(refine qb8 (h:= ?_);intro g)
     |refine qb9 (h:= ?_)
     |refine qaw (h:= ?_)
     |refine qb7 (h:= ?_)
     |refine qc9 (h:= ?_)
     |refine qe5 (h:= ?_)
     |refine qe6 (h:= ?_)
     |refine qex (h:= ?_)
     |refine qew (h:= ?_)
     |refine qet (h:= ?_)
     |refine qbo (h:= ?_)
     |refine qbp (h:= ?_)
     |refine qeu (h:= ?_)
     |refine qep (h:= ?_)
     |refine qau (h:= ?_)
     |refine qe1 (h:= ?_)
     |refine qe3 (h:= ?_)
     |(refine qal (h:= ?_);intro g)
     |refine qah (h:= ?_)
     |refine qc_ (h:= ?_)
     |refine qb_ (h:= ?_)
     |(refine qev (by eq_refl) (by eq_refl) (qaz (by eq_refl)) (fun hask=> ?_) (fun hask=> ?_))
     |(refine qb5 (by eq_refl) (fun hif=> ?_) (fun hif=> ?_))
    )
   all_goals refine hQ _ _ (ret1 rfl (by (first |exact qfj |exact qfp)) ?_)
   all_goals rfl
  |false=>
   rw [k0 (by decide)] at d0
   have d0':Pure Tryz.prog 126 #[.agg #[.int .u64 FF.hi.hi,.int .u64 FF.hi.lo,.int .u64 S.hi,.int .u64 S.lo],B2.v] _:=d0
   clear d0 d1 k0 k1
   generalize Four.of (NN / D2)=QQ at *
   generalize told QQ (!(a.below==b.below))=TT at *
   refine qel Tryz.func109 rfl Tryz.ntmps109 rfl rfl (fun w0 Q hQ=> ?_)
   repeat' (
    first
     |refine qb4 (fun N hN=> ?_)
     |refine qc4 ?_
     |refine qcg (id:=3) [] (by kernel_rfl) (by kernel_rfl) ?_
     |refine qcg (id:=8) [] (by kernel_rfl) (by kernel_rfl) ?_
     |refine qb2 ?_
     |refine qc6 ?_
     |refine qee ?_
     |refine qc5 ?_
     |refine qeg (show X _ _ _ _ _ from ?_)
     |(refine qdd hN ?_;clear hN N)
     |(refine qa1 ?_;clear hN N)
     |(refine qam ?_;clear hN N)
     |refine qb3 ?_
     |refine qap ?_
     |refine qar ?_
     |refine qaj (by eq_refl) ?_
     |refine qda (h:= ?_)
     |refine qax (h:= ?_)
     |refine qa6 (h:= ?_)
     |refine qa4 (h:= ?_)
     |refine qes (h:= ?_)
     |refine qc7 (h:= ?_)
     |refine qbm (h:= ?_)
     |refine qbb (h:= ?_)
     |refine qa0 (hp:=o1) (h:= ?_)
     |refine qa0 (hp:=o2) (h:= ?_)
     |refine qa0 (hp:=s1) (h:= ?_)
     |refine qa0 (hp:=a1) (h:= ?_)
     |refine qa0 (hp:=a2) (h:= ?_)
     |refine qa0 (hp:=a3) (h:= ?_)
     |refine qa0 (hp:=d0') (h:= ?_)
     |refine qa0 (hp:=sg) (h:= ?_)
     |(refine qey (h:= ?_);intro g)
     |(refine qb8 (h:= ?_);intro g)
     |refine qb9 (h:= ?_)
     |refine qaw (h:= ?_)
     |refine qb7 (h:= ?_)
     |refine qc9 (h:= ?_)
     |refine qe5 (h:= ?_)
     |refine qe6 (h:= ?_)
     |refine qex (h:= ?_)
     |refine qew (h:= ?_)
     |refine qet (h:= ?_)
     |refine qbo (h:= ?_)
     |refine qbp (h:= ?_)
     |refine qeu (h:= ?_)
     |refine qep (h:= ?_)
     |refine qau (h:= ?_)
     |refine qe1 (h:= ?_)
     |refine qe3 (h:= ?_)
     |(refine qal (h:= ?_);intro g)
     |refine qah (h:= ?_)
     |refine qc_ (h:= ?_)
     |refine qb_ (h:= ?_)
     |(refine qev (by eq_refl) (by eq_refl) (qaz (by eq_refl)) (fun hask=> ?_) (fun hask=> ?_))
     |(refine qb5 (by eq_refl) (fun hif=> ?_) (fun hif=> ?_))
    )
   all_goals refine hQ _ _ (ret1 rfl (by (first |exact qfj |exact qfp)) ?_)
   all_goals rfl
end Go.Proofs.YtilkebpcjklmfaaGreat.Own
namespace Go.Proofs.YtilkebpcjklmfaaGreat.Own
open Go Go.RowKit Go.Proofs Go.Proofs.YtilkebpcjklmfaaGreat.Plain
set_option maxRecDepth 100000
set_option maxHeartbeats 40000000
theorem zka (N y Q R:Nat) (h0:0<y) (q:y * Q+R=N) (r:R<y):(2 * N+y) / (2 * y)=if y - R≤R then Q+1 else Q:=by
 subst q
 by_cases c:y - R≤R
 ·rw [if_pos c]
  have:2 * (y * Q+R)+y=2 * y * (Q+1)+(2 * R - y):=by rw [Nat.mul_add,Nat.mul_add,←Nat.mul_assoc];omega
  rw [this,Nat.mul_add_div (by omega),Nat.div_eq_of_lt (by omega)]
 ·rw [if_neg c]
  have:2 * (y * Q+R)+y=2 * y * Q+(2 * R+y):=by rw [Nat.mul_add,←Nat.mul_assoc];omega
  rw [this,Nat.mul_add_div (by omega),Nat.div_eq_of_lt (by omega),Nat.add_zero]
theorem zkt (x y:Nat) (h0:0<y) (h:y<170141183460469231731687303715884105728):qx0 x y=qtr x y:=by
 unfold qx0 qtr
 have e1:2 * y % 340282366920938463463374607431768211456=2 * y:=Nat.mod_eq_of_lt (by omega)
 have e:x * 36893488147419103232=2 * (x * 18446744073709551616):=by
  rw [Nat.mul_comm 2,Nat.mul_assoc]
 rw [e1,e]
 exact zka _ _ _ _ h0 (Nat.div_add_mod (x * 18446744073709551616) y) (Nat.mod_lt (x * 18446744073709551616) h0)
theorem zs6 (a b:Fx) (h:b.mag.n<170141183460469231731687303715884105728):qte a b=fdiv a b:=by
 unfold qte fdiv
 have e:=b.mag_n
 by_cases c:b.n=0
 ·rw [if_pos c,if_pos (by omega)]
 ·rw [if_neg c,if_neg (by omega),zkt _ _ (by omega) h]
theorem zkv (a b:Fx):(qte a b).2=0∨(qte a b).2=2∨(qte a b).2=3:=by
 unfold qte
 split
 ·exact .inr (.inl rfl)
 ·rcases qma (Four.of (qx0 a.mag.n b.mag.n)) (!(a.below==b.below)) with h |h
  ·exact .inl h
  ·exact .inr (.inr h)
def qx7 (xs:List Int):List Int:=let p:=qte (fxW (xs.getD 0 0) (xs.getD 1 0)) (fxW (xs.getD 2 0) (xs.getD 3 0));[p.1.hi,p.1.lo,p.2]
theorem q38 (x0 x1 x2 x3:Int):qx7 [x0,x1,x2,x3]=[(qte (fxW x0 x1) (fxW x2 x3)).1.hi,(qte (fxW x0 x1) (fxW x2 x3)).1.lo,(qte (fxW x0 x1) (fxW x2 x3)).2]:=by
 unfold qx7
 simp only [List.getD_cons_zero,List.getD_cons_succ]
theorem zsb {p:Fx×Int} (he:p.2=0∨p.2=2∨p.2=3) {f:FuncId} {args:Array Value} (hp:Pure Tryz.prog f args (.agg #[.int .i64 p.1.hi,.int .u64 p.1.lo,.int .i64 p.2])):InC [some .i64,some .u64,some .i64] [p.1.hi,p.1.lo,p.2]∧Pure Tryz.prog f args (qui (.one (.agg [some .i64,some .u64,some .i64])) [p.1.hi,p.1.lo,p.2]):=
 ⟨⟨(qvq p.1).1,(qvq p.1).2,qx8 he,trivial⟩,hp⟩
theorem zjj:CTE Tryz.prog qx7 109 [kFx,kFx] (.one (.agg [some .i64,some .u64,some .i64])):=fun xs h=>by
 obtain ⟨x0,x1,x2,x3,rfl,h0,h1,h2,h3⟩:=in4 h
 have e1:=qtl h0 h1
 have e2:=qtl h2 h3
 have hp:=zba (fxW x0 x1) (fxW x2 x3)
 rw [e1,e2] at hp
 have he:=zkv (fxW x0 x1) (fxW x2 x3)
 rw [q38]
 have hq:=zsb he hp
 clear he hp e1 e2
 generalize qte (fxW x0 x1) (fxW x2 x3)=p at hq ⊢
 exact ⟨hq.1,hq.2⟩
noncomputable def qwk:List Ent:=⟨109,[kFx,kFx],.one (.agg [some .i64,some .u64,some .i64]),fun _=>qx7,false⟩::qw1
theorem yb3:qcd Tryz.prog qwk:=qih zen rfl (by kernel_rfl) zjj
def qeb:List LEnt:=yfb
theorem zqk:LBs Tryz.prog yfb qwk:=qao z6p (by kernel_rfl)
end Go.Proofs.YtilkebpcjklmfaaGreat.Own
namespace Go.Proofs.YtilkebpcjklmfaaGreat.Own
open Go Go.RowKit Go.Proofs
set_option maxRecDepth 100000
set_option maxHeartbeats 40000000
def tr53:ST:=(.ask (.cmp .geq Ah Af) (.leaf (.one (.opq (.cmp .leq Ah Ai)))) (.leaf CW))
noncomputable def qdt:List Ent:=⟨17,[.one (some .i64),.one (some .i64),.one (some .i64)],.one (.one none),qaf tr53,false⟩::qwk
theorem zj8:qcd Tryz.prog qdt:=qbd (b:=bW.loops qeb) (qag qbi _) (qbj zqk) (d:=300) yb3 (fn rfl) (by kernel_rfl)
theorem q2y:LBs Tryz.prog qeb qdt:=qao zqk (by kernel_rfl)
def tr89:ST:=(.ask (.cmp .neq Ah F5) (.leaf (.one BQ)) (.leaf (.one (.opq (.cmp .neq At Al)))))
noncomputable def qef:List Ent:=⟨36,[.agg [some .i64,some .u64]],.one (.one none),qaf tr89,false⟩::qdt
theorem zh3:qcd Tryz.prog qef:=qbd (b:=bW.loops qeb) (qag qbi _) (qbj q2y) (d:=300) zj8 (fn rfl) (by kernel_rfl)
theorem q2c:LBs Tryz.prog qeb qef:=qao q2y (by kernel_rfl)
abbrev Hw:SE:=.cmp .eql Ah Ai
def zvn:ST:=(.ask (.cmp .lss Ah Ai) (.leaf (.one (.int .i64 (-1)))) (.ask Hw (.ask Eh (.leaf (.one (.int .i64 (-1)))) (.ask (.and Hw (.and (.cmp .eql At Av) Ap)) (.leaf Bi) (.leaf (.one (.int .i64 1))))) (.ask (.and Hw (.and (.cmp .eql At Av) Ap)) (.leaf Bi) (.leaf (.one (.int .i64 1))))))
noncomputable def qc1:List Ent:=⟨70,[.agg [some .i64,some .u64],.agg [some .i64,some .u64]],.one (.one (some .i64)),qaf zvn,false⟩::qef
theorem q7t:qcd Tryz.prog qc1:=qbd (b:=bW.loops qeb) (qag qbi _) (qbj q2c) (d:=300) zh3 (fn rfl) (by kernel_rfl)
theorem qvc:LBs Tryz.prog qeb qc1:=qao q2c (by kernel_rfl)
abbrev Hx:SE:=.app 36 0 none Bx
def tr88:ST:=(.ask Hx (.ask (.cmp .geq (.app 70 0 (some .i64) Gc) Aa) (.leaf (.one (.opq (.cmp .leq (.app 70 0 (some .i64) Cw) Aa)))) (.leaf CW)) (.leaf CW))
noncomputable def qgb:List Ent:=⟨35,[.agg [some .i64,some .u64],.agg [some .i64,some .u64],.agg [some .i64,some .u64]],.one (.one none),qaf tr88,false⟩::qc1
theorem zkl:qcd Tryz.prog qgb:=qbd (b:=bW.loops qeb) (qag qbi _) (qbj qvc) (d:=300) q7t (fn rfl) (by kernel_rfl)
theorem q0l:LBs Tryz.prog qeb qgb:=qao qvc (by kernel_rfl)
abbrev Hy:SE:=.cons (.app 33 0 (some .i64) Cv) (.cons (.app 33 1 (some .u64) Cv) .nil)
def tr54:ST:=(.leaf (.one (.opq (.app 35 0 none (.cons Ah (.cons At (.cons Aa (.cons Al Hy))))))))
noncomputable def qf4:List Ent:=⟨18,[.agg [some .i64,some .u64],.one (some .i64)],.one (.one none),qaf tr54,false⟩::qgb
theorem zjf:qcd Tryz.prog qf4:=qbd (b:=bW.loops qeb) (qag qbi _) (qbj q0l) (d:=300) zkl (fn rfl) (by kernel_rfl)
theorem q0d:LBs Tryz.prog qeb qf4:=qao q0l (by kernel_rfl)
def tr55:ST:=(.ask Hx (.leaf (.one (.opq (.app 36 0 none BP)))) (.leaf CW))
noncomputable def qej:List Ent:=⟨19,[.agg [some .i64,some .u64,some .i64,some .u64]],.one (.one none),qaf tr55,false⟩::qf4
theorem zm6:qcd Tryz.prog qej:=qbd (b:=bW.loops qeb) (qag qbi _) (qbj q0d) (d:=300) zjf (fn rfl) (by kernel_rfl)
theorem qzr:LBs Tryz.prog qeb qej:=qao q0d (by kernel_rfl)
def tr73:ST:=(.leaf (.agg [(.opq (.conv .i64 (.app 114 0 (some .u64) CX))),(.opq (.app 114 1 (some .u64) CX))]))
noncomputable def qkv:List Ent:=⟨98,[.agg [some .i64,some .u64]],.one (.agg [some .i64,some .u64]),qaf tr73,false⟩::qej
theorem ziy:qcd Tryz.prog qkv:=qbd (b:=bW.loops qeb) (qag qbi _) (qbj qzr) (d:=300) zm6 (fn rfl) (by kernel_rfl)
theorem q2b:LBs Tryz.prog qeb qkv:=qao qzr (by kernel_rfl)
def tr32:ST:=(.ask (.cmp .lss Ah Aa) (.leaf (.agg [(.opq (.conv .u64 (.app 98 0 (some .i64) Bx))),(.opq (.app 98 1 (some .u64) Bx))])) (.leaf (.agg [(.opq DR),Bz])))
noncomputable def qwr:List Ent:=⟨110,[.agg [some .i64,some .u64]],.one (.agg [some .u64,some .u64]),qaf tr32,false⟩::qkv
theorem zh4:qcd Tryz.prog qwr:=qbd (b:=bW.loops qeb) (qag qbi _) (qbj q2b) (d:=300) ziy (fn rfl) (by kernel_rfl)
theorem qze:LBs Tryz.prog qeb qwr:=qao q2b (by kernel_rfl)
abbrev Hz:SE:=.bin .add .u64 At Av
abbrev Ej:SE:=.bin .add .u64 Bb Am
abbrev HA:SE:=.cmp .lss Ej Bb
abbrev HB:SE:=.bin .add .u64 Ej Ei
abbrev C8:C:=.opq Hz
abbrev HC:C:=.opq (.bin .add .u64 Ej Al)
def tr34:ST:=(.ask (.cmp .lss Hz At) (.ask HA (.leaf (.agg [(.opq HB),C8,BQ])) (.leaf (.agg [(.opq HB),C8,(.opq (.cmp .eql HB Al))]))) (.ask HA (.leaf (.agg [HC,C8,BQ])) (.leaf (.agg [HC,C8,BK]))))
noncomputable def qw3:List Ent:=⟨112,[.agg [some .u64,some .u64],.agg [some .u64,some .u64]],.one (.agg [some .u64,some .u64,none]),qaf tr34,false⟩::qwr
theorem zm5:qcd Tryz.prog qw3:=qbd (b:=bW.loops qeb) (qag qbi _) (qbj qze) (d:=300) zh4 (fn rfl) (by kernel_rfl)
theorem q3g:LBs Tryz.prog qeb qw3:=qao qze (by kernel_rfl)
abbrev HD:SE:=.and (.cmp .eql Am Al) Ap
abbrev HE:SE:=.cons (.conv .i64 Av) (.cons As .nil)
def tr33:ST:=(.ask (.not (.and F6 HD)) (.leaf (.agg [Ad,Ak,(.int .i64 3)])) (.ask (.cmp .geq Av (.lit .u64 9223372036854775808)) (.leaf (.agg [Ad,Ak,(.int .i64 3)])) (.ask (.bvar 0) (.leaf (.agg [(.opq (.app 98 0 (some .i64) HE)),(.opq (.app 98 1 (some .u64) HE)),Ad])) (.leaf (.agg [(.opq (.conv .i64 Av)),BE,Ad])))))
noncomputable def qgr:List Ent:=⟨111,[.one none,.agg [some .u64,some .u64,some .u64,some .u64]],.one (.agg [some .i64,some .u64,some .i64]),qaf tr33,false⟩::qw3
theorem zhs:qcd Tryz.prog qgr:=qbd (b:=bW.loops qeb) (qag qbi _) (qbj q3g) (d:=300) zm5 (fn rfl) (by kernel_rfl)
theorem q02:LBs Tryz.prog qeb qgr:=qao q3g (by kernel_rfl)
abbrev Ek:SE:=.cons BL (.cons Cy Bx)
abbrev HF:SE:=.app 109 2 (some .i64) Ek
abbrev HG:SE:=.app 109 2 (some .i64) CY
def zug:ST:=(.ask (.cmp .neq HF Aa) (.leaf (.agg [Ad,Ak,Ad,Ak,(.opq HF)])) (.ask (.cmp .neq HG Aa) (.leaf (.agg [Ad,Ak,Ad,Ak,(.opq HG)])) (.leaf (.agg [(.opq (.app 109 0 (some .i64) Ek)),(.opq (.app 109 1 (some .u64) Ek)),(.opq (.app 109 0 (some .i64) CY)),(.opq (.app 109 1 (some .u64) CY)),Ad]))))
noncomputable def qcb:List Ent:=⟨95,[.agg [some .i64,some .u64,some .i64,some .u64,some .i64,some .u64,some .i64,some .u64,some .i64,some .u64,some .i64,some .u64,some .i64,some .u64,some .i64,some .u64,some .i64,some .u64,some .i64,some .i64]],.one (.agg [some .i64,some .u64,some .i64,some .u64,some .i64]),qaf zug,false⟩::qgr
theorem zby:qcd Tryz.prog qcb:=qbd (b:=bW.loops qeb) (qag qbi _) (qbj q02) (d:=300) zhs (fn rfl) (by kernel_rfl)
theorem qty:LBs Tryz.prog qeb qcb:=qao q02 (by kernel_rfl)
abbrev HH:SE:=.cons (.bin .sub .i64 Aa Ai) .nil
def zw5:ST:=(.ask (.cmp .gtr (.app 70 0 (some .i64) (.cons Ah (.cons At Hy))) Aa) (.leaf (.one BQ)) (.leaf (.one (.opq (.cmp .lss (.app 70 0 (some .i64) (.cons Ah (.cons At (.cons (.app 33 0 (some .i64) HH) (.cons (.app 33 1 (some .u64) HH) .nil))))) Aa)))))
noncomputable def qdk:List Ent:=⟨96,[.agg [some .i64,some .u64],.one (some .i64)],.one (.one none),qaf zw5,false⟩::qcb
theorem q9f:qcd Tryz.prog qdk:=qbd (b:=bW.loops qeb) (qag qbi _) (qbj qty) (d:=300) zby (fn rfl) (by kernel_rfl)
theorem qvf:LBs Tryz.prog qeb qdk:=qao qty (by kernel_rfl)
abbrev HI:SE:=.app 95 4 (some .i64) Be
def zxj:ST:=(.ask (.cmp .neq HI Aa) (.leaf (.agg [BK,(.opq HI)])) (.ask (.not (.app 96 0 none (.cons (.app 95 0 (some .i64) Be) (.cons (.app 95 1 (some .u64) Be) BR)))) (.leaf (.agg [(.opq (.not (.app 96 0 none (.cons (.app 95 2 (some .i64) Be) (.cons (.app 95 3 (some .u64) Be) BR))))),Ad])) (.leaf (.agg [BK,Ad]))))
noncomputable def qd3:List Ent:=⟨71,[.agg [some .i64,some .u64,some .i64,some .u64,some .i64,some .u64,some .i64,some .u64,some .i64,some .u64,some .i64,some .u64,some .i64,some .u64,some .i64,some .u64,some .i64,some .u64,some .i64,some .i64]],.one (.agg [none,some .i64]),qaf zxj,false⟩::qdk
theorem zgz:qcd Tryz.prog qd3:=qbd (b:=bW.loops qeb) (qag qbi _) (qbj qvf) (d:=300) q9f (fn rfl) (by kernel_rfl)
theorem qvu:LBs Tryz.prog qeb qd3:=qao qvf (by kernel_rfl)
abbrev El:SE:=.cons Ah (.cons At (.cons (.app 98 0 (some .i64) BP) (.cons (.app 98 1 (some .u64) BP) .nil)))
def zwc:ST:=(.leaf (.agg [(.opq (.app 97 0 (some .i64) El)),(.opq (.app 97 1 (some .u64) El)),(.opq (.app 97 2 (some .i64) El))]))
noncomputable def qd4:List Ent:=⟨72,[.agg [some .i64,some .u64],.agg [some .i64,some .u64]],.one (.agg [some .i64,some .u64,some .i64]),qaf zwc,false⟩::qd3
theorem zbf:qcd Tryz.prog qd4:=qbd (b:=bW.loops qeb) (qag qbi _) (qbj qvu) (d:=300) zgz (fn rfl) (by kernel_rfl)
theorem qtj:LBs Tryz.prog qeb qd4:=qao qvu (by kernel_rfl)
def zxe:ST:=(.ask (.not (.app 96 0 none (.cons Ah (.cons At BW)))) (.leaf (.one (.opq (.not (.app 96 0 none Gx))))) (.leaf CW))
noncomputable def qdj:List Ent:=⟨73,[.agg [some .i64,some .u64,some .i64,some .u64]],.one (.one none),qaf zxe,false⟩::qd4
theorem zcn:qcd Tryz.prog qdj:=qbd (b:=bW.loops qeb) (qag qbi _) (qbj qtj) (d:=300) zbf (fn rfl) (by kernel_rfl)
theorem qvm:LBs Tryz.prog qeb qdj:=qao qtj (by kernel_rfl)
def tr90:ST:=(.ask (.not (.app 35 0 none GB)) (.leaf CW) (.ask (.not (.app 18 0 none GE)) (.leaf CW) (.ask (.not (.app 35 0 none GC)) (.leaf CW) (.ask (.not (.app 18 0 none GF)) (.leaf CW) (.ask (.not (.app 18 0 none GG)) (.leaf CW) (.ask (.not (.app 19 0 none CZ)) (.leaf CW) (.ask (.not (.app 19 0 none Gy)) (.leaf CW) (.ask (.cmp .geq (.app 70 0 (some .i64) (.cons (.app 72 0 (some .i64) CA) (.cons (.app 72 1 (some .u64) CA) GD))) Aa) (.ask (.app 73 0 none CZ) (.ask (.app 71 0 none Be) (.ask (.app 17 0 none GH) (.leaf (.one (.opq (.app 17 0 none (.cons AJ DQ))))) (.leaf CW)) (.leaf CW)) (.leaf CW)) (.leaf CW)))))))))
noncomputable def qhe:List Ent:=⟨37,[.agg [some .i64,some .u64,some .i64,some .u64,some .i64,some .u64,some .i64,some .u64,some .i64,some .u64,some .i64,some .u64,some .i64,some .u64,some .i64,some .u64,some .i64,some .u64,some .i64,some .i64]],.one (.one none),qaf tr90,false⟩::qdj
theorem zh8:qcd Tryz.prog qhe:=qbd (b:=bW.loops qeb) (qag qbi _) (qbj qvm) (d:=300) zcn (fn rfl) (by kernel_rfl)
theorem q17:LBs Tryz.prog qeb qhe:=qao qvm (by kernel_rfl)
def tr91:ST:=(.ask Ge (.ask Gf (.ask (.app 18 0 none Gi) (.ask (.app 35 0 none Gj) (.ask (.app 17 0 none (.cons Aq DQ)) (.ask (.app 17 0 none (.cons AY DQ)) (.ask (.app 17 0 none Gh) (.leaf (.one (.opq (.app 18 0 none Gk)))) (.leaf CW)) (.leaf CW)) (.leaf CW)) (.leaf CW)) (.leaf CW)) (.leaf CW)) (.leaf CW))
noncomputable def qky:List Ent:=⟨38,[.agg [some .i64,some .i64,some .u64,some .i64,some .u64,some .i64,some .i64,some .i64,some .i64,some .u64],.one (some .i64)],.one (.one none),qaf tr91,false⟩::qhe
theorem zkr:qcd Tryz.prog qky:=qbd (b:=bW.loops qeb) (qag qbi _) (qbj q17) (d:=300) zh8 (fn rfl) (by kernel_rfl)
theorem znr:LBs Tryz.prog qeb qky:=qao q17 (by kernel_rfl)
def Tr7_L:List LEnt:=qeb
noncomputable def zz0:List Ent:=qky
theorem z4q:qcd Tryz.prog zz0:=zkr
theorem z4w:LBs Tryz.prog qeb zz0:=znr
noncomputable def yh1:List Ent:=zz0
def zjs:List LEnt:=Tr7_L
theorem zpx:qcd Tryz.prog yh1:=z4q
theorem zpl:LBs Tryz.prog zjs yh1:=z4w
def b8 (x:SE) (n:Int):SE:= .lone (.cons (.conv .u8 (.bin .shr .u64 x (.lit .i64 n))) .nil)
def w8 (x:SE):SE:= .lcat (b8 x 56) (.lcat (b8 x 48) (.lcat (b8 x 40) (.lcat (b8 x 32) (.lcat (b8 x 24) (.lcat (b8 x 16) (.lcat (b8 x 8) (b8 x 0)))))))
def q51:SE→List SE→SE
 |t,[]=>t
 |t,x::xs=>q51 (.lcat t (w8 x)) xs
def be1 (n s:Int):List Int:=[IntKind.u8.wrap (qbg .shr .u64 n (IntKind.i64.wrap s))]
def be8 (n:Int):List (List Int):=[be1 n 56,be1 n 48,be1 n 40,be1 n 32,be1 n 24,be1 n 16,be1 n 8,be1 n 0]
theorem qjs (n:Int):(be8 n).length=8:=rfl
theorem yba {e:Env} (x:SE) (n:Int):(b8 x n).lst e=[be1 (x.val e) n]:=by
 unfold b8;rw [qf3];simp only [SE.vals,SE.val,be1]
theorem qnh {e:Env} (x:SE):(w8 x).lst e=be8 (x.val e):=by
 unfold w8;simp only [qc3,yba];rfl
theorem qta {e:Env}:∀(xs:List SE) (t:SE),(q51 t xs).lst e=t.lst e++xs.flatMap fun x=>be8 (x.val e)
 |[],t=>by simp [q51]
 |x::xs,t=>by rw [q51,qta xs,qc3,qnh,List.append_assoc];rfl
def fT (p:Bool×Nat):SE:=match p.1 with |true=> .el (some .u64) (.lvar 0) (.ivar .i64 2) p.2 |false=> .conv .u64 (.el (some .i64) (.lvar 0) (.ivar .i64 2) p.2)
def fld (p:Bool×Nat) (el:List Int):Int:=match p.1 with |true=>IntKind.u64.wrap (el.getD p.2 0) |false=>IntKind.u64.wrap (IntKind.i64.wrap (el.getD p.2 0))
def qvz (fs:List (Bool×Nat)) (el:List Int):List (List Int):=fs.flatMap fun p=>be8 (fld p el)
theorem qlh (fs:List (Bool×Nat)) (el:List Int):(qvz fs el).length=8 * fs.length:=by
 induction fs with
 |nil=>rfl
 |cons p fs ih=>simp only [qvz,List.flatMap_cons,List.length_append,qjs,List.length_cons] at ih ⊢;rw [ih];omega
def qd1 (fs:List (Bool×Nat)) (l:List (List Int)):List (List Int):=l.flatMap (qvz fs)
theorem qdl (fs:List (Bool×Nat)) (l:List (List Int)):(qd1 fs l).length=8 * fs.length * l.length:=by
 induction l with
 |nil=>rfl
 |cons p l ih=>simp only [qd1,List.flatMap_cons,List.length_append,qlh,List.length_cons] at ih ⊢;rw [ih,Nat.mul_add];omega
def pwT (fs:List (Bool×Nat)):RT:= .ask (.cmp .lss (.ivar .i64 2) (.len (.lvar 0)))
 (.know (.cmp .geq (.ivar .i64 2) (.lit .i64 0)) true (.know (.cmp .leq (.len (.lvar 1)) (.lit .i64 1000000)) true (.know (.cmp .leq (.len (.lvar 1)) (.lit .i64 100000)) true (.next [.lvar 0,q51 (.lvar 1) (fs.map fT),.bin .add .i64 (.ivar .i64 2) (.lit .i64 1)]))))
 (.out 0 [.lvar 0,.lvar 1])
def pwI:List SE:=[.lvar 0,.lvar 1,.lit .i64 0]
def ygy:List (SE×Bool):=[(.cmp .leq (.len (.lvar 0)) (.lit .i64 400),true),(.cmp .leq (.len (.lvar 1)) (.lit .i64 20000),true)]
noncomputable def pwU (xs:List Int):Nat:=(dec (xs.getD 0 0)).length+1
noncomputable def pwG (fs:List (Bool×Nat)):(Nat→List Int→List Int)→List Int→List Int:=qfv pwI (fun _=>pwT fs) pwU
def pwJ (fs:List (Bool×Nat)) (x0 y0:Int) (i:Nat) (ys:List Int):Prop:=ys.getD 0 0=x0∧ys.getD 2 0=(i:Int)∧dec (ys.getD 1 0)=dec y0++qd1 fs ((dec x0).take i)∧i≤(dec x0).length
theorem qr0 {e:Env}:∀(xs:List SE) (t:SE),t.val e=enc (t.lst e)→(q51 t xs).val e=enc ((q51 t xs).lst e)
 |[],t,h=>h
 |x::xs,t,h=>qr0 xs _ (by simp only [SE.lst,SE.val,qan])
theorem qp1 (fs:List (Bool×Nat)) (l:List (List Int)) (i:Nat) (h:i<l.length):qd1 fs (l.take (i+1))=qd1 fs (l.take i)++qvz fs (l.getD i []):=by
 rw [List.take_add_one,List.getD_eq_getElem?_getD,List.getElem?_eq_getElem h]
 simp only [qd1,List.flatMap_append,Option.toList_some,List.flatMap_cons,List.flatMap_nil,List.append_nil,Option.getD_some]
section
variable {F:Nat→List Int→List Int} {fs:List (Bool×Nat)} {x0 y0:Int}
theorem zqg {ys:List Int} {i:Nat} (h1:ys.getD 0 0=x0) (h2:ys.getD 2 0=(i:Int)) (hi:i≤400) (p:Bool×Nat):(fT p).val (qaa F ys)=fld p ((dec x0).getD i []):=by
 have e1:(qaa F ys).iv 0=x0:=h1
 have e2:(qaa F ys).iv 2=(i:Int):=h2
 have e3:(IntKind.i64.wrap (i:Int)).toNat=i:=by rw [qck (by unfold maxLen;omega)];rfl
 obtain ⟨b,j⟩:=p
 cases b with
 |true=>simp only [fT,fld,SE.val,wrK,e1,e2,e3]
 |false=>simp only [fT,fld,SE.val,wrK,e1,e2,e3]
theorem zol {i:Nat} {ys:List Int} (hfs:fs≠[]) (hN:(dec x0).length≤400) (h:pwJ fs x0 y0 i ys):
  (pwT fs).get (qaa F ys)=if i<(dec x0).length then (none,[x0,enc (dec y0++qd1 fs ((dec x0).take (i+1))),((i+1:Nat):Int)]) else (some 0,[x0,ys.getD 1 0]):=by
 obtain ⟨h1,h2,h3,h4⟩:=h
 have e0:(qaa F ys).iv 0=x0:=h1
 have e1:(qaa F ys).iv 1=ys.getD 1 0:=rfl
 have e2:(qaa F ys).iv 2=(i:Int):=h2
 have e3:IntKind.i64.wrap (i:Int)=(i:Int):=qck (by unfold maxLen;omega)
 have c:((SE.cmp .lss (.ivar .i64 2) (.len (.lvar 0))).val (qaa F ys) !=0)=decide (i<(dec x0).length):=by
  simp only [SE.val,qas,qa8,e0,e2,e3]
  rw [qcz (by unfold maxLen;omega)]
  by_cases q:i<(dec x0).length
  ·rw [decide_eq_true q,decide_eq_true (by omega)]
  ·rw [decide_eq_false q,decide_eq_false (by omega)]
 unfold pwT
 simp only [RT.get,c]
 by_cases q:i<(dec x0).length
 ·rw [if_pos q,decide_eq_true q,cond_true]
  have hw:(q51 (.lvar 1) (fs.map fT)).val (qaa F ys)=enc (dec y0++qd1 fs ((dec x0).take (i+1))):=by
   cases fs with
   |nil=>exact absurd rfl hfs
   |cons p fs=>
    rw [List.map_cons,q51,qr0 _ _ (by simp only [SE.lst,SE.val,qan]),qta,qc3,qnh,qp1 _ _ _ q,zqg h1 h2 (by omega)]
    have hl:(SE.lvar 1).lst (qaa F ys)=dec (ys.getD 1 0):=by simp only [SE.lst,SE.val,e1]
    rw [hl,h3,List.flatMap_map]
    simp only [zqg h1 h2 (by omega:i≤400),qvz,List.flatMap_cons,List.append_assoc]
  simp only [List.map,hw,SE.val,e0,e2,e3,qbg]
  rw [show (i:Int)+IntKind.i64.wrap 1=((i+1:Nat):Int) by rw [show IntKind.i64.wrap 1=1 from rfl];omega,qck (by unfold maxLen;omega)]
 ·rw [if_neg q,decide_eq_false q,cond_false]
  simp only [List.map,SE.val,e0,e1]
theorem z7_ (hfs:fs≠[]) (hN:(dec x0).length≤400) (i:Nat) (ys zs:List Int) (hi:i≤(dec x0).length) (h:pwJ fs x0 y0 i ys) (hy:(pwT fs).get (qaa F ys)=(none,zs)):i<(dec x0).length∧pwJ fs x0 y0 (i+1) zs:=by
 rw [zol hfs hN h] at hy
 by_cases q:i<(dec x0).length
 ·rw [if_pos q] at hy
  cases hy
  exact ⟨q,rfl,rfl,by show dec (enc _)=_;rw [qan],q⟩
 ·rw [if_neg q] at hy;cases hy
theorem pw_ok {i:Nat} {ys:List Int} (hN:(dec x0).length≤400) (hM:(dec y0).length≤20000) (hk:fs.length≤20) (h:pwJ fs x0 y0 i ys):(pwT fs).ok (qaa F ys):=by
 obtain ⟨h1,h2,h3,h4⟩:=h
 have e1:(qaa F ys).iv 1=ys.getD 1 0:=rfl
 have e2:(qaa F ys).iv 2=(i:Int):=h2
 have e3:IntKind.i64.wrap (i:Int)=(i:Int):=qck (by unfold maxLen;omega)
 have hl:(dec (ys.getD 1 0)).length≤100000:=by
  rw [h3,List.length_append,qdl]
  have hb:8 * fs.length * ((dec x0).take i).length≤160 * 400:=Nat.mul_le_mul (by omega) (by rw [List.length_take];omega)
  omega
 refine ⟨fun _=>⟨?_,?_,?_,trivial⟩,fun _=>trivial⟩
 ·simp only [SE.val,qas,qa8,e2,e3]
  exact decide_eq_true (by show (i:Int)≥IntKind.i64.wrap 0;rw [show IntKind.i64.wrap 0=0 from rfl];omega)
 ·simp only [SE.val,qas,qa8,e1]
  rw [qcz (by unfold maxLen;omega)]
  exact decide_eq_true (by show _≤IntKind.i64.wrap 1000000;rw [show IntKind.i64.wrap 1000000=1000000 from rfl];omega)
 ·simp only [SE.val,qas,qa8,e1]
  rw [qcz (by unfold maxLen;omega)]
  exact decide_eq_true (by show _≤IntKind.i64.wrap 100000;rw [show IntKind.i64.wrap 100000=100000 from rfl];omega)
theorem ydi {xs:List Int}:pwJ fs (xs.getD 0 0) (xs.getD 1 0) 0 (pwI.map (SE.val (qaa F xs))):=
 ⟨rfl,rfl,by show dec (xs.getD 1 0)=_;simp [qd1],Nat.zero_le _⟩
theorem ygr {xs:List Int} (h:∀p∈ygy,(p.1.val (qaa F xs) !=0)=p.2):(dec (xs.getD 0 0)).length≤400∧(dec (xs.getD 1 0)).length≤20000:=by
 have h1:=h _ (.head _)
 have h2:=h _ (.tail _ (.head _))
 simp only [SE.val,qas,qa8] at h1 h2
 have h1:=of_decide_eq_true h1
 have h2:=of_decide_eq_true h2
 have e0:(qaa F xs).iv 0=xs.getD 0 0:=rfl
 have e1:(qaa F xs).iv 1=xs.getD 1 0:=rfl
 rw [e0,show IntKind.i64.wrap 400=400 from rfl] at h1
 rw [e1,show IntKind.i64.wrap 20000=20000 from rfl] at h2
 exact ⟨qei (by omega) (by unfold maxLen;omega),qei (by omega) (by unfold maxLen;omega)⟩
theorem q2q (hfs:fs≠[]) (hk:fs.length≤20) {xs:List Int} (h:∀p∈ygy,(p.1.val (qaa F xs) !=0)=p.2):qdn (fun _=>pwT fs) F 0 (pwU xs) (pwI.map (SE.val (qaa F xs))):=by
 obtain ⟨hN,hM⟩:=ygr h
 exact qi5 (pwJ fs (xs.getD 0 0) (xs.getD 1 0)) (dec (xs.getD 0 0)).length (fun i ys _ hj=>pw_ok hN hM hk hj) (fun i ys zs hi hj hy=>z7_ hfs hN i ys zs hi hj hy) _ 0 0 _ (by unfold pwU;omega) (by unfold pwU;omega) ydi
theorem ye2 (hfs:fs≠[]) {xs:List Int} (hN:(dec (xs.getD 0 0)).length≤400):∃y,pwG fs F xs=[0,xs.getD 0 0,y]∧dec y=dec (xs.getD 1 0)++qd1 fs (dec (xs.getD 0 0)):=by
 obtain ⟨e,ys,h1,h2,y,h3,h4⟩:=qfm (F:=F) (T:=pwT fs) (pwJ fs (xs.getD 0 0) (xs.getD 1 0)) (dec (xs.getD 0 0)).length (fun e ys=>e=0∧∃y,ys=[xs.getD 0 0,y]∧dec y=dec (xs.getD 1 0)++qd1 fs (dec (xs.getD 0 0)))
  (fun i ys zs hi hj hy=>z7_ hfs hN i ys zs hi hj hy) (fun i ys e zs hi hj hy=>by
   rw [zol hfs hN hj] at hy
   obtain ⟨_,_,h3,h4⟩:=hj
   by_cases q:i<(dec (xs.getD 0 0)).length
   ·rw [if_pos q] at hy;cases hy
   ·rw [if_neg q] at hy
    cases hy
    exact ⟨rfl,_,rfl,by rw [h3,List.take_of_length_le (by omega)]⟩) ((dec (xs.getD 0 0)).length+1) 0 0 (pwI.map (SE.val (qaa F xs))) (by omega) (by omega) ydi
 subst h2
 refine ⟨y,?_,h4⟩
 unfold pwG qfv pwU
 rw [h1,h3];rfl
end
def fT2 (p:Bool×Nat):SE:=match p.1 with |true=> .el (some .u64) (.lvar 2) (.ivar .i64 3) p.2 |false=> .conv .u64 (.el (some .i64) (.lvar 2) (.ivar .i64 3) p.2)
def pvT (fs:List (Bool×Nat)):RT:= .ask (.cmp .lss (.ivar .i64 3) (.len (.lvar 0)))
 (.know (.cmp .geq (.ivar .i64 3) (.lit .i64 0)) true (.know (.cmp .lss (.ivar .i64 3) (.len (.lvar 2))) true (.know (.cmp .leq (.len (.lvar 1)) (.lit .i64 1000000)) true (.know (.cmp .leq (.len (.lvar 1)) (.lit .i64 100000)) true (.next [.lvar 0,q51 (.lvar 1) (fs.map fT2),.lvar 2,.bin .add .i64 (.ivar .i64 3) (.lit .i64 1)])))))
 (.out 0 [.lvar 0,.lvar 1])
def pvI:List SE:=[.lvar 0,.lvar 1,.lvar 2,.lit .i64 0]
def z5q:List (SE×Bool):=[(.cmp .neq (.len (.lvar 0)) (.len (.lvar 2)),false),(.cmp .leq (.len (.lvar 0)) (.lit .i64 400),true),(.cmp .leq (.len (.lvar 1)) (.lit .i64 20000),true)]
noncomputable def pvU (xs:List Int):Nat:=(dec (xs.getD 0 0)).length+1
noncomputable def pvG (fs:List (Bool×Nat)):(Nat→List Int→List Int)→List Int→List Int:=qfv pvI (fun _=>pvT fs) pvU
def pvJ (fs:List (Bool×Nat)) (x0 y0 z0:Int) (i:Nat) (ys:List Int):Prop:=(ys.getD 0 0=x0∧ys.getD 2 0=z0)∧ys.getD 3 0=(i:Int)∧dec (ys.getD 1 0)=dec y0++qd1 fs ((dec z0).take i)∧i≤(dec x0).length
section
variable {F:Nat→List Int→List Int} {fs:List (Bool×Nat)} {x0 y0 z0:Int}
theorem zbs {ys:List Int} {i:Nat} (h1:ys.getD 2 0=z0) (h2:ys.getD 3 0=(i:Int)) (hi:i≤400) (p:Bool×Nat):(fT2 p).val (qaa F ys)=fld p ((dec z0).getD i []):=by
 have e1:(qaa F ys).iv 2=z0:=h1
 have e2:(qaa F ys).iv 3=(i:Int):=h2
 have e3:(IntKind.i64.wrap (i:Int)).toNat=i:=by rw [qck (by unfold maxLen;omega)];rfl
 obtain ⟨b,j⟩:=p
 cases b with
 |true=>simp only [fT2,fld,SE.val,wrK,e1,e2,e3]
 |false=>simp only [fT2,fld,SE.val,wrK,e1,e2,e3]
theorem zo4 {i:Nat} {ys:List Int} (hfs:fs≠[]) (hz:(dec x0).length=(dec z0).length) (hN:(dec x0).length≤400) (h:pvJ fs x0 y0 z0 i ys):
  (pvT fs).get (qaa F ys)=if i<(dec x0).length then (none,[x0,enc (dec y0++qd1 fs ((dec z0).take (i+1))),z0,((i+1:Nat):Int)]) else (some 0,[x0,ys.getD 1 0]):=by
 obtain ⟨⟨h1,h0⟩,h2,h3,h4⟩:=h
 have e0:(qaa F ys).iv 0=x0:=h1
 have e1:(qaa F ys).iv 1=ys.getD 1 0:=rfl
 have e2:(qaa F ys).iv 3=(i:Int):=h2
 have e4:(qaa F ys).iv 2=z0:=h0
 have e3:IntKind.i64.wrap (i:Int)=(i:Int):=qck (by unfold maxLen;omega)
 have c:((SE.cmp .lss (.ivar .i64 3) (.len (.lvar 0))).val (qaa F ys) !=0)=decide (i<(dec x0).length):=by
  simp only [SE.val,qas,qa8,e0,e2,e3]
  rw [qcz (by unfold maxLen;omega)]
  by_cases q:i<(dec x0).length
  ·rw [decide_eq_true q,decide_eq_true (by omega)]
  ·rw [decide_eq_false q,decide_eq_false (by omega)]
 unfold pvT
 simp only [RT.get,c]
 by_cases q:i<(dec x0).length
 ·rw [if_pos q,decide_eq_true q,cond_true]
  have hw:(q51 (.lvar 1) (fs.map fT2)).val (qaa F ys)=enc (dec y0++qd1 fs ((dec z0).take (i+1))):=by
   cases fs with
   |nil=>exact absurd rfl hfs
   |cons p fs=>
    rw [List.map_cons,q51,qr0 _ _ (by simp only [SE.lst,SE.val,qan]),qta,qc3,qnh,qp1 _ _ _ (by omega:i<(dec z0).length),zbs h0 h2 (by omega)]
    have hl:(SE.lvar 1).lst (qaa F ys)=dec (ys.getD 1 0):=by simp only [SE.lst,SE.val,e1]
    rw [hl,h3,List.flatMap_map]
    simp only [zbs h0 h2 (by omega:i≤400),qvz,List.flatMap_cons,List.append_assoc]
  simp only [List.map,hw,SE.val,e0,e2,e3,e4,qbg]
  rw [show (i:Int)+IntKind.i64.wrap 1=((i+1:Nat):Int) by rw [show IntKind.i64.wrap 1=1 from rfl];omega,qck (by unfold maxLen;omega)]
 ·rw [if_neg q,decide_eq_false q,cond_false]
  simp only [List.map,SE.val,e0,e1]
theorem ydp (hfs:fs≠[]) (hz:(dec x0).length=(dec z0).length) (hN:(dec x0).length≤400) (i:Nat) (ys zs:List Int) (hi:i≤(dec x0).length) (h:pvJ fs x0 y0 z0 i ys) (hy:(pvT fs).get (qaa F ys)=(none,zs)):i<(dec x0).length∧pvJ fs x0 y0 z0 (i+1) zs:=by
 rw [zo4 hfs hz hN h] at hy
 by_cases q:i<(dec x0).length
 ·rw [if_pos q] at hy
  cases hy
  exact ⟨q,⟨rfl,rfl⟩,rfl,by show dec (enc _)=_;rw [qan],q⟩
 ·rw [if_neg q] at hy;cases hy
theorem pv_ok {i:Nat} {ys:List Int} (hz:(dec x0).length=(dec z0).length) (hN:(dec x0).length≤400) (hM:(dec y0).length≤20000) (hk:fs.length≤20) (h:pvJ fs x0 y0 z0 i ys):(pvT fs).ok (qaa F ys):=by
 obtain ⟨⟨h1,h0⟩,h2,h3,h4⟩:=h
 have e1:(qaa F ys).iv 1=ys.getD 1 0:=rfl
 have e2:(qaa F ys).iv 3=(i:Int):=h2
 have e4:(qaa F ys).iv 2=z0:=h0
 have e3:IntKind.i64.wrap (i:Int)=(i:Int):=qck (by unfold maxLen;omega)
 have hl:(dec (ys.getD 1 0)).length≤100000:=by
  rw [h3,List.length_append,qdl]
  have hb:8 * fs.length * ((dec z0).take i).length≤160 * 400:=Nat.mul_le_mul (by omega) (by rw [List.length_take];omega)
  omega
 have c:((SE.cmp .lss (.ivar .i64 3) (.len (.lvar 0))).val (qaa F ys) !=0)=true→i<(dec x0).length:=by
  intro q
  simp only [SE.val,qas,qa8,e2,e3] at q
  rw [show (qaa F ys).iv 0=x0 from h1,qcz (by unfold maxLen;omega)] at q
  have:=of_decide_eq_true q
  omega
 refine ⟨fun q=>⟨?_,?_,?_,?_,trivial⟩,fun _=>trivial⟩
 ·simp only [SE.val,qas,qa8,e2,e3]
  exact decide_eq_true (by show (i:Int)≥IntKind.i64.wrap 0;rw [show IntKind.i64.wrap 0=0 from rfl];omega)
 ·have q:=c q
  simp only [SE.val,qas,qa8,e2,e3,e4]
  rw [qcz (by unfold maxLen;omega)]
  exact decide_eq_true (by show (i:Int)<_;omega)
 ·simp only [SE.val,qas,qa8,e1]
  rw [qcz (by unfold maxLen;omega)]
  exact decide_eq_true (by show _≤IntKind.i64.wrap 1000000;rw [show IntKind.i64.wrap 1000000=1000000 from rfl];omega)
 ·simp only [SE.val,qas,qa8,e1]
  rw [qcz (by unfold maxLen;omega)]
  exact decide_eq_true (by show _≤IntKind.i64.wrap 100000;rw [show IntKind.i64.wrap 100000=100000 from rfl];omega)
theorem z98 {xs:List Int}:pvJ fs (xs.getD 0 0) (xs.getD 1 0) (xs.getD 2 0) 0 (pvI.map (SE.val (qaa F xs))):=
 ⟨⟨rfl,rfl⟩,rfl,by show dec (xs.getD 1 0)=_;simp [qd1],Nat.zero_le _⟩
theorem yg1 {xs:List Int} (hm:(dec (xs.getD 2 0)).length≤maxLen) (h:∀p∈z5q,(p.1.val (qaa F xs) !=0)=p.2):(dec (xs.getD 0 0)).length=(dec (xs.getD 2 0)).length∧(dec (xs.getD 0 0)).length≤400∧(dec (xs.getD 1 0)).length≤20000:=by
 have h0:=h _ (.head _)
 have h1:=h _ (.tail _ (.head _))
 have h2:=h _ (.tail _ (.tail _ (.head _)))
 simp only [SE.val,qas,qa8] at h0 h1 h2
 have h1:=of_decide_eq_true h1
 have h2:=of_decide_eq_true h2
 have e0:(qaa F xs).iv 0=xs.getD 0 0:=rfl
 have e1:(qaa F xs).iv 1=xs.getD 1 0:=rfl
 have e2:(qaa F xs).iv 2=xs.getD 2 0:=rfl
 rw [e0,show IntKind.i64.wrap 400=400 from rfl] at h1
 rw [e1,show IntKind.i64.wrap 20000=20000 from rfl] at h2
 have hl:(dec (xs.getD 0 0)).length≤400:=qei (by omega) (by unfold maxLen;omega)
 rw [e0,e2,qcz (by unfold maxLen;omega),qcz hm,bne_eq_false_iff_eq] at h0
 exact ⟨by omega,hl,qei (by omega) (by unfold maxLen;omega)⟩
theorem yab (hfs:fs≠[]) (hk:fs.length≤20) {xs:List Int} (hm:(dec (xs.getD 2 0)).length≤maxLen) (h:∀p∈z5q,(p.1.val (qaa F xs) !=0)=p.2):qdn (fun _=>pvT fs) F 0 (pvU xs) (pvI.map (SE.val (qaa F xs))):=by
 obtain ⟨hz,hN,hM⟩:=yg1 hm h
 exact qi5 (pvJ fs (xs.getD 0 0) (xs.getD 1 0) (xs.getD 2 0)) (dec (xs.getD 0 0)).length (fun i ys _ hj=>pv_ok hz hN hM hk hj) (fun i ys zs hi hj hy=>ydp hfs hz hN i ys zs hi hj hy) _ 0 0 _ (by unfold pvU;omega) (by unfold pvU;omega) z98
theorem yfp (hfs:fs≠[]) {xs:List Int} (hz:(dec (xs.getD 0 0)).length=(dec (xs.getD 2 0)).length) (hN:(dec (xs.getD 0 0)).length≤400):∃y,pvG fs F xs=[0,xs.getD 0 0,y]∧dec y=dec (xs.getD 1 0)++qd1 fs (dec (xs.getD 2 0)):=by
 obtain ⟨e,ys,h1,h2,y,h3,h4⟩:=qfm (F:=F) (T:=pvT fs) (pvJ fs (xs.getD 0 0) (xs.getD 1 0) (xs.getD 2 0)) (dec (xs.getD 0 0)).length (fun e ys=>e=0∧∃y,ys=[xs.getD 0 0,y]∧dec y=dec (xs.getD 1 0)++qd1 fs (dec (xs.getD 2 0)))
  (fun i ys zs hi hj hy=>ydp hfs hz hN i ys zs hi hj hy) (fun i ys e zs hi hj hy=>by
   rw [zo4 hfs hz hN hj] at hy
   obtain ⟨_,_,h3,h4⟩:=hj
   by_cases q:i<(dec (xs.getD 0 0)).length
   ·rw [if_pos q] at hy;cases hy
   ·rw [if_neg q] at hy
    cases hy
    exact ⟨rfl,_,rfl,by rw [h3,List.take_of_length_le (by omega)]⟩) ((dec (xs.getD 0 0)).length+1) 0 0 (pvI.map (SE.val (qaa F xs))) (by omega) (by omega) z98
 subst h2
 refine ⟨y,?_,h4⟩
 unfold pvG qfv pvU
 rw [h1,h3];rfl
end
end Go.Proofs.YtilkebpcjklmfaaGreat.Own
