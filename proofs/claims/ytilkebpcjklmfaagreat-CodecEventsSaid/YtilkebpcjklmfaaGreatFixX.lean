/- What is known of the types and the functions. How long a number is: what the code computes. Shifts to the left: what the code computes. A quotient and the rest: what the code computes. Package limb: what its functions compute, as numbers. A walk by reckoning: strings.Builder: what it is said to do, it does. A walk by reckoning: what it is given for this program. Package fix: numbers with a point: what the code computes. -/
import Derived.Test.YtilkebpcjklmfaaGreatBdW
set_option linter.unusedVariables false
set_option linter.unusedSimpArgs false
namespace Go.Proofs.YtilkebpcjklmfaaGreat.Own
open Go Go.Proofs
set_option maxRecDepth 100000
set_option maxHeartbeats 40000000
def tiT:List (Nat×Bool×Nat):=[(2,false,1),(3,false,1),(4,false,1),(5,false,1),(12,false,1),(22,false,1),(23,false,1),(24,false,1),(25,true,2),(26,true,2),(27,true,4),(28,true,4),(32,false,1),(62,false,1),(63,true,2),(64,true,2),(65,true,5),(66,true,5),(133,true,3),(134,true,3),(137,false,1),(144,false,1),(166,false,1),(168,true,8),(170,true,2),(171,true,2),(174,true,3),(175,true,3),(177,true,4),(178,true,4),(180,true,3),(181,true,3),(191,true,7),(192,true,7),(197,false,1),(201,true,4)]
theorem tiOK:(tiT.all fun x=>decide (qcq Tryz.prog x.1=some x.2))=true:=by kernel_rfl
theorem ti {t n:Nat} {b:Bool} (h:qv7 tiT t=some (b,n)):qcq Tryz.prog t=some (b,n):=of_decide_eq_true (List.all_eq_true.1 tiOK _ (qjw h))
def fiT:List (Nat×Nat×Nat×Bool×Nat):=[(25,0,0,false,1),(25,1,1,false,1),(26,0,0,false,1),(26,1,1,false,1),(27,0,0,true,2),(27,1,2,true,2),(28,0,0,true,2),(28,1,2,true,2),(63,0,0,false,1),(63,1,1,false,1),(64,0,0,false,1),(64,1,1,false,1),(65,0,0,true,2),(65,1,2,false,1),(65,2,3,false,1),(65,3,4,false,1),(66,0,0,true,2),(66,1,2,false,1),(66,2,3,false,1),(66,3,4,false,1),(133,0,0,true,2),(133,1,2,false,1),(134,0,0,true,2),(134,1,2,false,1),(170,0,0,false,1),(170,1,1,false,1),(171,0,0,false,1),(171,1,1,false,1),(174,0,0,true,2),(174,1,2,false,1),(175,0,0,true,2),(175,1,2,false,1),(177,0,0,true,2),(177,1,2,true,2),(178,0,0,true,2),(178,1,2,true,2),(180,0,0,true,2),(180,1,2,false,1),(181,0,0,true,2),(181,1,2,false,1),(191,0,0,true,4),(191,1,4,true,2),(191,2,6,false,1),(192,0,0,true,4),(192,1,4,true,2),(192,2,6,false,1)]
theorem fiOK:(fiT.all fun x=>decide (qno Tryz.prog x.1 x.2.1=some x.2.2))=true:=by kernel_rfl
theorem fi {t i off n:Nat} {b:Bool} (h:q2u fiT t i=some (off,b,n)):qno Tryz.prog t i=some (off,b,n):=of_decide_eq_true (List.all_eq_true.1 fiOK _ (qqm h))
def siT:List (Nat×Nat):=[(22,5),(32,3),(197,24)]
theorem siOK:(siT.all fun x=>qwn Tryz.prog x.1 x.2)=true:=by kernel_rfl
theorem si {t e:Nat} (h:qv7 siT t=some e):Tryz.prog.underlying t=some (.slice e):=q5b (List.all_eq_true.1 siOK _ (qjw h))
def aiT:List (Nat×Nat×Nat):=[(168,8,5),(201,4,24)]
theorem aiOK:(aiT.all fun x=>qyb Tryz.prog x.1 x.2.1 x.2.2)=true:=by kernel_rfl
theorem ai {t len e:Nat} (h:qv7 aiT t=some (len,e)):Tryz.prog.underlying t=some (.array len e):=q4k (List.all_eq_true.1 aiOK _ (qjw h))
def iiT:List (Nat×IntKind):=[(2,.i64),(3,.i64),(5,.u8),(12,.u64),(23,.u32),(24,.u64),(137,.i64)]
theorem iiOK:(iiT.all fun x=>z2k Tryz.prog x.1 x.2)=true:=by kernel_rfl
theorem ii {t:Nat} {k:IntKind} (h:qv7 iiT t=some k):Tryz.prog.underlying t=some (.int k):=zhv (List.all_eq_true.1 iiOK _ (qjw h))
def fnT:List Nat:=[3,4,5,6,7,8,9,10,11,12,13,14,15,16,17,18,19,20,21,22,23,24,25,26,27,28,29,30,31,32,33,34,35,36,37,38,39,40,41,42,43,44,45,46,47,48,49,50,51,52,53,54,55,56,57,58,59,60,61,62,63,64,65,66,67,68,69,70,71,72,73,74,75,76,77,78,79,80,81,82,83,84,85,86,87,88,89,90,91,92,93,94,95,96,97,98,99,100,101,102,103,104,105,106,108,109,110,111,112,113,114,115,116,117,118,119,120,121,122,123,124,125,126,128,130,131,132,133,135,136,137,138,139,140,141]
theorem fnOK:(fnT.all fun f=>isFn Tryz.prog f)=true:=by kernel_rfl
theorem fn {f:Nat} (h:hasN fnT f=true):isFn Tryz.prog f=true:=List.all_eq_true.1 fnOK _ (qyt h)
theorem btA0:Tryz.prog.underlying 4=some .bool:=by kernel_rfl
theorem zi2:qdg Tryz.prog 2=some (.int .i64 0):=by kernel_rfl
theorem zi3:qdg Tryz.prog 3=some (.int .i64 0):=by kernel_rfl
theorem zi4:qdg Tryz.prog 4=some (.bool false):=by kernel_rfl
theorem zi5:qdg Tryz.prog 5=some (.int .u8 0):=by kernel_rfl
theorem zi12:qdg Tryz.prog 12=some (.int .u64 0):=by kernel_rfl
theorem zi22:qdg Tryz.prog 22=some (.slice none 0 0):=by kernel_rfl
theorem zi23:qdg Tryz.prog 23=some (.int .u32 0):=by kernel_rfl
theorem zi24:qdg Tryz.prog 24=some (.int .u64 0):=by kernel_rfl
theorem zi25:qdg Tryz.prog 25=some (.agg #[.int .i64 0,.int .u64 0]):=by kernel_rfl
theorem zi26:qdg Tryz.prog 26=some (.agg #[.int .i64 0,.int .u64 0]):=by kernel_rfl
theorem zi27:qdg Tryz.prog 27=some (.agg #[.int .i64 0,.int .u64 0,.int .i64 0,.int .u64 0]):=by kernel_rfl
theorem zi28:qdg Tryz.prog 28=some (.agg #[.int .i64 0,.int .u64 0,.int .i64 0,.int .u64 0]):=by kernel_rfl
theorem zi32:qdg Tryz.prog 32=some (.slice none 0 0):=by kernel_rfl
theorem zi62:qdg Tryz.prog 62=some (.pointer none):=by kernel_rfl
theorem zi63:qdg Tryz.prog 63=some (.agg #[.pointer none,.slice none 0 0]):=by kernel_rfl
theorem zi64:qdg Tryz.prog 64=some (.agg #[.pointer none,.slice none 0 0]):=by kernel_rfl
theorem zi65:qdg Tryz.prog 65=some (.agg #[.pointer none,.slice none 0 0,.string ⟨#[]⟩,.bool false,.bool false]):=by kernel_rfl
theorem zi66:qdg Tryz.prog 66=some (.agg #[.pointer none,.slice none 0 0,.string ⟨#[]⟩,.bool false,.bool false]):=by kernel_rfl
theorem zi133:qdg Tryz.prog 133=some (.agg #[.int .i64 0,.int .u64 0,.int .i64 0]):=by kernel_rfl
theorem zi134:qdg Tryz.prog 134=some (.agg #[.int .i64 0,.int .u64 0,.int .i64 0]):=by kernel_rfl
theorem zi137:qdg Tryz.prog 137=some (.int .i64 0):=by kernel_rfl
theorem zi144:qdg Tryz.prog 144=some (.pointer none):=by kernel_rfl
theorem zi168:qdg Tryz.prog 168=some (.agg #[.int .u8 0,.int .u8 0,.int .u8 0,.int .u8 0,.int .u8 0,.int .u8 0,.int .u8 0,.int .u8 0]):=by kernel_rfl
theorem zi170:qdg Tryz.prog 170=some (.agg #[.int .u64 0,.int .u64 0]):=by kernel_rfl
theorem zi171:qdg Tryz.prog 171=some (.agg #[.int .u64 0,.int .u64 0]):=by kernel_rfl
theorem zi174:qdg Tryz.prog 174=some (.agg #[.int .u64 0,.int .u64 0,.bool false]):=by kernel_rfl
theorem zi175:qdg Tryz.prog 175=some (.agg #[.int .u64 0,.int .u64 0,.bool false]):=by kernel_rfl
theorem zi177:qdg Tryz.prog 177=some (.agg #[.int .u64 0,.int .u64 0,.int .u64 0,.int .u64 0]):=by kernel_rfl
theorem zi178:qdg Tryz.prog 178=some (.agg #[.int .u64 0,.int .u64 0,.int .u64 0,.int .u64 0]):=by kernel_rfl
theorem zi180:qdg Tryz.prog 180=some (.agg #[.int .u64 0,.int .u64 0,.bool false]):=by kernel_rfl
theorem zi181:qdg Tryz.prog 181=some (.agg #[.int .u64 0,.int .u64 0,.bool false]):=by kernel_rfl
theorem zi191:qdg Tryz.prog 191=some (.agg #[.int .u64 0,.int .u64 0,.int .u64 0,.int .u64 0,.int .u64 0,.int .u64 0,.bool false]):=by kernel_rfl
theorem zi192:qdg Tryz.prog 192=some (.agg #[.int .u64 0,.int .u64 0,.int .u64 0,.int .u64 0,.int .u64 0,.int .u64 0,.bool false]):=by kernel_rfl
theorem zi197:qdg Tryz.prog 197=some (.slice none 0 0):=by kernel_rfl
theorem zi201:qdg Tryz.prog 201=some (.agg #[.int .u64 0,.int .u64 0,.int .u64 0,.int .u64 0]):=by kernel_rfl
def ziT (t:Nat):Option Value:=bif Nat.beq t 2 then some (.int .i64 0) else (bif Nat.beq t 3 then some (.int .i64 0) else (bif Nat.beq t 4 then some (.bool false) else (bif Nat.beq t 5 then some (.int .u8 0) else (bif Nat.beq t 12 then some (.int .u64 0) else (bif Nat.beq t 22 then some (.slice none 0 0) else (bif Nat.beq t 23 then some (.int .u32 0) else (bif Nat.beq t 24 then some (.int .u64 0) else (bif Nat.beq t 25 then some (.agg #[.int .i64 0,.int .u64 0]) else (bif Nat.beq t 26 then some (.agg #[.int .i64 0,.int .u64 0]) else (bif Nat.beq t 27 then some (.agg #[.int .i64 0,.int .u64 0,.int .i64 0,.int .u64 0]) else (bif Nat.beq t 28 then some (.agg #[.int .i64 0,.int .u64 0,.int .i64 0,.int .u64 0]) else (bif Nat.beq t 32 then some (.slice none 0 0) else (bif Nat.beq t 62 then some (.pointer none) else (bif Nat.beq t 63 then some (.agg #[.pointer none,.slice none 0 0]) else (bif Nat.beq t 64 then some (.agg #[.pointer none,.slice none 0 0]) else (bif Nat.beq t 65 then some (.agg #[.pointer none,.slice none 0 0,.string ⟨#[]⟩,.bool false,.bool false]) else (bif Nat.beq t 66 then some (.agg #[.pointer none,.slice none 0 0,.string ⟨#[]⟩,.bool false,.bool false]) else (bif Nat.beq t 133 then some (.agg #[.int .i64 0,.int .u64 0,.int .i64 0]) else (bif Nat.beq t 134 then some (.agg #[.int .i64 0,.int .u64 0,.int .i64 0]) else (bif Nat.beq t 137 then some (.int .i64 0) else (bif Nat.beq t 144 then some (.pointer none) else (bif Nat.beq t 168 then some (.agg #[.int .u8 0,.int .u8 0,.int .u8 0,.int .u8 0,.int .u8 0,.int .u8 0,.int .u8 0,.int .u8 0]) else (bif Nat.beq t 170 then some (.agg #[.int .u64 0,.int .u64 0]) else (bif Nat.beq t 171 then some (.agg #[.int .u64 0,.int .u64 0]) else (bif Nat.beq t 174 then some (.agg #[.int .u64 0,.int .u64 0,.bool false]) else (bif Nat.beq t 175 then some (.agg #[.int .u64 0,.int .u64 0,.bool false]) else (bif Nat.beq t 177 then some (.agg #[.int .u64 0,.int .u64 0,.int .u64 0,.int .u64 0]) else (bif Nat.beq t 178 then some (.agg #[.int .u64 0,.int .u64 0,.int .u64 0,.int .u64 0]) else (bif Nat.beq t 180 then some (.agg #[.int .u64 0,.int .u64 0,.bool false]) else (bif Nat.beq t 181 then some (.agg #[.int .u64 0,.int .u64 0,.bool false]) else (bif Nat.beq t 191 then some (.agg #[.int .u64 0,.int .u64 0,.int .u64 0,.int .u64 0,.int .u64 0,.int .u64 0,.bool false]) else (bif Nat.beq t 192 then some (.agg #[.int .u64 0,.int .u64 0,.int .u64 0,.int .u64 0,.int .u64 0,.int .u64 0,.bool false]) else (bif Nat.beq t 197 then some (.slice none 0 0) else (bif Nat.beq t 201 then some (.agg #[.int .u64 0,.int .u64 0,.int .u64 0,.int .u64 0]) else (none)))))))))))))))))))))))))))))))))))
theorem ziOf {t:Nat} {z:Value} (h:ziT t=some z):qdg Tryz.prog t=some z:=by
 unfold ziT at h
 by_cases e2:t=2
 ·subst e2;rw [show Nat.beq 2 2=true from rfl,cond_true] at h;rw [←h];exact zi2
 have f2:Nat.beq t 2=false:=by rw [Bool.eq_false_iff];exact fun q=>e2 (Nat.eq_of_beq_eq_true q)
 rw [f2,cond_false] at h
 by_cases e3:t=3
 ·subst e3;rw [show Nat.beq 3 3=true from rfl,cond_true] at h;rw [←h];exact zi3
 have f3:Nat.beq t 3=false:=by rw [Bool.eq_false_iff];exact fun q=>e3 (Nat.eq_of_beq_eq_true q)
 rw [f3,cond_false] at h
 by_cases e4:t=4
 ·subst e4;rw [show Nat.beq 4 4=true from rfl,cond_true] at h;rw [←h];exact zi4
 have f4:Nat.beq t 4=false:=by rw [Bool.eq_false_iff];exact fun q=>e4 (Nat.eq_of_beq_eq_true q)
 rw [f4,cond_false] at h
 by_cases e5:t=5
 ·subst e5;rw [show Nat.beq 5 5=true from rfl,cond_true] at h;rw [←h];exact zi5
 have f5:Nat.beq t 5=false:=by rw [Bool.eq_false_iff];exact fun q=>e5 (Nat.eq_of_beq_eq_true q)
 rw [f5,cond_false] at h
 by_cases e12:t=12
 ·subst e12;rw [show Nat.beq 12 12=true from rfl,cond_true] at h;rw [←h];exact zi12
 have f12:Nat.beq t 12=false:=by rw [Bool.eq_false_iff];exact fun q=>e12 (Nat.eq_of_beq_eq_true q)
 rw [f12,cond_false] at h
 by_cases e22:t=22
 ·subst e22;rw [show Nat.beq 22 22=true from rfl,cond_true] at h;rw [←h];exact zi22
 have f22:Nat.beq t 22=false:=by rw [Bool.eq_false_iff];exact fun q=>e22 (Nat.eq_of_beq_eq_true q)
 rw [f22,cond_false] at h
 by_cases e23:t=23
 ·subst e23;rw [show Nat.beq 23 23=true from rfl,cond_true] at h;rw [←h];exact zi23
 have f23:Nat.beq t 23=false:=by rw [Bool.eq_false_iff];exact fun q=>e23 (Nat.eq_of_beq_eq_true q)
 rw [f23,cond_false] at h
 by_cases e24:t=24
 ·subst e24;rw [show Nat.beq 24 24=true from rfl,cond_true] at h;rw [←h];exact zi24
 have f24:Nat.beq t 24=false:=by rw [Bool.eq_false_iff];exact fun q=>e24 (Nat.eq_of_beq_eq_true q)
 rw [f24,cond_false] at h
 by_cases e25:t=25
 ·subst e25;rw [show Nat.beq 25 25=true from rfl,cond_true] at h;rw [←h];exact zi25
 have f25:Nat.beq t 25=false:=by rw [Bool.eq_false_iff];exact fun q=>e25 (Nat.eq_of_beq_eq_true q)
 rw [f25,cond_false] at h
 by_cases e26:t=26
 ·subst e26;rw [show Nat.beq 26 26=true from rfl,cond_true] at h;rw [←h];exact zi26
 have f26:Nat.beq t 26=false:=by rw [Bool.eq_false_iff];exact fun q=>e26 (Nat.eq_of_beq_eq_true q)
 rw [f26,cond_false] at h
 by_cases e27:t=27
 ·subst e27;rw [show Nat.beq 27 27=true from rfl,cond_true] at h;rw [←h];exact zi27
 have f27:Nat.beq t 27=false:=by rw [Bool.eq_false_iff];exact fun q=>e27 (Nat.eq_of_beq_eq_true q)
 rw [f27,cond_false] at h
 by_cases e28:t=28
 ·subst e28;rw [show Nat.beq 28 28=true from rfl,cond_true] at h;rw [←h];exact zi28
 have f28:Nat.beq t 28=false:=by rw [Bool.eq_false_iff];exact fun q=>e28 (Nat.eq_of_beq_eq_true q)
 rw [f28,cond_false] at h
 by_cases e32:t=32
 ·subst e32;rw [show Nat.beq 32 32=true from rfl,cond_true] at h;rw [←h];exact zi32
 have f32:Nat.beq t 32=false:=by rw [Bool.eq_false_iff];exact fun q=>e32 (Nat.eq_of_beq_eq_true q)
 rw [f32,cond_false] at h
 by_cases e62:t=62
 ·subst e62;rw [show Nat.beq 62 62=true from rfl,cond_true] at h;rw [←h];exact zi62
 have f62:Nat.beq t 62=false:=by rw [Bool.eq_false_iff];exact fun q=>e62 (Nat.eq_of_beq_eq_true q)
 rw [f62,cond_false] at h
 by_cases e63:t=63
 ·subst e63;rw [show Nat.beq 63 63=true from rfl,cond_true] at h;rw [←h];exact zi63
 have f63:Nat.beq t 63=false:=by rw [Bool.eq_false_iff];exact fun q=>e63 (Nat.eq_of_beq_eq_true q)
 rw [f63,cond_false] at h
 by_cases e64:t=64
 ·subst e64;rw [show Nat.beq 64 64=true from rfl,cond_true] at h;rw [←h];exact zi64
 have f64:Nat.beq t 64=false:=by rw [Bool.eq_false_iff];exact fun q=>e64 (Nat.eq_of_beq_eq_true q)
 rw [f64,cond_false] at h
 by_cases e65:t=65
 ·subst e65;rw [show Nat.beq 65 65=true from rfl,cond_true] at h;rw [←h];exact zi65
 have f65:Nat.beq t 65=false:=by rw [Bool.eq_false_iff];exact fun q=>e65 (Nat.eq_of_beq_eq_true q)
 rw [f65,cond_false] at h
 by_cases e66:t=66
 ·subst e66;rw [show Nat.beq 66 66=true from rfl,cond_true] at h;rw [←h];exact zi66
 have f66:Nat.beq t 66=false:=by rw [Bool.eq_false_iff];exact fun q=>e66 (Nat.eq_of_beq_eq_true q)
 rw [f66,cond_false] at h
 by_cases e133:t=133
 ·subst e133;rw [show Nat.beq 133 133=true from rfl,cond_true] at h;rw [←h];exact zi133
 have f133:Nat.beq t 133=false:=by rw [Bool.eq_false_iff];exact fun q=>e133 (Nat.eq_of_beq_eq_true q)
 rw [f133,cond_false] at h
 by_cases e134:t=134
 ·subst e134;rw [show Nat.beq 134 134=true from rfl,cond_true] at h;rw [←h];exact zi134
 have f134:Nat.beq t 134=false:=by rw [Bool.eq_false_iff];exact fun q=>e134 (Nat.eq_of_beq_eq_true q)
 rw [f134,cond_false] at h
 by_cases e137:t=137
 ·subst e137;rw [show Nat.beq 137 137=true from rfl,cond_true] at h;rw [←h];exact zi137
 have f137:Nat.beq t 137=false:=by rw [Bool.eq_false_iff];exact fun q=>e137 (Nat.eq_of_beq_eq_true q)
 rw [f137,cond_false] at h
 by_cases e144:t=144
 ·subst e144;rw [show Nat.beq 144 144=true from rfl,cond_true] at h;rw [←h];exact zi144
 have f144:Nat.beq t 144=false:=by rw [Bool.eq_false_iff];exact fun q=>e144 (Nat.eq_of_beq_eq_true q)
 rw [f144,cond_false] at h
 by_cases e168:t=168
 ·subst e168;rw [show Nat.beq 168 168=true from rfl,cond_true] at h;rw [←h];exact zi168
 have f168:Nat.beq t 168=false:=by rw [Bool.eq_false_iff];exact fun q=>e168 (Nat.eq_of_beq_eq_true q)
 rw [f168,cond_false] at h
 by_cases e170:t=170
 ·subst e170;rw [show Nat.beq 170 170=true from rfl,cond_true] at h;rw [←h];exact zi170
 have f170:Nat.beq t 170=false:=by rw [Bool.eq_false_iff];exact fun q=>e170 (Nat.eq_of_beq_eq_true q)
 rw [f170,cond_false] at h
 by_cases e171:t=171
 ·subst e171;rw [show Nat.beq 171 171=true from rfl,cond_true] at h;rw [←h];exact zi171
 have f171:Nat.beq t 171=false:=by rw [Bool.eq_false_iff];exact fun q=>e171 (Nat.eq_of_beq_eq_true q)
 rw [f171,cond_false] at h
 by_cases e174:t=174
 ·subst e174;rw [show Nat.beq 174 174=true from rfl,cond_true] at h;rw [←h];exact zi174
 have f174:Nat.beq t 174=false:=by rw [Bool.eq_false_iff];exact fun q=>e174 (Nat.eq_of_beq_eq_true q)
 rw [f174,cond_false] at h
 by_cases e175:t=175
 ·subst e175;rw [show Nat.beq 175 175=true from rfl,cond_true] at h;rw [←h];exact zi175
 have f175:Nat.beq t 175=false:=by rw [Bool.eq_false_iff];exact fun q=>e175 (Nat.eq_of_beq_eq_true q)
 rw [f175,cond_false] at h
 by_cases e177:t=177
 ·subst e177;rw [show Nat.beq 177 177=true from rfl,cond_true] at h;rw [←h];exact zi177
 have f177:Nat.beq t 177=false:=by rw [Bool.eq_false_iff];exact fun q=>e177 (Nat.eq_of_beq_eq_true q)
 rw [f177,cond_false] at h
 by_cases e178:t=178
 ·subst e178;rw [show Nat.beq 178 178=true from rfl,cond_true] at h;rw [←h];exact zi178
 have f178:Nat.beq t 178=false:=by rw [Bool.eq_false_iff];exact fun q=>e178 (Nat.eq_of_beq_eq_true q)
 rw [f178,cond_false] at h
 by_cases e180:t=180
 ·subst e180;rw [show Nat.beq 180 180=true from rfl,cond_true] at h;rw [←h];exact zi180
 have f180:Nat.beq t 180=false:=by rw [Bool.eq_false_iff];exact fun q=>e180 (Nat.eq_of_beq_eq_true q)
 rw [f180,cond_false] at h
 by_cases e181:t=181
 ·subst e181;rw [show Nat.beq 181 181=true from rfl,cond_true] at h;rw [←h];exact zi181
 have f181:Nat.beq t 181=false:=by rw [Bool.eq_false_iff];exact fun q=>e181 (Nat.eq_of_beq_eq_true q)
 rw [f181,cond_false] at h
 by_cases e191:t=191
 ·subst e191;rw [show Nat.beq 191 191=true from rfl,cond_true] at h;rw [←h];exact zi191
 have f191:Nat.beq t 191=false:=by rw [Bool.eq_false_iff];exact fun q=>e191 (Nat.eq_of_beq_eq_true q)
 rw [f191,cond_false] at h
 by_cases e192:t=192
 ·subst e192;rw [show Nat.beq 192 192=true from rfl,cond_true] at h;rw [←h];exact zi192
 have f192:Nat.beq t 192=false:=by rw [Bool.eq_false_iff];exact fun q=>e192 (Nat.eq_of_beq_eq_true q)
 rw [f192,cond_false] at h
 by_cases e197:t=197
 ·subst e197;rw [show Nat.beq 197 197=true from rfl,cond_true] at h;rw [←h];exact zi197
 have f197:Nat.beq t 197=false:=by rw [Bool.eq_false_iff];exact fun q=>e197 (Nat.eq_of_beq_eq_true q)
 rw [f197,cond_false] at h
 by_cases e201:t=201
 ·subst e201;rw [show Nat.beq 201 201=true from rfl,cond_true] at h;rw [←h];exact zi201
 have f201:Nat.beq t 201=false:=by rw [Bool.eq_false_iff];exact fun q=>e201 (Nat.eq_of_beq_eq_true q)
 rw [f201,cond_false] at h
 cases h
theorem bi26:BI Tryz.prog 26 [.int .i64 0,.int .u64 0] [(0,1),(1,1)]:=⟨by kernel_rfl,fun w=>by kernel_rfl⟩
theorem bi28:BI Tryz.prog 28 [.int .i64 0,.int .u64 0,.int .i64 0,.int .u64 0] [(0,2),(2,2)]:=⟨by kernel_rfl,fun w=>by kernel_rfl⟩
theorem bi64:BI Tryz.prog 64 [.pointer none,.slice none 0 0] [(0,1),(1,1)]:=⟨by kernel_rfl,fun w=>by kernel_rfl⟩
theorem bi66:BI Tryz.prog 66 [.pointer none,.slice none 0 0,.string ⟨#[]⟩,.bool false,.bool false] [(0,2),(2,1),(3,1),(4,1)]:=⟨by kernel_rfl,fun w=>by kernel_rfl⟩
theorem bi134:BI Tryz.prog 134 [.int .i64 0,.int .u64 0,.int .i64 0] [(0,2),(2,1)]:=⟨by kernel_rfl,fun w=>by kernel_rfl⟩
theorem bi171:BI Tryz.prog 171 [.int .u64 0,.int .u64 0] [(0,1),(1,1)]:=⟨by kernel_rfl,fun w=>by kernel_rfl⟩
theorem bi175:BI Tryz.prog 175 [.int .u64 0,.int .u64 0,.bool false] [(0,2),(2,1)]:=⟨by kernel_rfl,fun w=>by kernel_rfl⟩
theorem bi178:BI Tryz.prog 178 [.int .u64 0,.int .u64 0,.int .u64 0,.int .u64 0] [(0,2),(2,2)]:=⟨by kernel_rfl,fun w=>by kernel_rfl⟩
theorem bi181:BI Tryz.prog 181 [.int .u64 0,.int .u64 0,.bool false] [(0,2),(2,1)]:=⟨by kernel_rfl,fun w=>by kernel_rfl⟩
theorem bi192:BI Tryz.prog 192 [.int .u64 0,.int .u64 0,.int .u64 0,.int .u64 0,.int .u64 0,.int .u64 0,.bool false] [(0,4),(4,2),(6,1)]:=⟨by kernel_rfl,fun w=>by kernel_rfl⟩
def biT (t:Nat):Option (List Value×List (Nat×Nat)):=bif Nat.beq t 26 then some ([.int .i64 0,.int .u64 0],[(0,1),(1,1)]) else (bif Nat.beq t 28 then some ([.int .i64 0,.int .u64 0,.int .i64 0,.int .u64 0],[(0,2),(2,2)]) else (bif Nat.beq t 64 then some ([.pointer none,.slice none 0 0],[(0,1),(1,1)]) else (bif Nat.beq t 66 then some ([.pointer none,.slice none 0 0,.string ⟨#[]⟩,.bool false,.bool false],[(0,2),(2,1),(3,1),(4,1)]) else (bif Nat.beq t 134 then some ([.int .i64 0,.int .u64 0,.int .i64 0],[(0,2),(2,1)]) else (bif Nat.beq t 171 then some ([.int .u64 0,.int .u64 0],[(0,1),(1,1)]) else (bif Nat.beq t 175 then some ([.int .u64 0,.int .u64 0,.bool false],[(0,2),(2,1)]) else (bif Nat.beq t 178 then some ([.int .u64 0,.int .u64 0,.int .u64 0,.int .u64 0],[(0,2),(2,2)]) else (bif Nat.beq t 181 then some ([.int .u64 0,.int .u64 0,.bool false],[(0,2),(2,1)]) else (bif Nat.beq t 192 then some ([.int .u64 0,.int .u64 0,.int .u64 0,.int .u64 0,.int .u64 0,.int .u64 0,.bool false],[(0,4),(4,2),(6,1)]) else (none))))))))))
theorem biOf {t:Nat} {z:List Value} {pl:List (Nat×Nat)} (h:biT t=some (z,pl)):BI Tryz.prog t z pl:=by
 unfold biT at h
 by_cases e26:t=26
 ·subst e26;rw [show Nat.beq 26 26=true from rfl,cond_true] at h;cases h;exact bi26
 have f26:Nat.beq t 26=false:=by rw [Bool.eq_false_iff];exact fun q=>e26 (Nat.eq_of_beq_eq_true q)
 rw [f26,cond_false] at h
 by_cases e28:t=28
 ·subst e28;rw [show Nat.beq 28 28=true from rfl,cond_true] at h;cases h;exact bi28
 have f28:Nat.beq t 28=false:=by rw [Bool.eq_false_iff];exact fun q=>e28 (Nat.eq_of_beq_eq_true q)
 rw [f28,cond_false] at h
 by_cases e64:t=64
 ·subst e64;rw [show Nat.beq 64 64=true from rfl,cond_true] at h;cases h;exact bi64
 have f64:Nat.beq t 64=false:=by rw [Bool.eq_false_iff];exact fun q=>e64 (Nat.eq_of_beq_eq_true q)
 rw [f64,cond_false] at h
 by_cases e66:t=66
 ·subst e66;rw [show Nat.beq 66 66=true from rfl,cond_true] at h;cases h;exact bi66
 have f66:Nat.beq t 66=false:=by rw [Bool.eq_false_iff];exact fun q=>e66 (Nat.eq_of_beq_eq_true q)
 rw [f66,cond_false] at h
 by_cases e134:t=134
 ·subst e134;rw [show Nat.beq 134 134=true from rfl,cond_true] at h;cases h;exact bi134
 have f134:Nat.beq t 134=false:=by rw [Bool.eq_false_iff];exact fun q=>e134 (Nat.eq_of_beq_eq_true q)
 rw [f134,cond_false] at h
 by_cases e171:t=171
 ·subst e171;rw [show Nat.beq 171 171=true from rfl,cond_true] at h;cases h;exact bi171
 have f171:Nat.beq t 171=false:=by rw [Bool.eq_false_iff];exact fun q=>e171 (Nat.eq_of_beq_eq_true q)
 rw [f171,cond_false] at h
 by_cases e175:t=175
 ·subst e175;rw [show Nat.beq 175 175=true from rfl,cond_true] at h;cases h;exact bi175
 have f175:Nat.beq t 175=false:=by rw [Bool.eq_false_iff];exact fun q=>e175 (Nat.eq_of_beq_eq_true q)
 rw [f175,cond_false] at h
 by_cases e178:t=178
 ·subst e178;rw [show Nat.beq 178 178=true from rfl,cond_true] at h;cases h;exact bi178
 have f178:Nat.beq t 178=false:=by rw [Bool.eq_false_iff];exact fun q=>e178 (Nat.eq_of_beq_eq_true q)
 rw [f178,cond_false] at h
 by_cases e181:t=181
 ·subst e181;rw [show Nat.beq 181 181=true from rfl,cond_true] at h;cases h;exact bi181
 have f181:Nat.beq t 181=false:=by rw [Bool.eq_false_iff];exact fun q=>e181 (Nat.eq_of_beq_eq_true q)
 rw [f181,cond_false] at h
 by_cases e192:t=192
 ·subst e192;rw [show Nat.beq 192 192=true from rfl,cond_true] at h;cases h;exact bi192
 have f192:Nat.beq t 192=false:=by rw [Bool.eq_false_iff];exact fun q=>e192 (Nat.eq_of_beq_eq_true q)
 rw [f192,cond_false] at h
 cases h
theorem zjx {d:Nat} {x0 y0 x1 y1:Int}:EqR Tryz.prog (d+2) 26 (.agg #[.int .i64 x0,.int .u64 x1]) (.agg #[.int .i64 y0,.int .u64 y1]) ((x0==y0)&&((x1==y1)&&(true))):=
 qg9 (d:=d+1) (xs:=[.int .i64 x0,.int .u64 x1]) (ys:=[.int .i64 y0,.int .u64 y1]) Tryz.underlying26 (by kernel_rfl) (FEq.one (by decide) (ti rfl) rfl rfl (qtv (hi:=ii rfl) (d:=d+0)) (FEq.one (by decide) (ti rfl) rfl rfl (qtv (hi:=ii rfl) (d:=d+0)) FEq.nil))
theorem eqA0 {x0 y0 x1 y1:Int}:EqOK Tryz.prog 26 [.int .i64 x0,.int .u64 x1] [.int .i64 y0,.int .u64 y1] ((x0==y0)&&((x1==y1)&&(true))):=⟨by kernel_rfl,zjx (d:=9998)⟩
theorem q65 {d:Nat} {x0 y0 x1 y1:Int}:EqR Tryz.prog (d+2) 171 (.agg #[.int .u64 x0,.int .u64 x1]) (.agg #[.int .u64 y0,.int .u64 y1]) ((x0==y0)&&((x1==y1)&&(true))):=
 qg9 (d:=d+1) (xs:=[.int .u64 x0,.int .u64 x1]) (ys:=[.int .u64 y0,.int .u64 y1]) Tryz.underlying171 (by kernel_rfl) (FEq.one (by decide) (ti rfl) rfl rfl (qtv (hi:=ii rfl) (d:=d+0)) (FEq.one (by decide) (ti rfl) rfl rfl (qtv (hi:=ii rfl) (d:=d+0)) FEq.nil))
theorem eqA8 {x0 y0 x1 y1:Int}:EqOK Tryz.prog 171 [.int .u64 x0,.int .u64 x1] [.int .u64 y0,.int .u64 y1] ((x0==y0)&&((x1==y1)&&(true))):=⟨by kernel_rfl,q65 (d:=9998)⟩
end Go.Proofs.YtilkebpcjklmfaaGreat.Own
namespace Go.Proofs.YtilkebpcjklmfaaGreat.Limb
open Go.RowKit Go.Proofs.YtilkebpcjklmfaaGreat.Plain
set_option maxRecDepth 100000
set_option maxHeartbeats 40000000
theorem qvt (f:Nat):∀x,x<2 ^ f→Go.Lib.bitLenAux f x=qgz x:=by
 induction f with
 |zero=>
  intro x hx
  obtain rfl:x=0:=by simpa using hx
  simp [Go.Lib.bitLenAux,qgz]
 |succ f ih=>
  intro x hx
  rw [Nat.pow_succ] at hx
  unfold Go.Lib.bitLenAux
  by_cases h:x=0
  ·rw [if_pos h];simp [qgz,h]
  ·rw [if_neg h,ih (x / 2) (by omega)]
   by_cases h2:x / 2=0
   ·have:x=1:=by omega
    subst this;simp [qgz];decide
   ·have hu:=qs9 (x / 2) (x % 2) 1 h2 (by omega)
    rw [show x / 2 * 2 ^ 1+x % 2=x by omega] at hu
    rw [hu]
theorem qio (x:Nat) (hx:x<18446744073709551616) (w:World):
  Calls Tryz.prog 134 #[.int .u64 x] w fun e w'=>e= .returned (.int .i64 (qgz x:Nat))∧w=w':=by
 have h:=Tryz.bits_Len64 (x:Int) w (by omega) (by omega)
 refine h.mono ?_
 rintro e w' ⟨rfl,rfl⟩
 rw [Int.toNat_natCast]
 exact ⟨by unfold Go.Lib.bitLen;rw [qvt 64 x hx],rfl⟩
def limb_Len.f (a0_0 a0_1 a0_2 a0_3:Int):Option Int:=
 if Wd a0_0∧Wd a0_1∧Wd a0_2∧Wd a0_3 then some (qgz (n4 a0_0 a0_1 a0_2 a0_3):Nat) else none
theorem qlm (x:Nat) (hx:x<18446744073709551616):qgz x≤64:=(qiv x 64).2 hx
theorem zck (a b c d:Nat) (ha:a<18446744073709551616) (hb:b<18446744073709551616) (hc:c<18446744073709551616) (hd:d<18446744073709551616) (w:World):
  Calls Tryz.prog 128 #[.agg #[.int .u64 a,.int .u64 b,.int .u64 c,.int .u64 d]] w fun e w'=>e= .returned (.int .i64 (qgz (qbr a b c d):Nat))∧Below w.heap.size w w':=by
 have hu171:=Tryz.underlying171
 have hu178:=Tryz.underlying178
 have hu201:=Tryz.underlying201
 have i0:∀(x y z u:Value) (w:World),(Instr.index 201 (.agg #[x,y,z,u]) (.int .i64 0)).run Tryz.prog w= .ok x w:=fun _ _ _ _ _=>by rfl
 have i1:∀(x y z u:Value) (w:World),(Instr.index 201 (.agg #[x,y,z,u]) (.int .i64 1)).run Tryz.prog w= .ok y w:=fun _ _ _ _ _=>by rfl
 have i2:∀(x y z u:Value) (w:World),(Instr.index 201 (.agg #[x,y,z,u]) (.int .i64 2)).run Tryz.prog w= .ok z w:=fun _ _ _ _ _=>by rfl
 have i3:∀(x y z u:Value) (w:World),(Instr.index 201 (.agg #[x,y,z,u]) (.int .i64 3)).run Tryz.prog w= .ok u w:=fun _ _ _ _ _=>by rfl
 have hla:=Go.Lib.hid ha
 have hlb:=Go.Lib.hid hb
 have hlc:=Go.Lib.hid hc
 have hld:=Go.Lib.hid hd
 by_cases z1:a=0
 ·by_cases z2:b=0
  ·by_cases z3:c=0
   ·have e:=Go.Lib.hid (ycx d)
    have g:=qlm d hd
    by_cases z4:d=0
    ·subst z1 z2 z3 z4
     clear hla hlb hlc hld ha hb hc hd e g
     go_enter Tryz.func128,Tryz.ntmps128
     go_wp2
     go_rounds 5
     go_ret
     exact ⟨rfl,by go_grown⟩
    ·have n1:((d:Int) !=0)=true:=by rw [bne_iff_ne];omega
     subst z1 z2 z3
     clear ha hb hc hd z4 hla hlb hlc
     go_enter Tryz.func128,Tryz.ntmps128
     go_wp2
     refine wp_loop_rounds 5 ?_
     repeat any_goals (rw [rounds_succ];go_wp2_with (go_at_call 134;refine (qio _ (hld.out) _).mono ?_;rintro e w' ⟨rfl,rfl⟩))
     go_ret
     exact ⟨by rw [e.out];simp,by go_grown⟩
   ·have e:=Go.Lib.hid (yf7 c d z3 hd)
    have g:=qlm c hc
    have n1:((c:Int) !=0)=true:=by rw [bne_iff_ne];omega
    subst z1 z2
    clear ha hb hc hd z3 hla hlb hld
    go_enter Tryz.func128,Tryz.ntmps128
    go_wp2
    refine wp_loop_rounds 5 ?_
    repeat any_goals (rw [rounds_succ];go_wp2_with (go_at_call 134;refine (qio _ (hlc.out) _).mono ?_;rintro e w' ⟨rfl,rfl⟩))
    go_ret
    exact ⟨by rw [e.out];simp,by go_grown⟩
  ·have e:=Go.Lib.hid (z5x b c d z2 hc hd)
   have g:=qlm b hb
   have n1:((b:Int) !=0)=true:=by rw [bne_iff_ne];omega
   subst z1
   clear ha hb hc hd z2 hla hlc hld
   go_enter Tryz.func128,Tryz.ntmps128
   go_wp2
   refine wp_loop_rounds 5 ?_
   repeat any_goals (rw [rounds_succ];go_wp2_with (go_at_call 134;refine (qio _ (hlb.out) _).mono ?_;rintro e w' ⟨rfl,rfl⟩))
   go_ret
   exact ⟨by rw [e.out];simp,by go_grown⟩
 ·have e:=Go.Lib.hid (z8a a b c d z1 hb hc hd)
  have g:=qlm a ha
  have n1:((a:Int) !=0)=true:=by rw [bne_iff_ne];omega
  clear ha hb hc hd z1 hlb hlc hld
  go_enter Tryz.func128,Tryz.ntmps128
  go_wp2
  refine wp_loop_rounds 5 ?_
  repeat any_goals (rw [rounds_succ];go_wp2_with (go_at_call 134;refine (qio _ (hla.out) _).mono ?_;rintro e w' ⟨rfl,rfl⟩))
  go_ret
  exact ⟨by rw [e.out];simp,by go_grown⟩
theorem limb_Len.calls (a0_0 a0_1 a0_2 a0_3:Int) (r:Int) (w:World) (h:limb_Len.f a0_0 a0_1 a0_2 a0_3=some r):
  Calls Tryz.prog 128 #[.agg #[.int .u64 a0_0,.int .u64 a0_1,.int .u64 a0_2,.int .u64 a0_3]] w fun e w'=>e= .returned (.int .i64 r)∧Below w.heap.size w w':=by
 unfold limb_Len.f at h
 split at h
 ·rename_i hb
  obtain ⟨b1,b2,b3,b4⟩:=hb
  obtain ⟨a,rfl,la⟩:=b1.nat
  obtain ⟨b,rfl,lb⟩:=b2.nat
  obtain ⟨c,rfl,lc⟩:=b3.nat
  obtain ⟨d,rfl,ld⟩:=b4.nat
  simp only [n4,Int.toNat_natCast,Option.some.injEq] at h
  subst h
  exact zck a b c d la lb lc ld w
 ·exact absurd h (by simp)
theorem qnw (x s:Nat) (hx:x<18446744073709551616):Go.bits .and .u64 ((x:Int) / 2 ^ s) 1=((x / 2 ^ s % 2:Nat):Int):=by
 have e:(x:Int) / 2 ^ s=((x / 2 ^ s:Nat):Int):=by rw [Int.natCast_ediv,Int.natCast_pow];rfl
 have h:=u64_and_nat (x / 2 ^ s) 1 (Nat.lt_of_le_of_lt (Nat.div_le_self _ _) hx) (by decide)
 rw [nat_mask1] at h
 rw [e]
 exact h
theorem bit_calls (a b c d n:Nat) (ha:a<18446744073709551616) (hb:b<18446744073709551616) (hc:c<18446744073709551616) (hd:d<18446744073709551616) (hn:n<256) (w:World):
  Calls Tryz.prog 140 #[.agg #[.int .u64 d,.int .u64 c,.int .u64 b,.int .u64 a],.int .i64 n] w fun e w'=>e= .returned (.int .u64 (qbr a b c d / 2 ^ n % 2:Nat))∧Below w.heap.size w w':=by
 have hu201:=Tryz.underlying201
 have hq:n / 64=0∨n / 64=1∨n / 64=2∨n / 64=3:=by omega
 rcases hq with hq |hq |hq |hq
 ·have hs:n<64:=by omega
  have E:=Go.Lib.hid ((qnw d n hd).trans (congrArg (fun z:Nat=>(z:Int)) ((qt4 a b c d n hd hc hb).1 hs)))
  have hq':(n:Int) / 64=0:=by omega
  have hs':(n:Int) % 64=(n:Int):=by omega
  clear hq ha hb hc hd hn
  go_enter Tryz.func140,Tryz.ntmps140
  go_wp2
  go_ret
  exact ⟨by rw [←E.out];simp,by go_grown⟩
 ·obtain ⟨s,rfl,hs⟩:∃s,n=64+s∧s<64:=⟨n % 64,by omega,by omega⟩
  have E:=Go.Lib.hid ((qnw c s hc).trans (congrArg (fun z:Nat=>(z:Int)) ((qt4 a b c d s hd hc hb).2.1 hs)))
  have hq':((64:Int)+(s:Int)) / 64=1:=by omega
  have hs':((64:Int)+(s:Int)) % 64=(s:Int):=by omega
  clear hq ha hb hc hd hn
  go_enter Tryz.func140,Tryz.ntmps140
  go_wp2
  go_ret
  exact ⟨by rw [←E.out];simp,by go_grown⟩
 ·obtain ⟨s,rfl,hs⟩:∃s,n=128+s∧s<64:=⟨n % 64,by omega,by omega⟩
  have E:=Go.Lib.hid ((qnw b s hb).trans (congrArg (fun z:Nat=>(z:Int)) ((qt4 a b c d s hd hc hb).2.2.1 hs)))
  have hq':((128:Int)+(s:Int)) / 64=2:=by omega
  have hs':((128:Int)+(s:Int)) % 64=(s:Int):=by omega
  clear hq ha hb hc hd hn
  go_enter Tryz.func140,Tryz.ntmps140
  go_wp2
  go_ret
  exact ⟨by rw [←E.out];simp,by go_grown⟩
 ·obtain ⟨s,rfl,hs⟩:∃s,n=192+s∧s<64:=⟨n % 64,by omega,by omega⟩
  have E:=Go.Lib.hid ((qnw a s ha).trans (congrArg (fun z:Nat=>(z:Int)) ((qt4 a b c d s hd hc hb).2.2.2 hs)))
  have hq':((192:Int)+(s:Int)) / 64=3:=by omega
  have hs':((192:Int)+(s:Int)) % 64=(s:Int):=by omega
  clear hq ha hb hc hd hn
  go_enter Tryz.func140,Tryz.ntmps140
  go_wp2
  go_ret
  exact ⟨by rw [←E.out];simp,by go_grown⟩
structure DivNum (A B m R O:Nat):Prop where
 hm:m≤256
 hR:R=A / 2 ^ m % B
 hO:O=A / 2 ^ m / B * 2 ^ m
theorem divnum_start (A B:Nat) (h:qgz A≤256):DivNum A B (qgz A) (qbc 0 0) (qbr 0 0 0 0):=by
 have e:A / 2 ^ qgz A=0:=Nat.div_eq_of_lt (zbe A)
 exact ⟨h,by rw [e];simp [qbc],by rw [e];simp [qbr]⟩
theorem div_round {A B k R O:Nat} (hB:0<B) (D:DivNum A B (k+1) R O):R<B∧O % 2 ^ (k+1)=0∧
  (2 * R+A / 2 ^ k % 2<B→DivNum A B k (2 * R+A / 2 ^ k % 2) O)∧(B≤2 * R+A / 2 ^ k % 2→DivNum A B k (2 * R+A / 2 ^ k % 2 - B) (O+2 ^ k)):=by
 obtain ⟨hm,hR,hO⟩:=D
 have hRB:R<B:=by rw [hR];exact Nat.mod_lt _ hB
 have e1:A / 2 ^ (k+1)=A / 2 ^ k / 2:=by rw [Nat.pow_succ,Nat.div_div_eq_div_mul]
 have e2:=Nat.div_add_mod (A / 2 ^ (k+1)) B
 rw [←hR] at e2
 have e3:A / 2 ^ k=B * (2 * (A / 2 ^ (k+1) / B))+(2 * R+A / 2 ^ k % 2):=by
  have:A / 2 ^ k=2 * (A / 2 ^ (k+1))+A / 2 ^ k % 2:=by rw [e1];omega
  rw [←e2] at this
  rw [Nat.mul_add,←Nat.mul_assoc,Nat.mul_comm 2 B,Nat.mul_assoc] at this
  omega
 generalize A / 2 ^ (k+1) / B=Q at *
 generalize hT:2 * R+A / 2 ^ k % 2=T at *
 have hT2:T<2 * B:=by omega
 refine ⟨hRB,by rw [hO,Nat.mul_mod_left],fun h=>⟨by omega,?_,?_⟩,fun h=>⟨by omega,?_,?_⟩⟩
 ·rw [e3,Nat.mul_add_mod,Nat.mod_eq_of_lt h]
 ·rw [e3,Nat.mul_add_div hB,Nat.div_eq_of_lt h,hO,Nat.pow_succ,Nat.add_zero,Nat.mul_comm (2 ^ k) 2,←Nat.mul_assoc,Nat.mul_comm 2 Q]
 ·rw [e3,Nat.mul_add_mod,show T=B * 1+(T - B) by omega,Nat.mul_add_mod,Nat.mod_eq_of_lt (by omega)]
  omega
 ·have:T / B=1:=Nat.div_eq_of_lt_le (by omega) (by omega)
  rw [e3,Nat.mul_add_div hB,this,hO,Nat.pow_succ,Nat.add_mul,Nat.one_mul,Nat.mul_comm (2 ^ k) 2,←Nat.mul_assoc,Nat.mul_comm 2 Q]
theorem double_words (r1 r0 e:Nat) (he:e<2) (h1:r1<18446744073709551616) (h0:r0<18446744073709551616):
  (r1 * 2 % 18446744073709551616|||r0 / 9223372036854775808)<18446744073709551616∧(r0 * 2 % 18446744073709551616|||e)<18446744073709551616∧qbc (r1 * 2 % 18446744073709551616|||r0 / 9223372036854775808) (r0 * 2 % 18446744073709551616|||e)=(2 * qbc r1 r0+e) % 340282366920938463463374607431768211456:=by
 have q1:(r1 * 2 % 18446744073709551616|||r0 / 9223372036854775808)=r1 * 2 % 18446744073709551616+r0 / 9223372036854775808:=by
  have h:=qvv 1 (r1 % 9223372036854775808) (r0 / 9223372036854775808) (by omega)
  rw [Nat.pow_one] at h
  rw [show r1 * 2 % 18446744073709551616=2 * (r1 % 9223372036854775808) by omega]
  exact h
 have q2:(r0 * 2 % 18446744073709551616|||e)=r0 * 2 % 18446744073709551616+e:=by
  have h:=qvv 1 (r0 % 9223372036854775808) e (by omega)
  rw [Nat.pow_one] at h
  rw [show r0 * 2 % 18446744073709551616=2 * (r0 % 9223372036854775808) by omega]
  exact h
 rw [q1,q2]
 unfold qbc
 omega
theorem qrn (o s:Nat) (hs:s<64) (ho:o<18446744073709551616) (h:o % 2 ^ (s+1)=0):o|||2 ^ s=o+2 ^ s∧o+2 ^ s<18446744073709551616:=by
 have e:o=2 ^ (s+1) * (o / 2 ^ (s+1)):=by have:=Nat.div_add_mod o (2 ^ (s+1));omega
 have h1:=qvv (s+1) (o / 2 ^ (s+1)) (2 ^ s) (Nat.pow_lt_pow_right (by decide) (by omega))
 rw [←e] at h1
 have h2:=Nat.or_lt_two_pow (n:=64) ho (Nat.pow_lt_pow_right (by decide) hs)
 exact ⟨h1,by rw [←h1];exact h2⟩
theorem zg7 (a b c d k s:Nat) (hs:s<64) (hb:b<18446744073709551616) (hc:c<18446744073709551616) (hd:d<18446744073709551616) (h:qbr a b c d % 2 ^ (k+1)=0):(k=s→d % 2 ^ (s+1)=0)∧(k=64+s→c % 2 ^ (s+1)=0)∧(k=128+s→b % 2 ^ (s+1)=0)∧(k=192+s→a % 2 ^ (s+1)=0):=by
 have hW:2 ^ (s+1) * 2 ^ (63 - s)=18446744073709551616:=by rw [←Nat.pow_add,show s+1+(63 - s)=64 by omega]
 have low:∀x y:Nat,(x * 18446744073709551616+y) % 2 ^ (s+1)=y % 2 ^ (s+1):=fun x y=>by
  rw [←hW,←Nat.mul_assoc,Nat.mul_comm x,Nat.mul_assoc,Nat.mul_add_mod]
 have up:∀(x y t:Nat),(x * 2 ^ t+y) % 2 ^ (t+(s+1))=0→y<2 ^ t→x % 2 ^ (s+1)=0:=fun x y t h hy=>by
  have h1:(x * 2 ^ t+y) / 2 ^ t % 2 ^ (s+1)=0:=by
   have:=Nat.mod_mul_right_div_self (x * 2 ^ t+y) (2 ^ t) (2 ^ (s+1))
   rw [←Nat.pow_add,h,Nat.zero_div] at this
   exact this.symm
  rwa [Nat.mul_comm,Nat.mul_add_div (Nat.pow_pos (by decide)),Nat.div_eq_of_lt hy,Nat.add_zero] at h1
 have v3:qbr a b c d=a * 2 ^ 192+(b * 2 ^ 128+(c * 2 ^ 64+d)):=by unfold qbr;simp only [Nat.reducePow];omega
 refine ⟨fun hk=> ?_,fun hk=> ?_,fun hk=> ?_,fun hk=> ?_⟩
 ·subst hk
  unfold qbr at h
  rw [low] at h
  exact h
 ·subst hk
  have e:qbr a b c d=(qbr 0 a b c) * 2 ^ 64+d:=by unfold qbr;simp only [Nat.reducePow];omega
  rw [e,show 64+s+1=64+(s+1) by omega] at h
  have h1:=up _ _ _ h hd
  unfold qbr at h1
  rwa [low] at h1
 ·subst hk
  have e:qbr a b c d=(qbr 0 0 a b) * 2 ^ 128+(c * 2 ^ 64+d):=by unfold qbr;simp only [Nat.reducePow];omega
  rw [e,show 128+s+1=128+(s+1) by omega] at h
  have h1:=up _ _ _ h (by simp only [Nat.reducePow];omega)
  unfold qbr at h1
  rwa [low] at h1
 ·subst hk
  rw [v3,show 192+s+1=192+(s+1) by omega] at h
  exact up _ _ _ h (by simp only [Nat.reducePow];omega)
theorem sub_calls (x1 x0 p q:Nat) (h1:x1<18446744073709551616) (h0:x0<18446744073709551616) (hp:p<18446744073709551616) (hq:q<18446744073709551616) (w:World):
  Calls Tryz.prog 119 #[.agg #[.int .u64 x1,.int .u64 x0],.agg #[.int .u64 p,.int .u64 q]] w fun e w'=>e= .returned (.tuple #[.agg #[.int .u64 (wrd 1 (qbc x1 x0+340282366920938463463374607431768211456 - qbc p q):Nat),.int .u64 (wrd 0 (qbc x1 x0+340282366920938463463374607431768211456 - qbc p q):Nat)],.bool (decide (qbc x1 x0<qbc p q))])∧Below w.heap.size w w':=by
 refine limb_Sub.calls _ _ _ _ _ _ _ w ?_
 unfold limb_Sub.f
 rw [if_pos ⟨Wd.mk h1,Wd.mk h0,Wd.mk hp,Wd.mk hq⟩]
 simp only [n2,e2,Int.toNat_natCast]
 congr
theorem val2_mod (N:Nat):qbc (wrd 1 N) (wrd 0 N)=N % 340282366920938463463374607431768211456:=by
 unfold qbc wrd
 simp only [Nat.reducePow]
 omega
theorem div_in {A B k O x1 x0 r1 r0 e:Nat} (bb ls:Bool) (D:DivNum A B (k+1) (qbc r1 r0) O) (hB:¬B=0) (hB2:B<340282366920938463463374607431768211456) (he:A / 2 ^ k % 2=e) (hx:qbc x1 x0=(2 * qbc r1 r0+e) % 340282366920938463463374607431768211456) (hbb:bb=decide (340282366920938463463374607431768211456≤2 * qbc r1 r0+e)) (hls:decide (qbc x1 x0<B)=ls) (h:(bb|| !ls)=true):
  DivNum A B k (qbc (wrd 1 (qbc x1 x0+340282366920938463463374607431768211456 - B)) (wrd 0 (qbc x1 x0+340282366920938463463374607431768211456 - B))) (O+2 ^ k)∧O % 2 ^ (k+1)=0:=by
 obtain ⟨h1,h2,_,h4⟩:=div_round (Nat.pos_of_ne_zero hB) D
 rw [he] at h4
 generalize qbc r1 r0=R at *
 have hT:B≤2 * R+e:=by
  subst hbb hls
  simp only [Bool.or_eq_true,decide_eq_true_eq,Bool.not_eq_true',decide_eq_false_iff_not] at h
  omega
 have he2:e<2:=by omega
 rw [val2_mod,hx,show ((2 * R+e) % 340282366920938463463374607431768211456+340282366920938463463374607431768211456 - B) % 340282366920938463463374607431768211456=2 * R+e - B by omega]
 exact ⟨h4 hT,h2⟩
theorem div_out {A B k O x1 x0 r1 r0 e:Nat} (D:DivNum A B (k+1) (qbc r1 r0) O) (hB:¬B=0) (he:A / 2 ^ k % 2=e) (hx:qbc x1 x0=(2 * qbc r1 r0+e) % 340282366920938463463374607431768211456) (hbb:false=decide (340282366920938463463374607431768211456≤2 * qbc r1 r0+e)) (hls:decide (qbc x1 x0<B)=true):
  DivNum A B k (qbc x1 x0) O:=by
 obtain ⟨_,_,h3,_⟩:=div_round (Nat.pos_of_ne_zero hB) D
 rw [he] at h3
 have hb:¬340282366920938463463374607431768211456≤2 * qbc r1 r0+e:=of_decide_eq_false hbb.symm
 have hl:=of_decide_eq_true hls
 rw [Nat.mod_eq_of_lt (by omega)] at hx
 rw [hx] at hl ⊢
 exact h3 hl
theorem quot_bit (o3 o2 o1 o0 k s:Nat) (hs:s<64) (l3:o3<18446744073709551616) (l2:o2<18446744073709551616) (l1:o1<18446744073709551616) (l0:o0<18446744073709551616) (h:qbr o3 o2 o1 o0 % 2 ^ (k+1)=0):
  (k=s→(o0|||2 ^ s)<18446744073709551616∧qbr o3 o2 o1 (o0|||2 ^ s)=qbr o3 o2 o1 o0+2 ^ k)∧(k=64+s→(o1|||2 ^ s)<18446744073709551616∧qbr o3 o2 (o1|||2 ^ s) o0=qbr o3 o2 o1 o0+2 ^ k)∧
  (k=128+s→(o2|||2 ^ s)<18446744073709551616∧qbr o3 (o2|||2 ^ s) o1 o0=qbr o3 o2 o1 o0+2 ^ k)∧(k=192+s→(o3|||2 ^ s)<18446744073709551616∧qbr (o3|||2 ^ s) o2 o1 o0=qbr o3 o2 o1 o0+2 ^ k):=by
 obtain ⟨z0,z1,z2,z3⟩:=zg7 o3 o2 o1 o0 k s hs l2 l1 l0 h
 refine ⟨fun e=> ?_,fun e=> ?_,fun e=> ?_,fun e=> ?_⟩
 ·obtain ⟨b1,b2⟩:=qrn o0 s hs l0 (z0 e)
  rw [b1,e]
  exact ⟨b2,by unfold qbr;omega⟩
 ·obtain ⟨b1,b2⟩:=qrn o1 s hs l1 (z1 e)
  rw [b1,e,Nat.pow_add]
  exact ⟨b2,by unfold qbr;simp only [Nat.reducePow];omega⟩
 ·obtain ⟨b1,b2⟩:=qrn o2 s hs l2 (z2 e)
  rw [b1,e,Nat.pow_add]
  exact ⟨b2,by unfold qbr;simp only [Nat.reducePow];omega⟩
 ·obtain ⟨b1,b2⟩:=qrn o3 s hs l3 (z3 e)
  rw [b1,e,Nat.pow_add]
  exact ⟨b2,by unfold qbr;simp only [Nat.reducePow];omega⟩
theorem set_word (o s:Nat) (hs:s<64) (ho:o<18446744073709551616):Go.bits .or .u64 (o:Int) (IntKind.u64.wrap (2 ^ s))=((o|||2 ^ s:Nat):Int):=by
 have hp:2 ^ s<18446744073709551616:=Nat.pow_lt_pow_right (by decide) hs
 have e:IntKind.u64.wrap (2 ^ s)=((2 ^ s:Nat):Int):=by
  rw [IntKind.wrap_u64,show (2:Int) ^ s=((2 ^ s:Nat):Int) by rw [Int.natCast_pow];rfl]
  generalize 2 ^ s=P at *
  omega
 rw [e]
 exact u64_or_nat _ _ ho hp
theorem div_end {A B r1 r0 o3 o2 o1 o0:Nat} (D:DivNum A B 0 (qbc r1 r0) (qbr o3 o2 o1 o0)) (l1:r1<18446744073709551616) (l0:r0<18446744073709551616) (m3:o3<18446744073709551616) (m2:o2<18446744073709551616) (m1:o1<18446744073709551616) (m0:o0<18446744073709551616):
  wrd 3 (A / B)=o3∧wrd 2 (A / B)=o2∧wrd 1 (A / B)=o1∧wrd 0 (A / B)=o0∧wrd 1 (A % B)=r1∧wrd 0 (A % B)=r0:=by
 obtain ⟨_,hR,hO⟩:=D
 rw [Nat.pow_zero,Nat.div_one] at hR
 rw [Nat.pow_zero,Nat.div_one,Nat.mul_one] at hO
 obtain ⟨v1,v2,v3,v4⟩:=qje m3 m2 m1 m0 hO
 obtain ⟨u1,u2⟩:=zb5 l1 l0 hR
 exact ⟨v1,v2,v3,v4,u1,u2⟩
theorem beyond_iff (r1 r0 e:Nat) (he:e<2) (h0:r0<18446744073709551616):decide (0<(r1:Int) / 9223372036854775808)=decide (340282366920938463463374607431768211456≤2 * qbc r1 r0+e):=by
 rw [decide_eq_decide];unfold qbc;omega
theorem hi_word (r1 r0:Nat) (h0:r0<18446744073709551616):Go.bits .or .u64 (IntKind.u64.wrap ((r1:Int) * 2)) ((r0:Int) / 9223372036854775808)=((r1 * 2 % 18446744073709551616|||r0 / 9223372036854775808:Nat):Int):=by
 rw [show IntKind.u64.wrap ((r1:Int) * 2)=((r1 * 2 % 18446744073709551616:Nat):Int) by rw [IntKind.wrap_u64];omega,show (r0:Int) / 9223372036854775808=((r0 / 9223372036854775808:Nat):Int) by omega]
 exact u64_or_nat _ _ (Nat.mod_lt _ (by decide)) (by omega)
theorem lo_word (r0 e:Nat) (he:e<2):Go.bits .or .u64 (IntKind.u64.wrap ((r0:Int) * 2)) (e:Int)=((r0 * 2 % 18446744073709551616|||e:Nat):Int):=by
 rw [show IntKind.u64.wrap ((r0:Int) * 2)=((r0 * 2 % 18446744073709551616:Nat):Int) by rw [IntKind.wrap_u64];omega]
 exact u64_or_nat _ _ (Nat.mod_lt _ (by decide)) (by omega)
end Go.Proofs.YtilkebpcjklmfaaGreat.Limb
namespace Go.Proofs.YtilkebpcjklmfaaGreat.Own
open Go Go.RowKit Go.Proofs Go.Proofs.YtilkebpcjklmfaaGreat.Plain
open Go.Proofs.YtilkebpcjklmfaaGreat.Limb (limb_Add.f limb_Add.calls limb_Sub.f limb_Sub.calls limb_Len.f limb_Len.calls limb_list.calls0 limb_four.calls0 n2 n4 e2 e4 Wd DivNum divnum_start div_round double_words val2_mod div_in div_out quot_bit set_word div_end beyond_iff hi_word lo_word bit_calls sub_calls)
set_option maxRecDepth 100000
set_option maxHeartbeats 40000000
structure Two where
 hi:Int
 lo:Int
 b:0≤hi∧hi<18446744073709551616∧0≤lo∧lo<18446744073709551616
def Two.n (a:Two):Nat:=n2 a.hi a.lo
@[reducible] def Two.v (a:Two):Value:= .agg #[.int .u64 a.hi,.int .u64 a.lo]
def Two.of (N:Nat):Two:=⟨(wrd 1 N:Nat),(wrd 0 N:Nat),by have:=qg0 1 N;have:=qg0 0 N;omega⟩
structure Four where
 hi:Two
 lo:Two
def Four.n (a:Four):Nat:=n4 a.hi.hi a.hi.lo a.lo.hi a.lo.lo
@[reducible] def Four.v (a:Four):Value:= .agg #[.int .u64 a.hi.hi,.int .u64 a.hi.lo,.int .u64 a.lo.hi,.int .u64 a.lo.lo]
def Four.of (N:Nat):Four:=⟨⟨(wrd 3 N:Nat),(wrd 2 N:Nat),by have:=qg0 3 N;have:=qg0 2 N;omega⟩,⟨(wrd 1 N:Nat),(wrd 0 N:Nat),by have:=qg0 1 N;have:=qg0 0 N;omega⟩⟩
theorem Two.wd (a:Two):Wd a.hi∧Wd a.lo:=by have:=a.b;unfold Wd;omega
theorem Two.lt (a:Two):a.n<340282366920938463463374607431768211456:=by have:=a.b;unfold Two.n n2 qbc;omega
theorem Four.lt (a:Four):a.n<115792089237316195423570985008687907853269984665640564039457584007913129639936:=by have:=a.hi.b;have:=a.lo.b;unfold Four.n n4 qbr;omega
theorem Four.n_eq (a:Four):a.n=a.hi.n * 340282366920938463463374607431768211456+a.lo.n:=by have:=a.hi.b;have:=a.lo.b;unfold Four.n Two.n n4 n2 qbr qbc;omega
theorem Two.of_n (N:Nat):(Two.of N).n=N % 340282366920938463463374607431768211456:=by
 unfold Two.n Two.of n2 qbc wrd;simp only [Int.toNat_natCast,Nat.reducePow];omega
theorem Two.n_of (a:Two):Two.of a.n=a:=by
 obtain ⟨h,l,hb⟩:=a
 simp only [Two.n,Two.of,n2,qbc,wrd,Two.mk.injEq,Nat.reducePow];omega
theorem Two.ext_n {a b:Two} (h:a.n=b.n):a=b:=by rw [←Two.n_of a,←Two.n_of b,h]
theorem Four.of_n (N:Nat):(Four.of N).n=N % 115792089237316195423570985008687907853269984665640564039457584007913129639936:=by
 unfold Four.n Four.of n4 qbr wrd;simp only [Int.toNat_natCast,Nat.reducePow];omega
theorem Four.n_of (a:Four):Four.of a.n=a:=by
 obtain ⟨⟨h,l,hb⟩,⟨h',l',hb'⟩⟩:=a
 simp only [Four.n,Four.of,n4,qbr,wrd,Four.mk.injEq,Two.mk.injEq,Nat.reducePow]
 omega
theorem Four.ext_n {a b:Four} (h:a.n=b.n):a=b:=by rw [←Four.n_of a,←Four.n_of b,h]
theorem qlt (a b:Two):Pure Tryz.prog 116 #[a.v,b.v] (.tuple #[(Two.of (a.n+b.n)).v,.bool (decide (340282366920938463463374607431768211456≤a.n+b.n))]):=fun w=>
 limb_Add.calls _ _ _ _ _ _ _ w (by unfold limb_Add.f;rw [if_pos ⟨a.wd.1,a.wd.2,b.wd⟩];rfl)
theorem qke (a b:Two):Pure Tryz.prog 119 #[a.v,b.v] (.tuple #[(Two.of (a.n+340282366920938463463374607431768211456 - b.n)).v,.bool (decide (a.n<b.n))]):=fun w=>
 limb_Sub.calls _ _ _ _ _ _ _ w (by unfold limb_Sub.f;rw [if_pos ⟨a.wd.1,a.wd.2,b.wd⟩];rfl)
theorem qsb (a:Four):Pure Tryz.prog 128 #[a.v] (.int .i64 (qgz a.n:Nat)):=fun w=>
 limb_Len.calls _ _ _ _ _ w (by unfold limb_Len.f;rw [if_pos ⟨a.hi.wd.1,a.hi.wd.2,a.lo.wd⟩];rfl)
theorem zft (a:Four):Pure Tryz.prog 139 #[a.v] (.agg #[.int .u64 a.lo.lo,.int .u64 a.lo.hi,.int .u64 a.hi.lo,.int .u64 a.hi.hi]):=fun w=>limb_list.calls0 _ _ _ _ w
theorem za4 (x0 x1 x2 x3:Int):Pure Tryz.prog 141 #[.agg #[.int .u64 x0,.int .u64 x1,.int .u64 x2,.int .u64 x3]] (.agg #[.int .u64 x3,.int .u64 x2,.int .u64 x1,.int .u64 x0]):=fun w=>limb_four.calls0 _ _ _ _ w
theorem zme {a b c d n:Nat} (ha:a<18446744073709551616) (hb:b<18446744073709551616) (hc:c<18446744073709551616) (hd:d<18446744073709551616) (hn:n<256):Pure Tryz.prog 140 #[.agg #[.int .u64 (d:Nat),.int .u64 (c:Nat),.int .u64 (b:Nat),.int .u64 (a:Nat)],.int .i64 (n:Nat)] (.int .u64 (qbr a b c d / 2 ^ n % 2:Nat)):=fun w=>bit_calls a b c d n ha hb hc hd hn w
theorem q87 {x1 x0 p q:Nat} (h1:x1<18446744073709551616) (h0:x0<18446744073709551616) (hp:p<18446744073709551616) (hq:q<18446744073709551616):
  Pure Tryz.prog 119 #[.agg #[.int .u64 (x1:Nat),.int .u64 (x0:Nat)],.agg #[.int .u64 (p:Nat),.int .u64 (q:Nat)]] (.tuple #[.agg #[.int .u64 (wrd 1 (qbc x1 x0+340282366920938463463374607431768211456 - qbc p q):Nat),.int .u64 (wrd 0 (qbc x1 x0+340282366920938463463374607431768211456 - qbc p q):Nat)],.bool (decide (qbc x1 x0<qbc p q))]):=fun w=>sub_calls x1 x0 p q h1 h0 hp hq w
end Go.Proofs.YtilkebpcjklmfaaGreat.Own
namespace Go.Proofs.YtilkebpcjklmfaaGreat.Own
open Go Go.RowKit Go.Proofs Go.Proofs.YtilkebpcjklmfaaGreat.Bd
set_option maxRecDepth 100000
set_option maxHeartbeats 40000000
theorem SetB.via {L L':List Blk} {g:Nat} {cs cs':List Value} {T:TypeId} (h:SetB L g cs T cs' L') (c2:List Value):∃L2,SetB L g cs T c2 L2∧SetB L2 g c2 T cs' L':=by
 induction h with
 |here=>exact ⟨_,.here,.here⟩
 |next _ ih=>obtain ⟨L2,h1,h2⟩:=ih;exact ⟨_,.next h1,.next h2⟩
theorem qrk {w0 w:World} {L L':List Blk} {g j:Nat} {cs:List Value} {T:TypeId} {v:Value} (h:Own w0 L w) (hs:SetB L g cs T (cs.set j v) L'):Own w0 L' (w.setCell ⟨g,j,none⟩ v):=by
 have hb:=h.block hs.has
 refine h.set hs ?_ (fun k hk=>Below.heap_setCell _ _ _ _ hk) (by simp [World.setCell]) rfl rfl rfl
 rw [qux _ hb]
 simp
section
variable {c:Cfg} {e:Vl} {σ σ0:List (Nat×Nat×Nat)} {w0:World}
theorem qkd:∀{M:MB} {LM:List Blk},RM c.P e σ M LM→∀{k:Nat} {cs cs':List C} {T:TypeId} {M':MB},lkB M k=some (cs,T,false)→stB M k cs'=some M'→cs'.length=cs.length→
  ∃g gc vs,σ[k]? =some (g,0,gc)∧RelCs e σ cs vs∧∀vs',RelCs e σ cs' vs'→∃LM',SetB LM g vs T vs' LM'∧RM c.P e σ M' LM'
 |_,_,.nil,k,cs,cs',T,M',hk,_,_=>by cases hk
 |_,_,.big (k:=k') hk' hc hi hn hr t,k,cs,cs',T,M',hk,hs,hl=>by
  simp only [lkB,qjx,cond_true] at hk
  simp only [stB] at hs
  cases hb:Nat.beq k' k with
  |true=>simp only [hb,cond_true] at hk;cases hk
  |false=>
   simp only [hb,cond_false] at hk hs
   split at hs
   ·rename_i r' hr'
    cases hs
    obtain ⟨g,gc,vs,a1,a2,a3⟩:=qkd t hk hr' hl
    refine ⟨g,gc,vs,a1,a2,fun vs' hv=> ?_⟩
    obtain ⟨LM',b1,b2⟩:=a3 vs' hv
    exact ⟨_,.next b1,.big hk' hc hi hn hr b2⟩
   ·cases hs
 |_,_,.big0 (k:=k') hk' he t,k,cs,cs',T,M',hk,hs,hl=>by
  simp only [lkB,qjx,cond_true] at hk
  simp only [stB] at hs
  cases hb:Nat.beq k' k with
  |true=>simp only [hb,cond_true] at hk;cases hk
  |false=>
   simp only [hb,cond_false] at hk hs
   split at hs
   ·rename_i r' hr'
    cases hs
    obtain ⟨g,gc,vs,a1,a2,a3⟩:=qkd t hk hr' hl
    refine ⟨g,gc,vs,a1,a2,fun vs' hv=> ?_⟩
    obtain ⟨LM',b1,b2⟩:=a3 vs' hv
    exact ⟨_,b1,.big0 hk' he b2⟩
   ·cases hs
 |_,_,.frm (k:=k') t,k,cs,cs',T,M',hk,hs,hl=>by
  simp only [lkB,qjx,cond_true] at hk
  simp only [stB] at hs
  cases hb:Nat.beq k' k with
  |true=>simp only [hb,cond_true] at hk;cases hk
  |false=>
   simp only [hb,cond_false] at hk hs
   split at hs
   ·rename_i r' hr'
    cases hs
    obtain ⟨g,gc,vs,a1,a2,a3⟩:=qkd t hk hr' hl
    refine ⟨g,gc,vs,a1,a2,fun vs' hv=> ?_⟩
    obtain ⟨LM',b1,b2⟩:=a3 vs' hv
    exact ⟨_,b1.right _,.frm b2⟩
   ·cases hs
 |_,_,.cons (k:=k') (T:=T') (o:=o') hk' hc ho hr t,k,cs,cs',T,M',hk,hs,hl=>by
  simp only [lkB,hc.notBig,cond_false] at hk
  simp only [stB] at hs
  cases hb:Nat.beq k' k with
  |true=>
   simp only [hb,cond_true,Option.some.injEq,Prod.mk.injEq] at hk hs
   obtain ⟨rfl,rfl,rfl⟩:=hk
   subst hs
   rw [←Nat.eq_of_beq_eq_true hb]
   have h0:=ho rfl
   subst h0
   refine ⟨_,_,_,hk',hc,fun vs' hv=>⟨_,?_,.cons (rest:=[]) hk' hv ho (fun hq=>by cases hq) t⟩⟩
   rw [List.append_nil,List.append_nil];exact .here
  |false=>
   simp only [hb,cond_false] at hk hs
   split at hs
   ·rename_i r' hr'
    cases hs
    obtain ⟨g,gc,vs,a1,a2,a3⟩:=qkd t hk hr' hl
    refine ⟨g,gc,vs,a1,a2,fun vs' hv=> ?_⟩
    obtain ⟨LM',b1,b2⟩:=a3 vs' hv
    exact ⟨_,.next b1,.cons hk' hc ho hr b2⟩
   ·cases hs
def zv3 (c:Cfg) (e:Vl) (σ:List (Nat×Nat×Nat)) (w0:World) (v:V) (M':MB) (nx':Nat):Ending→World→Prop:=fun en w'=>∃u σ' LM',en= .returned u∧Ext σ σ'∧σ'.length=nx'∧RelV e σ' v u∧RM c.P e σ' M' LM'∧Own w0 LM' w'
theorem qwt {vs:List Value} {k:Nat} (h:RelVs e σ [.one (.ptr k 0)] vs):∃g b cc,σ[k]? =some (g,b,cc)∧vs=[.pointer (some ⟨g,b,none⟩)]:=by
 cases h with |cons h1 t=>cases t;obtain ⟨g,b,cc,hg,rfl⟩:=qks h1;exact ⟨g,b,cc,hg,by simp⟩
theorem z32 {a1 a2 a3 a4 a5:C} {vs:List Value} (h:RelCs e σ [a1,a2,a3,a4,a5] vs):∃v1 v2 v3 v4 v5,vs=[v1,v2,v3,v4,v5]∧RelC e σ a1 v1∧RelC e σ a2 v2∧RelC e σ a3 v3∧RelC e σ a4 v4∧RelC e σ a5 v5:=by
 cases h with |cons q1 h=>cases h with |cons q2 h=>cases h with |cons q3 h=>cases h with |cons q4 h=>cases h with |cons q5 h=>cases h;exact ⟨_,_,_,_,_,rfl,q1,q2,q3,q4,q5⟩
theorem q4t (hP:c.P=Tryz.prog) {vs:List V} {M M':MB} {nx nx':Nat} {v:V} (h:zv7 vs M nx=some (v,M',nx')) {us:List Value} {LM:List Blk} (hn:σ.length=nx) (hus:RelVs e σ vs us) (hM:RM c.P e σ M LM) {w:World} (hw:Own w0 LM w):
  Calls c.P 87 (List.toArray us) w (zv3 c e σ w0 v M' nx'):=by
 unfold zv7 at h
 split at h
 rotate_left
 ·cases h
 rename_i k
 obtain ⟨g,b,cc,hg,rfl⟩:=qwt hus
 split at h
 rotate_left
 ·cases h
 rename_i cs T hk
 cases hT:Nat.beq T 66 with
 |false=>rw [hT,cond_false] at h;cases h
 |true=>
  have hT':=Nat.eq_of_beq_eq_true hT
  subst hT'
  rw [hT,cond_true] at h
  split at h
  ·rename_i b1 i1 g1 d1
   split at h
   ·rename_i M1 hst
    cases h
    obtain ⟨g',gc,ws,s1,s2,s3⟩:=qkd hM hk hst rfl
    rw [hg] at s1;cases s1
    obtain ⟨_,_,_,_,_,rfl,q0,q1,q2,q3,q4⟩:=z32 s2
    cases q0
    obtain ⟨LM',t1,t2⟩:=s3 _ (.cons (.ptr hg) (.cons q1 (.cons q2 (.cons q3 (.cons q4 .nil)))))
    have hb:=hw.block t1.has
    have:=qqe g w (by rw [Lib.cell_of_heap hb];rfl) (by simp [World.shape?,hb]) (Lib.frozen_of_heap hb 0)
    rw [←hP] at this
    refine this.mono ?_
    rintro en w' ⟨rfl,rfl⟩
    exact ⟨_,σ,LM',rfl,Ext.refl σ,hn,.tup .nil,t2,qrk hw t1⟩
   ·cases h
  ·rename_i k' b1 i1 g1 d1
   cases hb:Nat.beq k' k with
   |false=>rw [hb,cond_false] at h;cases h
   |true=>
    have hb':=Nat.eq_of_beq_eq_true hb
    subst hb'
    rw [hb,cond_true] at h
    cases h
    obtain ⟨g',gc,ws,rest,s1,s2,s3,_,s5,_⟩:=hM.look2 hk
    rw [hg] at s1;cases s1
    cases s3 rfl
    rw [List.append_nil] at s5
    obtain ⟨_,_,_,_,_,rfl,q0,q1,q2,q3,q4⟩:=z32 s2
    obtain ⟨g2,b2,c2,hq,rfl⟩:=qks (RelV.one q0)
    rw [hg] at hq;cases hq
    have hb:=hw.held _ s5
    have:=zc_ g w (by rw [Lib.cell_of_heap (show w.heap[g]? =some (.cells _ 66 (0,0)) from hb)];rfl)
    rw [←hP] at this
    refine this.mono ?_
    rintro en w' ⟨rfl,rfl⟩
    exact ⟨_,σ,LM,rfl,Ext.refl σ,hn,.tup .nil,hM,hw⟩
  ·cases h
theorem q4_ (l:List Nat) (hl:∀b∈l,b<256):qbh [some IntKind.u8] (l.map fun b=>[Int.ofNat b])=l.map fun b=>Value.int .u8 (b:Nat):=by
 induction l with
 |nil=>rfl
 |cons b l ih=>
  have h1:b<256:=hl b (.head _)
  have:qbh [some IntKind.u8] ((b::l).map fun b=>[Int.ofNat b])=Value.int .u8 (IntKind.u8.wrap (Int.ofNat b))::qbh [some IntKind.u8] (l.map fun b=>[Int.ofNat b]):=rfl
  rw [this,ih (fun b hb=>hl b (.tail _ hb)),List.map_cons]
  congr 2
  rw [IntKind.wrap_u8'];show ((b:Nat):Int) % 256=b;omega
theorem zjp (s:ByteArray):qbh [some IntKind.u8] ((SE.lbs (s.data.toList.map UInt8.toNat)).lst e)=Lib.strCells s:=by
 rw [qji,q4_ _ (fun b hb=>by obtain ⟨u,_,rfl⟩:=List.mem_map.1 hb;exact u.toNat_lt),List.map_map]
 rfl
theorem qj_:∀(l:List (List Int)),Lib.byteCells (qa_ l).data.toList=qbh [some IntKind.u8] l
 |[]=>rfl
 |el::l=>by
  have ih:=qj_ l
  have h1:(qa_ (el::l)).data.toList=UInt8.ofNat (IntKind.u8.wrap (el.getD 0 0)).toNat::(qa_ l).data.toList:=by simp [qa_]
  have h2:qbh [some IntKind.u8] (el::l)=Value.int .u8 (IntKind.u8.wrap (el.getD 0 0))::qbh [some IntKind.u8] l:=rfl
  rw [h1,h2,←ih]
  simp only [Lib.byteCells,List.map_cons,List.cons.injEq,Value.int.injEq,true_and,and_true]
  rw [IntKind.wrap_u8']
  generalize el.getD 0 0=z
  have h3:0≤z % 256∧z % 256<256:=by omega
  rw [UInt8.toNat_ofNat']
  show (((z % 256).toNat % 256:Nat):Int)=z % 256
  omega
theorem z7n:∀{x:SE},neL x=true→x.lst e≠[]:=by
 intro x
 induction x with
 |lcat a b iha ihb=>
  intro h
  simp only [neL,Bool.or_eq_true] at h
  rw [qc3]
  intro q
  obtain ⟨q1,q2⟩:=List.append_eq_nil_iff.1 q
  rcases h with h |h
  ·exact iha h q1
  ·exact ihb h q2
 |lone a=>intro _ q;rw [qf3] at q;cases q
 |lbs l=>
  intro h q
  cases l with
  |nil=>cases h
  |cons b l=>rw [qji] at q;cases q
 |_=>intro h;cases h
theorem qz1 (n:Nat):UInt8.ofNat (IntKind.u8.wrap (Int.ofNat n)).toNat=UInt8.ofNat n:=by
 rw [IntKind.wrap_u8']
 apply UInt8.toNat_inj.1
 rw [UInt8.toNat_ofNat',UInt8.toNat_ofNat']
 have:(Int.ofNat n % 256).toNat=n % 256:=by show (((n:Nat):Int) % 256).toNat=_;omega
 rw [this];omega
theorem zga:∀{x:SE} {l:List Nat},qmo x=some l→qa_ (x.lst e)=⟨(l.map UInt8.ofNat).toArray⟩:=by
 intro x
 induction x with
 |lnil=>intro l h;cases h;rw [qgf];rfl
 |lbs b=>
  intro l h;cases h
  rw [qji]
  unfold qa_
  rw [List.map_map]
  congr 2
  apply List.map_congr_left
  intro b _
  exact qz1 b
 |lone a=>
  intro l h
  unfold qmo at h
  split at h
  ·cases ‹SE.lone a=_›
  ·cases ‹SE.lone a=_›
  ·rename_i n hx
   cases hx;cases h
   rw [qf3]
   have h1:(SE.cons (.lit .u8 (.ofNat n)) .nil).vals e=[IntKind.u8.wrap (Int.ofNat n)]:=by simp only [SE.vals,SE.val]
   rw [h1]
   show (⟨#[UInt8.ofNat (IntKind.u8.wrap (IntKind.u8.wrap (Int.ofNat n))).toNat]⟩:ByteArray)=⟨#[UInt8.ofNat n]⟩
   rw [qaq,qz1]
  ·cases ‹SE.lone a=_›
  ·cases h
 |lcat a b iha ihb=>
  intro l h
  simp only [qmo] at h
  split at h
  ·rename_i x y hx hy
   cases h
   rw [qc3,qof,iha hx,ihb hy]
   apply ByteArray.ext
   simp [ByteArray.data_append]
  ·cases h
 |_=>intro l h;cases h
theorem qxk (hP:c.P=Tryz.prog) {vs:List V} {M M':MB} {nx nx':Nat} {v:V} (h:zgi vs M nx=some (v,M',nx')) {us:List Value} {LM:List Blk} (hn:σ.length=nx) (hus:RelVs e σ vs us) (hM:RM c.P e σ M LM) {w:World} (hw:Own w0 LM w):
  Calls c.P 51 (List.toArray us) w (zv3 c e σ w0 v M' nx'):=by
 unfold zgi at h
 split at h
 rotate_left
 ·cases h
 rename_i k s
 obtain ⟨g,cc,hg,hu⟩:∃g cc,(∃b,σ[k]? =some (g,b,cc)∧us=[.pointer (some ⟨g,b,none⟩),.string s]):=by
  cases hus with |cons h1 t=>cases t with |cons h2 t=>cases t;obtain ⟨g,b,cc,hg,rfl⟩:=qks h1;rw [qnb h2];exact ⟨g,cc,b,hg,by simp⟩
 obtain ⟨hg,rfl⟩:=hu
 split at h
 rotate_left
 ·cases h
 rename_i cs T hk
 cases hT:(Nat.beq T 66&&(Nat.blt 0 s.size&&Nat.ble s.size 1000000)) with
 |false=>rw [hT,cond_false] at h;cases h
 |true=>
  rw [hT,cond_true] at h
  simp only [Bool.and_eq_true] at hT
  obtain ⟨hT1,hs0,hs1⟩:=hT
  have hT':=Nat.eq_of_beq_eq_true hT1
  subst hT'
  have hs0:0<s.size:=Nat.le_of_ble_eq_true hs0
  have hs1:=Nat.le_of_ble_eq_true hs1
  split at h
  ·rename_i i1 g1 d1
   split at h
   ·rename_i M1 hst
    cases h
    obtain ⟨g',gc,ws,rest,s1,s2,s3,_,s5,_⟩:=hM.look2 hk
    rw [hg] at s1;cases s1
    cases s3 rfl
    rw [List.append_nil] at s5
    obtain ⟨_,_,v3,v4,v5,rfl,q0,q1,q2,q3,q4⟩:=z32 s2
    cases q0;cases q1
    have hb:w.heap[g]? =some (.cells _ 66 (0,0)):=hw.held _ s5
    have:=zgp g s v3 v4 v5 w hb hs1
    rw [←hP] at this
    refine this.mono ?_
    rintro en w' ⟨rfl,v',w2,hown,hgrow,zze,rfl⟩
    rcases hown.2 with ⟨_,hz⟩ |⟨g',cap,cur,rfl,hbg,hg',hnc,hcm,hcs,ht⟩
    ·omega
    have hxt:Ext σ (σ++[(g',0,2 * cap+1)]):=Ext.snoc σ _
    have hget:(σ++[(g',0,2 * cap+1)])[nx]? =some (g',0,2 * cap+1):=by rw [←hn];simp
    obtain ⟨g2,gc2,ws2,t1,t2,t3⟩:=qkd (hM.mono hxt) hk hst rfl
    rw [hxt.get hg] at t1;cases t1
    have e1:=t2.det (s2.mono hxt)
    subst e1
    have hlen:((SE.lbs (s.data.toList.map UInt8.toNat)).lst e).length=s.size:=by rw [qji,List.length_map,List.length_map];rfl
    have hsl:=RelC.sli (e:=e) (x:= .lbs (s.data.toList.map UInt8.toNat)) hget
    rw [hlen,qcz (by unfold maxLen;omega)] at hsl
    unfold slV at hsl
    rw [if_neg (by omega),show (2 * cap+1) / 2=cap by omega] at hsl
    obtain ⟨LM',u1,u2⟩:=t3 _ (.cons (.ptr (hxt.get hg)) (.cons hsl (.cons (q2.mono hxt) (.cons (q3.mono hxt) (.cons (q4.mono hxt) .nil)))))
    obtain ⟨L2,w1,w2'⟩:=u1.via [.pointer (some ⟨g,0+0,none⟩),.slice none 0 0,v3,v4,v5]
    have ow1:=qrk (j:=0) (v:= .pointer (some ⟨g,0,none⟩)) hw w1
    have hsz:(w.setCell ⟨g,0,none⟩ (.pointer (some ⟨g,0,none⟩))).heap.size=w.heap.size:=by simp [World.setCell]
    have ow2:=qjf (g':=g') (cs:=cur.toList) (T:=5) ow1 hgrow (fun k hk=>by cases hk) (fun b hb=>by simp) (by have:=hw.below.size;omega) (by simpa using hg') (fun b hb=>by have:=ow1.lt hb;omega)
    have ow3:=qrk (j:=1) (v:= .slice (some ⟨g',0,none⟩) s.size cap) ow2 (.next w2')
    have hcur:cur.toList=qbh [some .u8] ((SE.lbs (s.data.toList.map UInt8.toNat)).lst e)++cur.toList.drop s.size:=by
     rw [zjp,←ht,Nat.mul_one];exact (List.take_append_drop _ _).symm
    refine ⟨_,_,_,rfl,hxt,by simp [hn],.tup (.cons (.one .int) (.cons (.one .nili) .nil)),?_,ow3⟩
    have hi:∃i,Tryz.prog.info? 5=some i∧i.size=1:=⟨_,rfl,rfl⟩
    have:=RM.big (P:=c.P) (e:=e) (x:= .lbs (s.data.toList.map UInt8.toNat)) (ks:=[some .u8]) (T:=5) (o:=true) (rest:=cur.toList.drop s.size) hget hcm (by rw [hP];exact hi) (by rw [hlen];exact hnc)
     (by rw [←List.length_append,←hcur];simp;omega) u2
    rw [←hcur] at this
    exact this
   ·cases h
  ·cases h
theorem zc3 {w:World} {L:List Blk} {g n:Nat} {cs:List Value} {T:TypeId} (h:Own w0 ((g,cs,T)::L) w):Own w0 L (w.drew.freeze ⟨g,0,none⟩ n):=by
 have hb:=h.base _ (.head _)
 have ht:=h.tail
 have hap:=(List.pairwise_cons.1 h.apart).1
 refine ⟨Lib.below_freeze h.below.drew (p:=⟨g,0,none⟩) hb n,ht.base,fun b hm=> ?_,ht.apart⟩
 rw [zgs (hap b hm).symm]
 exact ht.held b hm
theorem zdc (hP:c.P=Tryz.prog) {D:SE→Option Bool} (hD:∀x t,D x=some t→e.s x= .bool t) {vs:List V} {M M':MB} {nx nx':Nat} {v:V} (h:bStr D vs M nx=some (v,M',nx')) {us:List Value} {LM:List Blk} (hn:σ.length=nx) (hus:RelVs e σ vs us) (hM:RM c.P e σ M LM) {w:World} (hw:Own w0 LM w):
  Calls c.P 52 (List.toArray us) w (zv3 c e σ w0 v M' nx'):=by
 unfold bStr at h
 split at h
 rotate_left
 ·cases h
 rename_i k
 obtain ⟨g,b,cc,hg,rfl⟩:=qwt hus
 split at h
 rotate_left
 ·cases h
 rename_i cs T hk
 cases hT:Nat.beq T 66 with
 |false=>rw [hT,cond_false] at h;cases h
 |true=>
  have hT':=Nat.eq_of_beq_eq_true hT
  subst hT'
  rw [hT,cond_true] at h
  split at h
  rotate_left
  ·cases h
  rename_i a1 j x a3 a4 a5
  split at h
  rotate_left
  ·cases h
  rename_i x' T' bo Mo hl ho
  cases hc:(Nat.beq T' 5&&(decide (x=x')&&(neL x&&smX D x))) with
  |false=>rw [hc,cond_false] at h;cases h
  |true=>
   rw [hc,cond_true] at h
   simp only [Bool.and_eq_true] at hc
   obtain ⟨hc1,hc2,hc3,hc4⟩:=hc
   have hc1':=Nat.eq_of_beq_eq_true hc1
   have hc2':=of_decide_eq_true hc2
   subst hc1' hc2'
   cases h
   obtain ⟨g',gc,ws,rest,s1,s2,s3,_,s5,_⟩:=hM.look2 hk
   rw [hg] at s1;cases s1
   cases s3 rfl
   rw [List.append_nil] at s5
   obtain ⟨v1,v2,v3,v4,v5,rfl,q0,q1,q2,q3,q4⟩:=z32 s2
   have hb:w.heap[g]? =some (.cells _ 66 (0,0)):=hw.held _ s5
   have hne:=z7n (e:=e) hc3
   have hsm:=qn0 hD hc4
   rcases hM.lookL hl with ⟨gb,bb,_,l2,_⟩ |⟨gb,cap,rest,l1,l2,l3,l4,l5,l6,l7⟩
   ·exact absurd l2 hne
   obtain ⟨L1,r1,r2⟩:=l7 _ _ ho
   cases q1 with |sli hq=>
   rw [l1] at hq;cases hq
   have hpos:0<(x.lst e).length:=List.length_pos_iff.2 hne
   have hbl:(qa_ (x.lst e)).data.toList.length=(x.lst e).length:=qd7 _
   rw [qcz (by unfold maxLen;omega)] at hb
   unfold slV at hb
   rw [if_neg (by omega),show (2 * cap+1) / 2=cap by omega,←hbl] at hb
   have hgb:w.heap[gb]? =some (.cells _ 5 (0,0)):=hw.held _ l6
   have:=q62 g gb cap v1 v3 v4 v5 (qa_ (x.lst e)).data.toList _ w (by intro q;rw [q] at hbl;simp at hbl;omega) hb hgb (by rw [hbl];exact l4) l2 (by simp at l5 ⊢;omega) (by
    rw [qj_]
    show (qbh [some IntKind.u8] (x.lst e)++rest).take _=_
    rw [List.take_append_of_le_length (by rw [qdi,hbl];simp),List.take_of_length_le (by rw [qdi,hbl];simp)])
   rw [←hP] at this
   refine this.mono ?_
   rintro en w' ⟨rfl,rfl⟩
   refine ⟨_,σ,L1,rfl,Ext.refl σ,hn,?_,r1,zc3 (hw.perm r2)⟩
   have hby:(⟨(qa_ (x.lst e)).data.toList.toArray⟩:ByteArray)=qa_ (x.lst e):=by cases qa_ (x.lst e);simp
   rw [hby]
   split
   ·rename_i l hcl
    rw [zga hcl];exact .one .str
   ·exact .one .sts
end
theorem bB_ok {c:Cfg} (hP:c.P=Tryz.prog) (E:Env) (σ0:List (Nat×Nat×Nat)) (D:SE→Option Bool) (hD:∀x t,D x=some t→eS E x= .bool t):qjz c (eV E) σ0 (bB D):=by
 intro f vs M F nx v M' nx' h
 unfold bB at h
 have fin:isFn c.P 87=true∧isFn c.P 51=true∧isFn c.P 52=true:=by rw [hP];exact ⟨by kernel_rfl,by kernel_rfl,by kernel_rfl⟩
 cases h1:Nat.beq f 87 with
 |true=>
  have:=Nat.eq_of_beq_eq_true h1
  subst this
  rw [h1,cond_true] at h
  exact ⟨fin.1,fun w0 σ us LM hn _ hus hM _ w hw=>q4t hP h hn hus hM hw⟩
 |false=>
  rw [h1,cond_false] at h
  cases h2:Nat.beq f 51 with
  |true=>
   have:=Nat.eq_of_beq_eq_true h2
   subst this
   rw [h2,cond_true] at h
   exact ⟨fin.2.1,fun w0 σ us LM hn _ hus hM _ w hw=>qxk hP h hn hus hM hw⟩
  |false=>
   rw [h2,cond_false] at h
   cases h3:Nat.beq f 52 with
   |true=>
    have:=Nat.eq_of_beq_eq_true h3
    subst this
    rw [h3,cond_true] at h
    exact ⟨fin.2.2,fun w0 σ us LM hn _ hus hM _ w hw=>zdc hP hD h hn hus hM hw⟩
   |false=>rw [h3,cond_false] at h;cases h
end Go.Proofs.YtilkebpcjklmfaaGreat.Own
namespace Go.Proofs.YtilkebpcjklmfaaGreat.Own
open Go Go.RowKit Go.Proofs Go.Proofs.YtilkebpcjklmfaaGreat.Plain
open Go.Proofs.YtilkebpcjklmfaaGreat.Limb (add64_run sub64_run)
set_option maxRecDepth 100000
set_option maxHeartbeats 40000000
def zg3:List (Nat×Nat)→Nat→Nat→Bool
 |[],_,_=>false
 |(a,b)::r,f,i=>bif Nat.beq a f&&Nat.beq b i then true else zg3 r f i
def xAdd:List V→Option V
 |[.one (.int .u64 x),.one (.int .u64 y),.one (.int .u64 z)]=>bif decide (0≤x∧0≤y∧0≤z∧z≤1) then some (.tup [.one (.int .u64 ((x+y+z) % 18446744073709551616)),.one (.int .u64 ((x+y+z) / 18446744073709551616))]) else none
 |_=>none
def xSub:List V→Option V
 |[.one (.int .u64 (.ofNat x)),.one (.int .u64 (.ofNat y)),.one (.int .u64 (.ofNat z))]=>bif Nat.ble z 1 then some (.tup [.one (.int .u64 (((x+18446744073709551616 - y - z) % 18446744073709551616:Nat):Int)),.one (.int .u64 ((if x<y+z then 1 else 0:Nat):Int))]) else none
 |_=>none
def xh:qm7:=fun f vs=>bif Nat.beq f 127 then xAdd vs else bif Nat.beq f 129 then xSub vs else none
def tabE:List (Nat×Nat):=[(3,6),(6,7),(12,52),(14,8),(15,5),(28,2),(32,6),(32,7),(72,1),(81,1),(89,14),(94,2),(97,3),(97,5),(97,6),(100,4),(114,4),(125,12),(126,9),(126,12),(132,1),(135,9),(135,13),(136,13)]
def genE:List (Nat×Kind):=[(1000+108,.eff),(1000+54,.eff),(1000+55,.eff),(1000+58,.eff),(1000+56,.eff),(1000+59,.eff),(1000+61,.eff),(1000+65,.eff),(1000+63,.eff),(1000+6,.fresh),(1000+11,.base),(1000+102,.quiet),(1000+21,.base),(1000+7,.base),(1000+8,.base),(1000+67,.eff),(1000+25,.eff),(1000+26,.eff),(1000+28,.eff),(1000+27,.eff),(1000+10,.fresh),(1000+12,.fresh),(1000+13,.base)]
def cfE (f i:Nat):List (Nat×Kind):=bif zg3 [(135,2)] f i then [(16,.quiet),(2005,.eff)] else bif zg3 [(135,14)] f i then [(2005,.eff)] else bif zg3 tabE f i then (998,.eff)::genE else genE
def cfS (f i:Nat):List Nat:=bif zg3 [(135,2),(135,14)] f i then [4] else []
noncomputable def bW:Cfg:={P:=Tryz.prog,X:=xh,H:=zze,G:=fun _ _=>none,D:=fun _=>none,E:=cfE,S:=cfS,L:=fun _ _ _ _ _ _ _=>none,W:=bBW,B:=bB}
theorem qbi:CfgOK bW:=by
 refine ⟨fun e σ0 σ _ f vs v us h hus=> ?_,by show Tryz.prog.follows .mixedOrders=true;kernel_rfl,fun E σ0 D hD=>bB_ok rfl E σ0 D hD⟩
 change xh f vs=some v at h
 unfold xh at h
 cases h1:Nat.beq f 127 with
 |true=>
  have:=Nat.eq_of_beq_eq_true h1
  subst this
  simp only [h1,cond_true] at h
  unfold xAdd at h
  split at h
  ·rename_i x y z
   cases hb:decide (0≤x∧0≤y∧0≤z∧z≤1) with
   |false=>rw [hb,cond_false] at h;cases h
   |true=>
    rw [hb,cond_true] at h;cases h
    obtain ⟨hx,hy,hz,hz1⟩:=of_decide_eq_true hb
    cases hus with |cons a t=>cases t with |cons b t=>cases t with |cons c t=>cases t;rw [qdo a,qdo b,qdo c];exact ⟨_,.tup (.cons (.one .int) (.cons (.one .int) .nil)),add64_run x y z hx hy hz hz1⟩
  ·cases h
 |false=>
  simp only [h1,cond_false] at h
  cases h2:Nat.beq f 129 with
  |true=>
   have:=Nat.eq_of_beq_eq_true h2
   subst this
   simp only [h2,cond_true] at h
   unfold xSub at h
   split at h
   ·rename_i x y z
    cases hb:Nat.ble z 1 with
    |false=>rw [hb,cond_false] at h;cases h
    |true=>
     rw [hb,cond_true] at h;cases h
     have hz:=Nat.le_of_ble_eq_true hb
     cases hus with |cons a t=>cases t with |cons b t=>cases t with |cons c t=>cases t;rw [qdo a,qdo b,qdo c];exact ⟨_,.tup (.cons (.one .int) (.cons (.one .int) .nil)),sub64_run x y z hz⟩
   ·cases h
  |false=>simp only [h2,cond_false] at h;cases h
theorem bW_l {Tb:List Ent}:LB bW Tb:=fun _ _ _ _ _ _ _ _ _ _ _ _ _ _ _ _ h=>by cases h
noncomputable def cf0:Cfg:=cfT bW [] []
def e0:Env:=qaa (FT []) []
theorem ok0 {σ0:List (Nat×Nat×Nat)}:OK cf0 (eV e0) σ0:=okT qbi bW_l qvk rfl .nil
end Go.Proofs.YtilkebpcjklmfaaGreat.Own
namespace Go.Proofs.YtilkebpcjklmfaaGreat.Own
open Go Go.RowKit Go.Proofs Go.Proofs.YtilkebpcjklmfaaGreat.Plain
set_option maxRecDepth 100000
set_option maxHeartbeats 40000000
structure Fx where
 hi:Int
 lo:Int
 b: -9223372036854775808≤hi∧hi<9223372036854775808∧0≤lo∧lo<18446744073709551616
def Fx.n (a:Fx):Int:=a.hi * 18446744073709551616+a.lo
@[reducible] def Fx.v (a:Fx):Value:= .agg #[.int .i64 a.hi,.int .u64 a.lo]
theorem qph (z:Int): -9223372036854775808≤IntKind.i64.wrap z∧IntKind.i64.wrap z<9223372036854775808:=by rw [IntKind.wrap_i64];omega
theorem zf6 (z:Int):0≤IntKind.u64.wrap z∧IntKind.u64.wrap z<18446744073709551616:=by rw [IntKind.wrap_u64];omega
def Fx.of (z:Int):Fx:=⟨IntKind.i64.wrap (z / 18446744073709551616),z % 18446744073709551616,by have:=qph (z / 18446744073709551616);omega⟩
def Fx.u (a:Fx):Two:=⟨IntKind.u64.wrap a.hi,a.lo,by have:=zf6 a.hi;have:=a.b;omega⟩
def Fx.mag (a:Fx):Two:=Two.of a.n.natAbs
def Fx.below (a:Fx):Bool:=decide (a.hi<0)
def sgn (s:Bool) (n:Nat):Int:=cond s (-(n:Int)) (n:Int)
theorem Two.n_int (a:Two):((a.n:Nat):Int)=a.hi * 18446744073709551616+a.lo:=by have:=a.b;unfold Two.n Limb.n2 qbc;omega
theorem Two.of_hi (N:Nat):(Two.of N).hi=((N / 18446744073709551616 % 18446744073709551616:Nat):Int):=by
 have h:=Two.n_int (Two.of N);have:=(Two.of N).b;rw [Two.of_n] at h;omega
theorem Two.of_lo (N:Nat):(Two.of N).lo=((N % 18446744073709551616:Nat):Int):=by
 have h:=Two.n_int (Two.of N);have:=(Two.of N).b;rw [Two.of_n] at h;omega
theorem Fx.u_n (a:Fx):((a.u.n:Nat):Int)=if a.hi<0 then a.n+340282366920938463463374607431768211456 else a.n:=by
 rw [Two.n_int];have:=a.b;show IntKind.u64.wrap a.hi * _+a.lo=_;rw [IntKind.wrap_u64];unfold Fx.n;split<;>omega
theorem Fx.lt (a:Fx): -170141183460469231731687303715884105728≤a.n∧a.n<170141183460469231731687303715884105728:=by have:=a.b;unfold Fx.n;omega
theorem Fx.neg_iff (a:Fx):a.hi<0↔a.n<0:=by have:=a.b;unfold Fx.n;omega
theorem Fx.mag_n (a:Fx):a.mag.n=a.n.natAbs:=by have:=a.lt;unfold Fx.mag;rw [Two.of_n];omega
theorem Fx.mag_pos (a:Fx) (h:¬a.hi<0):a.mag=a.u:=by
 apply Two.ext_n;have h1:=a.u_n;rw [if_neg h] at h1;rw [Fx.mag_n];omega
theorem Fx.mag_neg (a:Fx) (h:a.hi<0):a.mag=Two.of (0+340282366920938463463374607431768211456 - a.u.n):=by
 apply Two.ext_n;have h1:=a.u_n;rw [if_pos h] at h1;have:=(a.neg_iff).1 h;have:=a.lt;rw [Fx.mag_n,Two.of_n];omega
theorem Fx.of_bits {z:Int} {T:Two} (h:∃k:Int,(T.n:Int)=z+k * 340282366920938463463374607431768211456):Value.agg #[.int .i64 (IntKind.i64.wrap T.hi),.int .u64 T.lo]=(Fx.of z).v:=by
 obtain ⟨k,h⟩:=h
 rw [Two.n_int] at h
 have:=T.b
 have h1:IntKind.i64.wrap T.hi=(Fx.of z).hi:=by show _=IntKind.i64.wrap (z / 18446744073709551616);rw [IntKind.wrap_i64,IntKind.wrap_i64];omega
 have h2:T.lo=(Fx.of z).lo:=by show _=z % 18446744073709551616;omega
 rw [h1,h2]
theorem qsq (a:Fx):Pure Tryz.prog 115 #[a.v] (.agg #[.int .u64 a.mag.hi,.int .u64 a.mag.lo,.bool a.below]):=by
 have hs:=qke ⟨0,0,by decide⟩ a.u
 have hn:=a.mag_neg
 have hp:=a.mag_pos
 have z0:(⟨0,0,by decide⟩:Two).n=0:=by kernel_rfl
 rw [z0] at hs
 generalize Two.of (0+340282366920938463463374607431768211456 - a.u.n)=m at *
 obtain ⟨c,hc⟩:∃c,a.hi.fdiv (2 ^ (min (63:Int).toNat IntKind.i64.bits))=c:=⟨_,rfl⟩
 obtain ⟨b,hb⟩:∃b,decide (c=0)=b:=⟨_,rfl⟩
 have e1:qbx .eql .i64 c 0=some (.bool b):=by simp only [qbx,←hb];rfl
 have hcb:b= !a.below:=by
  have:a.hi.fdiv (2 ^ (min (63:Int).toNat IntKind.i64.bits))=a.hi / 9223372036854775808:=by rw [Int.fdiv_eq_ediv_of_nonneg _ (Int.pow_nonneg (by decide))];rfl
  rw [this] at hc
  have:=a.b
  rw [←hb];unfold Fx.below
  by_cases h:a.hi<0
  ·simp only [h,decide_true,Bool.not_true,decide_eq_false_iff_not];omega
  ·simp only [h,decide_false,Bool.not_false,decide_eq_true_eq];omega
 refine qel Tryz.func115 rfl Tryz.ntmps115 rfl rfl (fun w0 Q hQ=> ?_)
 repeat' (
  first
   |refine qb4 (fun N hN=> ?_)
   |refine qc4 ?_
   |refine qb2 ?_
   |refine qc6 ?_
   |refine qee ?_
   |refine qc5 ?_
   |refine qeg (show X _ _ _ _ _ from ?_)
   |(refine qdd hN ?_;clear hN N)
   |(refine qa1 ?_;clear hN N)
   |(refine qam ?_;clear hN N)
   |refine qb3 ?_
   |refine qap ?_
   |refine qar ?_
   |refine qaj (by eq_refl) ?_
   |refine qda (h:= ?_)
   |refine qax (h:= ?_)
   |refine qa6 (h:= ?_)
   |refine qa4 (h:= ?_)
   |refine qes (h:= ?_)
   |refine qc7 (h:= ?_)
   |refine qbm (h:= ?_)
   |refine qbb (h:= ?_)
   |refine qa0 (hp:=hs) (h:= ?_)
   |(refine qey (h:= ?_);intro g)
   |(refine qb8 (h:= ?_);intro g)
   |refine qb9 (h:= ?_)
   |refine qaw (h:= ?_)
   |refine qb7 (h:= ?_)
   |refine qc9 (h:= ?_)
   |refine qe5 (h:= ?_)
   |refine qe6 (h:= ?_)
   |refine qex (h:= ?_)
   |refine qew (h:= ?_)
   |refine qet (h:= ?_)
   |refine qbo (h:= ?_)
   |refine qbp (h:= ?_)
   |refine qeu (h:= ?_)
   |refine qep (h:= ?_)
   |refine qau (h:= ?_)
   |refine qe1 (h:= ?_)
   |refine qe3 (h:= ?_)
   |(refine qal (h:= ?_);intro g)
   |refine qah (h:= ?_)
   |refine qc_ (h:= ?_)
   |refine qb_ (h:= ?_)
   |(refine qev (by eq_refl) (by eq_refl) (qaz (by eq_refl)) (fun hask=> ?_) (fun hask=> ?_))
   |(refine qb5 (by eq_refl) (fun hif=> ?_) (fun hif=> ?_))
  )
 all_goals refine hQ _ _ (ret1 rfl (by (first |exact qfj |exact qfp)) ?_)
 ·have h:¬a.hi<0:=by intro h;rw [hif] at hcb;simp [Fx.below,h] at hcb
  rw [hp h];simp [Fx.below,h,Fx.u]
 ·have h:a.hi<0:=by rw [hif] at hcb;simpa [Fx.below] using hcb
  rw [hn h];simp [Fx.below,h]
theorem qpb (m:Two) (s:Bool):Pure Tryz.prog 120 #[.agg #[.int .u64 m.hi,.int .u64 m.lo,.bool s]] (Fx.of (sgn s m.n)).v:=by
 have hs:=qke ⟨0,0,by decide⟩ m
 have hm:=m.lt
 have hn:=Two.of_n (0+340282366920938463463374607431768211456 - m.n)
 have z0:(⟨0,0,by decide⟩:Two).n=0:=by kernel_rfl
 rw [z0] at hs
 generalize Two.of (0+340282366920938463463374607431768211456 - m.n)=T at *
 refine qel Tryz.func120 rfl Tryz.ntmps120 rfl rfl (fun w0 Q hQ=> ?_)
 repeat' (
  first
   |refine qb4 (fun N hN=> ?_)
   |refine qc4 ?_
   |refine qb2 ?_
   |refine qc6 ?_
   |refine qee ?_
   |refine qc5 ?_
   |refine qeg (show X _ _ _ _ _ from ?_)
   |(refine qdd hN ?_;clear hN N)
   |(refine qa1 ?_;clear hN N)
   |(refine qam ?_;clear hN N)
   |refine qb3 ?_
   |refine qap ?_
   |refine qar ?_
   |refine qaj (by eq_refl) ?_
   |refine qda (h:= ?_)
   |refine qax (h:= ?_)
   |refine qa6 (h:= ?_)
   |refine qa4 (h:= ?_)
   |refine qes (h:= ?_)
   |refine qc7 (h:= ?_)
   |refine qbm (h:= ?_)
   |refine qbb (h:= ?_)
   |refine qa0 (hp:=hs) (h:= ?_)
   |(refine qey (h:= ?_);intro g)
   |(refine qb8 (h:= ?_);intro g)
   |refine qb9 (h:= ?_)
   |refine qaw (h:= ?_)
   |refine qb7 (h:= ?_)
   |refine qc9 (h:= ?_)
   |refine qe5 (h:= ?_)
   |refine qe6 (h:= ?_)
   |refine qex (h:= ?_)
   |refine qew (h:= ?_)
   |refine qet (h:= ?_)
   |refine qbo (h:= ?_)
   |refine qbp (h:= ?_)
   |refine qeu (h:= ?_)
   |refine qep (h:= ?_)
   |refine qau (h:= ?_)
   |refine qe1 (h:= ?_)
   |refine qe3 (h:= ?_)
   |(refine qal (h:= ?_);intro g)
   |refine qah (h:= ?_)
   |refine qc_ (h:= ?_)
   |refine qb_ (h:= ?_)
   |(refine qev (by eq_refl) (by eq_refl) (qaz (by eq_refl)) (fun hask=> ?_) (fun hask=> ?_))
   |(refine qb5 (by eq_refl) (fun hif=> ?_) (fun hif=> ?_))
  )
 all_goals refine hQ _ _ (ret1 rfl (by (first |exact qfj |exact qfp)) ?_)
 ·rw [hif];unfold sgn;rw [cond_true]
  by_cases h0:m.n=0
  ·exact Fx.of_bits ⟨0,by omega⟩
  ·exact Fx.of_bits ⟨1,by omega⟩
 ·rw [hif];exact Fx.of_bits ⟨0,by unfold sgn;rw [cond_false];omega⟩
theorem qkb (m:Two):Pure Tryz.prog 118 #[m.v] (.agg #[.int .u64 0,.int .u64 0,.int .u64 m.hi,.int .u64 m.lo]):=by
 refine qel Tryz.func118 rfl Tryz.ntmps118 rfl rfl (fun w0 Q hQ=> ?_)
 repeat' (
  first
   |refine qb4 (fun N hN=> ?_)
   |refine qc4 ?_
   |refine qb2 ?_
   |refine qc6 ?_
   |refine qee ?_
   |refine qc5 ?_
   |refine qeg (show X _ _ _ _ _ from ?_)
   |(refine qdd hN ?_;clear hN N)
   |(refine qa1 ?_;clear hN N)
   |(refine qam ?_;clear hN N)
   |refine qb3 ?_
   |refine qap ?_
   |refine qar ?_
   |refine qaj (by eq_refl) ?_
   |refine qda (h:= ?_)
   |refine qax (h:= ?_)
   |refine qa6 (h:= ?_)
   |refine qa4 (h:= ?_)
   |refine qes (h:= ?_)
   |refine qc7 (h:= ?_)
   |refine qbm (h:= ?_)
   |refine qbb (h:= ?_)
   |(refine qey (h:= ?_);intro g)
   |(refine qb8 (h:= ?_);intro g)
   |refine qb9 (h:= ?_)
   |refine qaw (h:= ?_)
   |refine qb7 (h:= ?_)
   |refine qc9 (h:= ?_)
   |refine qe5 (h:= ?_)
   |refine qe6 (h:= ?_)
   |refine qex (h:= ?_)
   |refine qew (h:= ?_)
   |refine qet (h:= ?_)
   |refine qbo (h:= ?_)
   |refine qbp (h:= ?_)
   |refine qeu (h:= ?_)
   |refine qep (h:= ?_)
   |refine qau (h:= ?_)
   |refine qe1 (h:= ?_)
   |refine qe3 (h:= ?_)
   |(refine qal (h:= ?_);intro g)
   |refine qah (h:= ?_)
   |refine qc_ (h:= ?_)
   |refine qb_ (h:= ?_)
   |(refine qev (by eq_refl) (by eq_refl) (qaz (by eq_refl)) (fun hask=> ?_) (fun hask=> ?_))
   |(refine qb5 (by eq_refl) (fun hif=> ?_) (fun hif=> ?_))
  )
 all_goals refine hQ _ _ (ret1 rfl (by (first |exact qfj |exact qfp)) ?_)
 rfl
def told (m:Four) (s:Bool):Fx×Int:=if 170141183460469231731687303715884105728≤m.n then (Fx.of 0,3) else (Fx.of (sgn s m.lo.n),0)
theorem qok (m:Four) (s:Bool):Pure Tryz.prog 117 #[m.v,.bool s] (.tuple #[(told m s).1.v,.int .i64 (told m s).2]):=by
 have hl:=qsb m
 have hs:=qpb m.lo s
 obtain ⟨b,hb⟩:∃b,decide (((qgz m.n:Nat):Int)>127)=b:=⟨_,rfl⟩
 have e1:qbx .gtr .i64 ((qgz m.n:Nat):Int) 127=some (.bool b):=by simp only [qbx,hb]
 have hbb:b=decide (170141183460469231731687303715884105728≤m.n):=by
  have:=qiv m.n 127
  rw [←hb];apply decide_eq_decide.2;omega
 refine qel Tryz.func117 rfl Tryz.ntmps117 rfl rfl (fun w0 Q hQ=> ?_)
 repeat' (
  first
   |refine qb4 (fun N hN=> ?_)
   |refine qc4 ?_
   |refine qb2 ?_
   |refine qc6 ?_
   |refine qee ?_
   |refine qc5 ?_
   |refine qeg (show X _ _ _ _ _ from ?_)
   |(refine qdd hN ?_;clear hN N)
   |(refine qa1 ?_;clear hN N)
   |(refine qam ?_;clear hN N)
   |refine qb3 ?_
   |refine qap ?_
   |refine qar ?_
   |refine qaj (by eq_refl) ?_
   |refine qda (h:= ?_)
   |refine qax (h:= ?_)
   |refine qa6 (h:= ?_)
   |refine qa4 (h:= ?_)
   |refine qes (h:= ?_)
   |refine qc7 (h:= ?_)
   |refine qbm (h:= ?_)
   |refine qbb (h:= ?_)
   |refine qa0 (hp:=hl) (h:= ?_)
   |refine qa0 (hp:=hs) (h:= ?_)
   |(refine qey (h:= ?_);intro g)
   |(refine qb8 (h:= ?_);intro g)
   |refine qb9 (h:= ?_)
   |refine qaw (h:= ?_)
   |refine qb7 (h:= ?_)
   |refine qc9 (h:= ?_)
   |refine qe5 (h:= ?_)
   |refine qe6 (h:= ?_)
   |refine qex (h:= ?_)
   |refine qew (h:= ?_)
   |refine qet (h:= ?_)
   |refine qbo (h:= ?_)
   |refine qbp (h:= ?_)
   |refine qeu (h:= ?_)
   |refine qep (h:= ?_)
   |refine qau (h:= ?_)
   |refine qe1 (h:= ?_)
   |refine qe3 (h:= ?_)
   |(refine qal (h:= ?_);intro g)
   |refine qah (h:= ?_)
   |refine qc_ (h:= ?_)
   |refine qb_ (h:= ?_)
   |(refine qev (by eq_refl) (by eq_refl) (qaz (by eq_refl)) (fun hask=> ?_) (fun hask=> ?_))
   |(refine qb5 (by eq_refl) (fun hif=> ?_) (fun hif=> ?_))
  )
 all_goals refine hQ _ _ (ret2 rfl (by (first |exact qfj |exact qfp)) (by (first |exact qfj |exact qfp)) ?_)
 all_goals (rw [hif] at hbb;unfold told)
 ·rw [if_pos (of_decide_eq_true hbb.symm)];rfl
 ·rw [if_neg (of_decide_eq_false hbb.symm)]
def qxs (a b:Fx):Fx×Int:=if a.below=b.below then told ⟨⟨0,0,by decide⟩,Two.of (a.mag.n+b.mag.n)⟩ a.below else (Fx.of (a.n+b.n),0)
theorem Four.n_low {z m:Two} (hz:z.n=0):(⟨z,m⟩:Four).n=m.n:=by
 rw [Four.n_eq ⟨z,m⟩]
 show z.n * _+m.n=m.n
 rw [hz,Nat.zero_mul,Nat.zero_add]
theorem quv (a b:Fx) (h:¬a.below=b.below):(a.mag.n<b.mag.n→sgn b.below (Two.of (b.mag.n+340282366920938463463374607431768211456 - a.mag.n)).n=a.n+b.n)∧
  (¬a.mag.n<b.mag.n→sgn a.below (Two.of (a.mag.n+340282366920938463463374607431768211456 - b.mag.n)).n=a.n+b.n):=by
 have ha:=a.lt
 have hb:=b.lt
 have na:=a.neg_iff
 have nb:=b.neg_iff
 rw [Fx.mag_n,Fx.mag_n,Two.of_n,Two.of_n]
 obtain ⟨A,hA⟩:∃A,(b.n.natAbs+340282366920938463463374607431768211456 - a.n.natAbs) % 340282366920938463463374607431768211456=A:=⟨_,rfl⟩
 obtain ⟨B,hB⟩:∃A,(a.n.natAbs+340282366920938463463374607431768211456 - b.n.natAbs) % 340282366920938463463374607431768211456=A:=⟨_,rfl⟩
 rw [hA,hB]
 have et:∀n,sgn true n= -(n:Int):=fun n=>rfl
 have ef:∀n,sgn false n=(n:Int):=fun n=>rfl
 by_cases h1:a.hi<0<;>by_cases h2:b.hi<0
 ·exact absurd (by unfold Fx.below;rw [decide_eq_true h1,decide_eq_true h2]) h
 ·have e1:a.below=true:=decide_eq_true h1
  have e2:b.below=false:=decide_eq_false h2
  have:=na.1 h1;have:¬b.n<0:=fun q=>h2 (nb.2 q)
  rw [e1,e2,et,ef]
  constructor<;>intro q<;>omega
 ·have e1:a.below=false:=decide_eq_false h1
  have e2:b.below=true:=decide_eq_true h2
  have:=nb.1 h2;have:¬a.n<0:=fun q=>h1 (na.2 q)
  rw [e1,e2,et,ef]
  constructor<;>intro q<;>omega
 ·exact absurd (by unfold Fx.below;rw [decide_eq_false h1,decide_eq_false h2]) h
theorem zcu (a b:Fx):Pure Tryz.prog 100 #[a.v,b.v] (.tuple #[(qxs a b).1.v,.int .i64 (qxs a b).2]):=by
 have h1:=qsq a
 have h2:=qsq b
 have h3:=qlt a.mag b.mag
 have h4:=qkb (Two.of (a.mag.n+b.mag.n))
 have h5:=qok ⟨⟨0,0,by decide⟩,Two.of (a.mag.n+b.mag.n)⟩ a.below
 have h6:=qke a.mag b.mag
 have h7:=qke b.mag a.mag
 have h8:=qpb (Two.of (a.mag.n+340282366920938463463374607431768211456 - b.mag.n)) a.below
 have h9:=qpb (Two.of (b.mag.n+340282366920938463463374607431768211456 - a.mag.n)) b.below
 have hss:=quv a b
 have hf:qxs a b=if a.below=b.below then told ⟨⟨0,0,by decide⟩,Two.of (a.mag.n+b.mag.n)⟩ a.below else (Fx.of (a.n+b.n),0):=rfl
 generalize qxs a b=r at *
 generalize told ⟨⟨0,0,by decide⟩,Two.of (a.mag.n+b.mag.n)⟩ a.below=t at *
 obtain ⟨ls,hls⟩:∃l,decide (a.mag.n<b.mag.n)=l:=⟨_,rfl⟩
 rw [hls] at h6
 generalize hR1:Fx.of (sgn a.below (Two.of (a.mag.n+340282366920938463463374607431768211456 - b.mag.n)).n)=R1 at *
 generalize hR2:Fx.of (sgn b.below (Two.of (b.mag.n+340282366920938463463374607431768211456 - a.mag.n)).n)=R2 at *
 generalize Two.of (a.mag.n+340282366920938463463374607431768211456 - b.mag.n)=D1 at *
 generalize Two.of (b.mag.n+340282366920938463463374607431768211456 - a.mag.n)=D2 at *
 refine qel Tryz.func100 rfl Tryz.ntmps100 rfl rfl (fun w0 Q hQ=> ?_)
 repeat' (
  first
   |refine qb4 (fun N hN=> ?_)
   |refine qc4 ?_
   |refine qcg (id:=1) [] (by kernel_rfl) (by kernel_rfl) ?_
   |refine qcg (id:=4) [(998,.eff)] (by kernel_rfl) (by kernel_rfl) ?_
   |refine qb2 ?_
   |refine qc6 ?_
   |refine qee ?_
   |refine qc5 ?_
   |refine qeg (show X _ _ _ _ _ from ?_)
   |(refine qdd hN ?_;clear hN N)
   |(refine qa1 ?_;clear hN N)
   |(refine qam ?_;clear hN N)
   |refine qb3 ?_
   |refine qap ?_
   |refine qar ?_
   |refine qaj (by eq_refl) ?_
   |refine qda (h:= ?_)
   |refine qax (h:= ?_)
   |refine qa6 (h:= ?_)
   |refine qa4 (h:= ?_)
   |refine qes (h:= ?_)
   |refine qc7 (h:= ?_)
   |refine qbm (h:= ?_)
   |refine qbb (h:= ?_)
   |refine qa0 (hp:=h1) (h:= ?_)
   |refine qa0 (hp:=h2) (h:= ?_)
   |refine qa0 (hp:=h3) (h:= ?_)
   |refine qa0 (hp:=h4) (h:= ?_)
   |refine qa0 (hp:=h5) (h:= ?_)
   |refine qa0 (hp:=h6) (h:= ?_)
   |refine qa0 (hp:=h7) (h:= ?_)
   |refine qa0 (hp:=h8) (h:= ?_)
   |refine qa0 (hp:=h9) (h:= ?_)
   |(refine qey (h:= ?_);intro g)
   |(refine qb8 (h:= ?_);intro g)
   |refine qb9 (h:= ?_)
   |refine qaw (h:= ?_)
   |refine qb7 (h:= ?_)
   |refine qc9 (h:= ?_)
   |refine qe5 (h:= ?_)
   |refine qe6 (h:= ?_)
   |refine qex (h:= ?_)
   |refine qew (h:= ?_)
   |refine qet (h:= ?_)
   |refine qbo (h:= ?_)
   |refine qbp (h:= ?_)
   |refine qeu (h:= ?_)
   |refine qep (h:= ?_)
   |refine qau (h:= ?_)
   |refine qe1 (h:= ?_)
   |refine qe3 (h:= ?_)
   |(refine qal (h:= ?_);intro g)
   |refine qah (h:= ?_)
   |refine qc_ (h:= ?_)
   |refine qb_ (h:= ?_)
   |(refine qev (by eq_refl) (by eq_refl) (qaz (by eq_refl)) (fun hask=> ?_) (fun hask=> ?_))
   |(refine qb5 (by eq_refl) (fun hif=> ?_) (fun hif=> ?_))
  )
 all_goals clear h1 h2 h3 h4 h5 h6 h7 h8 h9
 all_goals refine hQ _ _ (ret2 rfl (by (first |exact qfj |exact qfp)) (by (first |exact qfj |exact qfp)) ?_)
 all_goals clear hQ
 ·rw [if_pos (beq_iff_eq.1 hif)] at hf;rw [hf]
 ·have hne:¬a.below=b.below:=by have q:(a.below==b.below)=false:=(by assumption);intro h;rw [h] at q;simp at q
  rw [if_neg hne,←(hss hne).2 (by rw [Bool.not_eq_true'] at hif;exact of_decide_eq_false (hls.trans hif)),hR1] at hf;rw [hf]
 ·have hne:¬a.below=b.below:=by have q:(a.below==b.below)=false:=(by assumption);intro h;rw [h] at q;simp at q
  rw [if_neg hne,←(hss hne).1 (by rw [Bool.not_eq_false'] at hif;exact of_decide_eq_true (hls.trans hif)),hR2] at hf;rw [hf]
end Go.Proofs.YtilkebpcjklmfaaGreat.Own
