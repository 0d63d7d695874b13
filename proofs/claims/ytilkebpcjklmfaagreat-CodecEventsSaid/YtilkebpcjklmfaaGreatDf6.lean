/- The document's division, bit by bit: its loop's contract. -/
import Derived.Test.YtilkebpcjklmfaaGreatTr6
set_option linter.unusedVariables false
set_option linter.unusedSimpArgs false
namespace Go.Proofs.YtilkebpcjklmfaaGreat.Own
open Go Go.RowKit Go.Proofs
set_option maxRecDepth 100000
set_option maxHeartbeats 40000000
def uV (i:Nat):SE:= .ivar .u64 i
def uC (i:Nat):C:= .opq (.ivar .u64 i)
def zC:C:= .int .u64 0
def dfHi:SE:=.bin .or .u64 (.bin .shl .u64 As Ei) (.bin .shr .u64 BV (.lit .u64 63))
def dfLo (i:Nat):SE:= .bin .or .u64 (.bin .shl .u64 (.ivar .u64 5) (.lit .u64 1)) (.bin .and .u64 (.bin .shr .u64 (.ivar .u64 (11 - i / 64)) (.lit .i64 (Int.ofNat (i % 64)))) (.lit .u64 1))
def dfA (i:Nat):SE:= .cons dfHi (.cons (dfLo i) (.cons (.ivar .u64 6) (.cons (.ivar .u64 7) .nil)))
def dfQ (i m:Nat):SE:=bif Nat.beq (i / 64) m then .bin .or .u64 (.ivar .u64 m) (.lit .u64 (Int.ofNat (2 ^ (i % 64)))) else .ivar .u64 m
def q5f (i:Nat):RT:= .next [dfQ i 0,dfQ i 1,dfQ i 2,dfQ i 3,.app 114 0 (some .u64) (dfA i),.app 114 1 (some .u64) (dfA i),uV 6,uV 7,uV 8,uV 9,uV 10,uV 11]
def q0z (i:Nat):RT:= .next [uV 0,uV 1,uV 2,uV 3,dfHi,dfLo i,uV 6,uV 7,uV 8,uV 9,uV 10,uV 11]
def dfT (j:Nat):RT:= .ask (.cmp .eql (.bin .shr .u64 (.ivar .u64 4) (.lit .u64 63)) (.lit .u64 1)) (q5f (255 - j)) (.ask (.not (.app 113 0 none (dfA (255 - j)))) (q5f (255 - j)) (q0z (255 - j)))
def dfS (j:Nat):List (Nat×V):=[(2,.one (.ptr 0 0)),(3,.one (.ptr 1 0)),(4,.one (.ptr 2 0)),(5,.one (.ptr 3 0)),(6,.one (.sl 4 0 4 4)),(7,.one (.int .i64 (255 - Int.ofNat j)))]
def dfM:MB:=[(4,[uC 0,uC 1,uC 2,uC 3],24,false),(3,[zC,zC,zC,zC,uC 4,uC 5,.bool true],192,false),(2,[zC,zC,zC,zC,zC,zC,.bool false],192,false),(1,[uC 6,uC 7],171,false),(0,[uC 8,uC 9,uC 10,uC 11],178,false)]
def dfIds:List SE:=[uV 0,uV 1,uV 2,uV 3,uV 4,uV 5,uV 6,uV 7,uV 8,uV 9,uV 10,uV 11]
def z2q:Out:={x:= .exit 0,S:=[(2,.one (.ptr 0 0)),(3,.one (.ptr 1 0)),(4,.one (.ptr 2 0)),(5,.one (.ptr 3 0)),(6,.one (.sl 4 0 4 4))],M:=dfM}
def dfL:LEnt:={f:=126,id:=6,num:=14706,nx:=5,S:=dfS 0,M:=dfM,F:=[],kk:=[0,1,2,3,4],outs:=[z2q]}
def zhh (j:Nat):RT:=bif Nat.blt j 256 then dfT j else .out 0 dfIds
noncomputable def dfG:(Nat→List Int→List Int)→List Int→List Int:=qfv dfIds zhh (fun _=>257)
noncomputable def dfC (j:Nat):Bool:=qak (bW.loops qq9) qdv 100 dfL.f 71 (qa3 bW.P dfL.f dfL.id) (dfS j) dfL.M [] dfL.nx (dfS (j+1)) [z2q] dfL.kk (zhh j) []
theorem dfr0:((List.range 16).all fun j=>dfC (0+j))=true:=by kernel_rfl
theorem dfr1:((List.range 16).all fun j=>dfC (16+j))=true:=by kernel_rfl
theorem dfr2:((List.range 16).all fun j=>dfC (32+j))=true:=by kernel_rfl
theorem dfr3:((List.range 16).all fun j=>dfC (48+j))=true:=by kernel_rfl
theorem dfr4:((List.range 16).all fun j=>dfC (64+j))=true:=by kernel_rfl
theorem dfr5:((List.range 16).all fun j=>dfC (80+j))=true:=by kernel_rfl
theorem dfr6:((List.range 16).all fun j=>dfC (96+j))=true:=by kernel_rfl
theorem dfr7:((List.range 16).all fun j=>dfC (112+j))=true:=by kernel_rfl
theorem dfr8:((List.range 16).all fun j=>dfC (128+j))=true:=by kernel_rfl
theorem dfr9:((List.range 16).all fun j=>dfC (144+j))=true:=by kernel_rfl
theorem dfr10:((List.range 16).all fun j=>dfC (160+j))=true:=by kernel_rfl
theorem dfr11:((List.range 16).all fun j=>dfC (176+j))=true:=by kernel_rfl
theorem dfr12:((List.range 16).all fun j=>dfC (192+j))=true:=by kernel_rfl
theorem dfr13:((List.range 16).all fun j=>dfC (208+j))=true:=by kernel_rfl
theorem dfr14:((List.range 16).all fun j=>dfC (224+j))=true:=by kernel_rfl
theorem dfr15:((List.range 16).all fun j=>dfC (240+j))=true:=by kernel_rfl
theorem zky:∀j,j<256→dfC j=true:=fun j hj=>by
 have key:∀c,c<16→((List.range 16).all fun j=>dfC (16 * c+j))=true:=fun c hc=>by
  have h:c=0∨c=1∨c=2∨c=3∨c=4∨c=5∨c=6∨c=7∨c=8∨c=9∨c=10∨c=11∨c=12∨c=13∨c=14∨c=15:=by omega
  rcases h with rfl |rfl |rfl |rfl |rfl |rfl |rfl |rfl |rfl |rfl |rfl |rfl |rfl |rfl |rfl |rfl
  ·exact dfr0
  ·exact dfr1
  ·exact dfr2
  ·exact dfr3
  ·exact dfr4
  ·exact dfr5
  ·exact dfr6
  ·exact dfr7
  ·exact dfr8
  ·exact dfr9
  ·exact dfr10
  ·exact dfr11
  ·exact dfr12
  ·exact dfr13
  ·exact dfr14
  ·exact dfr15
 have:=List.all_eq_true.1 (key (j / 16) (by omega)) (j % 16) (List.mem_range.2 (Nat.mod_lt _ (by decide)))
 rw [Nat.div_add_mod] at this
 exact this
theorem dfr16:dfC 256=true:=by kernel_rfl
theorem zws:((List.range 257).all fun j=>(zhh j).free)=true:=by kernel_rfl
theorem df_ok:LCT Tryz.prog dfL (FT qdv) (dfG (FT qdv)):=
 qc8 (b:=bW.loops qq9) (Tb:=qdv) (y:=dfL) (M:=dfM) (T:=zhh) (S:=dfS) (init:=dfIds) (qag qbi _) (qbj zpc) zof (d:=100) (n:=71) (by kernel_rfl) (by kernel_rfl) (by kernel_rfl) (by kernel_rfl)
  (fun xs j hj=>by
   by_cases h:j<256
   ·exact zky j h
   ·have:j=256:=by omega
    subst this;exact dfr16)
  (fun xs _=>qpn (N:=256) (fun j hj=>List.all_eq_true.1 zws j (List.mem_range.2 (by omega))) (by kernel_rfl) 257 0 _ (by omega) (by omega))
theorem yfs:Cst dfL (dfG (FT qdv)):=fun xs e ys o _ ho c hc=>by
 have:o=z2q:=by
  cases e with
  |zero=>simpa [dfL] using ho.symm
  |succ e=>simp [dfL] at ho
 subst this;cases hc
noncomputable def qk9:List Ent:=⟨14706,[],.tup [],dfG,true⟩::qdv
theorem yet:qcd Tryz.prog qk9:=qbw zof rfl (by kernel_rfl)
def q8l:List LEnt:=dfL::Tr6_L
theorem zn8:LBs Tryz.prog q8l qk9:=qbl (y:=dfL) zpc (by kernel_rfl) (by kernel_rfl) (by kernel_rfl) df_ok yfs
end Go.Proofs.YtilkebpcjklmfaaGreat.Own
