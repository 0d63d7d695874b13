/- Contracts as trees, found by program and checked by the kernel. -/
/- The document's division, bit by bit: its loop's contract. -/
/- A world turned: what is known and what is asked. -/
/- A world turned: what its lists are. -/
import Derived.Test.YtedfbamihjnhhaaLm6
section
namespace Go.Proofs.Ytedfbamihjnhhaa.Own
open Go Go.RowKit Go.Proofs
set_option linter.unusedVariables false
set_option maxRecDepth 100000
def tr35 : ST :=
 (.ask (.cmp .lss (.ivar .u64 0) (.ivar .u64 2)) (.leaf (.one (.bool true)))
  (.ask (.cmp .eql (.ivar .u64 0) (.ivar .u64 2)) (.leaf (.one (.opq (.cmp .lss (.ivar .u64 1) (.ivar .u64 3)))))
  (.leaf (.one (.bool false)))))
noncomputable def Tr6_T35 : List Ent := ⟨35, [.agg [some .u64, some .u64], .agg [some .u64, some .u64]], .one (.one none), treeFn tr35, false⟩ :: Lm6_T
set_option maxHeartbeats 4000000 in
theorem Tr6_ok35 : TbOK Try.prog Tr6_T35 := tb_tree (b := bW.loops Lm6_L) (loops_ok bW_ok _) (lb_of Lm6_lb) (d := 300) Lm6_ok (fn rfl) (by kernel_rfl)
theorem Tr6_lb35 : LBs Try.prog Lm6_L Tr6_T35 := lbs_cons Lm6_lb (by kernel_rfl)
def tr36 : ST :=
 (.ask (.cmp .lss (.ivar .u64 1) (.ivar .u64 3)) (.leaf (.agg [(.opq (.bin .sub .u64 (.bin .sub .u64 (.ivar .u64 0) (.ivar .u64 2)) (.lit .u64 1))), (.opq (.bin .sub .u64 (.ivar .u64 1) (.ivar .u64 3))), (.opq (.app 35 0 none (.cons (.ivar .u64 0) (.cons (.ivar .u64 1) (.cons (.ivar .u64 2) (.cons (.ivar .u64 3) .nil))))))]))
  (.leaf (.agg [(.opq (.bin .sub .u64 (.bin .sub .u64 (.ivar .u64 0) (.ivar .u64 2)) (.lit .u64 0))), (.opq (.bin .sub .u64 (.ivar .u64 1) (.ivar .u64 3))), (.opq (.app 35 0 none (.cons (.ivar .u64 0) (.cons (.ivar .u64 1) (.cons (.ivar .u64 2) (.cons (.ivar .u64 3) .nil))))))])))
noncomputable def Tr6_T36 : List Ent := ⟨36, [.agg [some .u64, some .u64], .agg [some .u64, some .u64]], .one (.agg [some .u64, some .u64, none]), treeFn tr36, false⟩ :: Tr6_T35
set_option maxHeartbeats 4000000 in
theorem Tr6_ok36 : TbOK Try.prog Tr6_T36 := tb_tree (b := bW.loops Lm6_L) (loops_ok bW_ok _) (lb_of Tr6_lb35) (d := 300) Tr6_ok35 (fn rfl) (by kernel_rfl)
theorem Tr6_lb36 : LBs Try.prog Lm6_L Tr6_T36 := lbs_cons Tr6_lb35 (by kernel_rfl)
def Tr6_L : List LEnt := Lm6_L
noncomputable def Tr6_T : List Ent := Tr6_T36
theorem Tr6_ok : TbOK Try.prog Tr6_T := Tr6_ok36
theorem Tr6_lb : LBs Try.prog Lm6_L Tr6_T := Tr6_lb36
end Go.Proofs.Ytedfbamihjnhhaa.Own
end
section
namespace Go.Proofs.Ytedfbamihjnhhaa.Own
open Go Go.RowKit Go.Proofs
set_option linter.unusedVariables false
set_option linter.unusedSimpArgs false
set_option maxRecDepth 100000
def uV (i : Nat) : SE := .ivar .u64 i
def uC (i : Nat) : C := .opq (.ivar .u64 i)
def zC : C := .int .u64 0
def dfHi : SE := .bin .or .u64 (.bin .shl .u64 (.ivar .u64 4) (.lit .u64 1)) (.bin .shr .u64 (.ivar .u64 5) (.lit .u64 63))
def dfLo (i : Nat) : SE := .bin .or .u64 (.bin .shl .u64 (.ivar .u64 5) (.lit .u64 1)) (.bin .and .u64 (.bin .shr .u64 (.ivar .u64 (11 - i / 64)) (.lit .i64 (Int.ofNat (i % 64)))) (.lit .u64 1))
def dfA (i : Nat) : SE := .cons dfHi (.cons (dfLo i) (.cons (.ivar .u64 6) (.cons (.ivar .u64 7) .nil)))
def dfQ (i m : Nat) : SE := bif Nat.beq (i / 64) m then .bin .or .u64 (.ivar .u64 m) (.lit .u64 (Int.ofNat (2 ^ (i % 64)))) else .ivar .u64 m
def dfSub (i : Nat) : RT := .next [dfQ i 0, dfQ i 1, dfQ i 2, dfQ i 3, .app 36 0 (some .u64) (dfA i), .app 36 1 (some .u64) (dfA i), uV 6, uV 7, uV 8, uV 9, uV 10, uV 11]
def dfKeep (i : Nat) : RT := .next [uV 0, uV 1, uV 2, uV 3, dfHi, dfLo i, uV 6, uV 7, uV 8, uV 9, uV 10, uV 11]
def dfT (j : Nat) : RT := .ask (.cmp .eql (.bin .shr .u64 (.ivar .u64 4) (.lit .u64 63)) (.lit .u64 1)) (dfSub (255 - j)) (.ask (.not (.app 35 0 none (dfA (255 - j)))) (dfSub (255 - j)) (dfKeep (255 - j)))
def dfS (j : Nat) : List (Nat × V) := [(2, .one (.ptr 0 0)), (3, .one (.ptr 1 0)), (4, .one (.ptr 2 0)), (5, .one (.ptr 3 0)), (6, .one (.sl 4 0 4 4)), (7, .one (.int .i64 (255 - Int.ofNat j)))]
def dfM : MB := [(4, [uC 0, uC 1, uC 2, uC 3], 22, false), (3, [zC, zC, zC, zC, uC 4, uC 5, .bool true], 204, false), (2, [zC, zC, zC, zC, zC, zC, .bool false], 204, false), (1, [uC 6, uC 7], 79, false), (0, [uC 8, uC 9, uC 10, uC 11], 86, false)]
def dfIds : List SE := [uV 0, uV 1, uV 2, uV 3, uV 4, uV 5, uV 6, uV 7, uV 8, uV 9, uV 10, uV 11]
def dfOut : Out := { x := .exit 0, S := [(2, .one (.ptr 0 0)), (3, .one (.ptr 1 0)), (4, .one (.ptr 2 0)), (5, .one (.ptr 3 0)), (6, .one (.sl 4 0 4 4))], M := dfM }
def dfL : LEnt := { f := 147, id := 6, num := 14706, nx := 5, S := dfS 0, M := dfM, F := [], kk := [0, 1, 2, 3, 4], outs := [dfOut] }
def dfTT (j : Nat) : RT := bif Nat.blt j 256 then dfT j else .out 0 dfIds
noncomputable def dfG : (Nat → List Int → List Int) → List Int → List Int := lpFn dfIds dfTT (fun _ => 257)
noncomputable def dfC (j : Nat) : Bool := checkR (bW.loops Lm6_L) Tr6_T 100 dfL.f 71 (bodyOf bW.P dfL.f dfL.id) (dfS j) dfL.M [] dfL.nx (dfS (j + 1)) [dfOut] dfL.kk (dfTT j) []
set_option maxHeartbeats 4000000 in
theorem dfr0 : ((List.range 16).all fun j => dfC (0 + j)) = true := by kernel_rfl
set_option maxHeartbeats 4000000 in
theorem dfr1 : ((List.range 16).all fun j => dfC (16 + j)) = true := by kernel_rfl
set_option maxHeartbeats 4000000 in
theorem dfr2 : ((List.range 16).all fun j => dfC (32 + j)) = true := by kernel_rfl
set_option maxHeartbeats 4000000 in
theorem dfr3 : ((List.range 16).all fun j => dfC (48 + j)) = true := by kernel_rfl
set_option maxHeartbeats 4000000 in
theorem dfr4 : ((List.range 16).all fun j => dfC (64 + j)) = true := by kernel_rfl
set_option maxHeartbeats 4000000 in
theorem dfr5 : ((List.range 16).all fun j => dfC (80 + j)) = true := by kernel_rfl
set_option maxHeartbeats 4000000 in
theorem dfr6 : ((List.range 16).all fun j => dfC (96 + j)) = true := by kernel_rfl
set_option maxHeartbeats 4000000 in
theorem dfr7 : ((List.range 16).all fun j => dfC (112 + j)) = true := by kernel_rfl
set_option maxHeartbeats 4000000 in
theorem dfr8 : ((List.range 16).all fun j => dfC (128 + j)) = true := by kernel_rfl
set_option maxHeartbeats 4000000 in
theorem dfr9 : ((List.range 16).all fun j => dfC (144 + j)) = true := by kernel_rfl
set_option maxHeartbeats 4000000 in
theorem dfr10 : ((List.range 16).all fun j => dfC (160 + j)) = true := by kernel_rfl
set_option maxHeartbeats 4000000 in
theorem dfr11 : ((List.range 16).all fun j => dfC (176 + j)) = true := by kernel_rfl
set_option maxHeartbeats 4000000 in
theorem dfr12 : ((List.range 16).all fun j => dfC (192 + j)) = true := by kernel_rfl
set_option maxHeartbeats 4000000 in
theorem dfr13 : ((List.range 16).all fun j => dfC (208 + j)) = true := by kernel_rfl
set_option maxHeartbeats 4000000 in
theorem dfr14 : ((List.range 16).all fun j => dfC (224 + j)) = true := by kernel_rfl
set_option maxHeartbeats 4000000 in
theorem dfr15 : ((List.range 16).all fun j => dfC (240 + j)) = true := by kernel_rfl
theorem df_round : ∀ j, j < 256 → dfC j = true := fun j hj => by
 have key : ∀ c, c < 16 → ((List.range 16).all fun j => dfC (16 * c + j)) = true := fun c hc => by
  have h : c = 0 ∨ c = 1 ∨ c = 2 ∨ c = 3 ∨ c = 4 ∨ c = 5 ∨ c = 6 ∨ c = 7 ∨ c = 8 ∨ c = 9 ∨ c = 10 ∨ c = 11 ∨ c = 12 ∨ c = 13 ∨ c = 14 ∨ c = 15 := by omega
  rcases h with rfl | rfl | rfl | rfl | rfl | rfl | rfl | rfl | rfl | rfl | rfl | rfl | rfl | rfl | rfl | rfl
  ·exact dfr0
  ·exact dfr1
  ·exact dfr2
  ·exact dfr3
  ·exact dfr4
  ·exact dfr5
  ·exact dfr6
  ·exact dfr7
  ·exact dfr8
  ·exact dfr9
  ·exact dfr10
  ·exact dfr11
  ·exact dfr12
  ·exact dfr13
  ·exact dfr14
  ·exact dfr15
 have := List.all_eq_true.1 (key (j / 16) (by omega)) (j % 16) (List.mem_range.2 (Nat.mod_lt _ (by decide)))
 rw [Nat.div_add_mod] at this
 exact this
theorem dfr16 : dfC 256 = true := by kernel_rfl
theorem df_free : ((List.range 257).all fun j => (dfTT j).free) = true := by kernel_rfl
set_option maxHeartbeats 40000000 in
theorem df_ok : LCT Try.prog dfL (FT Tr6_T) (dfG (FT Tr6_T)) :=
 lct_of (b := bW.loops Lm6_L) (Tb := Tr6_T) (y := dfL) (M := dfM) (T := dfTT) (S := dfS) (init := dfIds) (loops_ok bW_ok _) (lb_of Tr6_lb) Tr6_ok (d := 100) (n := 71) (by kernel_rfl) (by kernel_rfl) (by kernel_rfl) (by kernel_rfl)
  (fun xs j hj => by
   by_cases h : j < 256
   ·exact df_round j h
   ·have : j = 256 := by omega
    subst this; exact dfr16)
  (fun xs _ => runOK_count (N := 256) (fun j hj => List.all_eq_true.1 df_free j (List.mem_range.2 (by omega))) (by kernel_rfl) 257 0 _ (by omega) (by omega))
theorem df_cst : Cst dfL (dfG (FT Tr6_T)) := fun xs e ys o _ ho c hc => by
 have : o = dfOut := by
  cases e with
  | zero => simpa [dfL] using ho.symm
  | succ e => simp [dfL] at ho
 subst this; cases hc
noncomputable def Df6_T : List Ent := ⟨14706, [], .tup [], dfG, true⟩ :: Tr6_T
theorem Df6_ok : TbOK Try.prog Df6_T := tb_loop Tr6_ok rfl (by kernel_rfl)
def Df6_L : List LEnt := dfL :: Tr6_L
theorem Df6_lb : LBs Try.prog Df6_L Df6_T := lbs_loop (y := dfL) Tr6_lb (by kernel_rfl) (by kernel_rfl) (by kernel_rfl) df_ok df_cst
end Go.Proofs.Ytedfbamihjnhhaa.Own
end
section
namespace Go.Proofs.Ytedfbamihjnhhaa.Own
open Go Go.RowKit Go.Proofs Go.Proofs.Ytedfbamihjnhhaa.Plain
set_option linter.unusedVariables false
set_option maxRecDepth 100000
def wtL0 : SE := (.lap 20051 1 (.cons (.lvar 0) .nil))
def wtL1 : SE := (.app 22 0 (some .i64) (.cons (.bin .add .i64 (.lit .i64 1) (.bin .rem .i64 (.conv .i64 (.ivar .u8 4)) (.lit .i64 3))) .nil))
def wtL2 : SE := (.app 22 1 (some .u64) (.cons (.bin .add .i64 (.lit .i64 1) (.bin .rem .i64 (.conv .i64 (.ivar .u8 4)) (.lit .i64 3))) .nil))
def wtL3 : SE := (.lap 20052 8 (.cons wtL1 (.cons wtL2 (.cons (.bin .shl .u64 (.conv .u64 (.ivar .u8 4)) (.lit .u64 56)) (.cons (.bin .shl .u64 (.conv .u64 (.bin .rem .u8 (.ivar .u8 4) (.lit .u8 4))) (.lit .u64 62)) (.cons (.bin .rem .i64 (.bin .quo .i64 (.conv .i64 (.ivar .u8 4)) (.lit .i64 4)) (.lit .i64 2)) (.cons (.bin .rem .i64 (.bin .quo .i64 (.conv .i64 (.ivar .u8 4)) (.lit .i64 8)) (.lit .i64 2)) (.cons .lnil .nil))))))))
def wtL4 : SE := (.lap 20052 8 (.cons wtL1 (.cons wtL2 (.cons (.bin .shl .u64 (.conv .u64 (.ivar .u8 4)) (.lit .u64 56)) (.cons (.bin .shl .u64 (.conv .u64 (.bin .rem .u8 (.ivar .u8 4) (.lit .u8 4))) (.lit .u64 62)) (.cons (.bin .rem .i64 (.bin .quo .i64 (.conv .i64 (.ivar .u8 4)) (.lit .i64 4)) (.lit .i64 2)) (.cons (.bin .rem .i64 (.bin .quo .i64 (.conv .i64 (.ivar .u8 4)) (.lit .i64 8)) (.lit .i64 2)) (.cons wtL0 .nil))))))))
def wtL5 : SE := (.lap 20055 9 (.cons (.lvar 3) (.cons wtL1 (.cons wtL2 (.cons (.bin .shl .u64 (.conv .u64 (.ivar .u8 4)) (.lit .u64 56)) (.cons (.bin .shl .u64 (.conv .u64 (.bin .rem .u8 (.ivar .u8 4) (.lit .u8 4))) (.lit .u64 62)) (.cons (.bin .rem .i64 (.bin .quo .i64 (.conv .i64 (.ivar .u8 4)) (.lit .i64 4)) (.lit .i64 2)) (.cons (.bin .rem .i64 (.bin .quo .i64 (.conv .i64 (.ivar .u8 4)) (.lit .i64 8)) (.lit .i64 2)) (.cons wtL0 (.cons wtL4 .nil))))))))))
def wtL6 : SE := (.lap 20057 1 (.cons (.lvar 2) .nil))
def wtL7 : SE := (.lap 20053 9 (.cons wtL1 (.cons wtL2 (.cons (.bin .shl .u64 (.conv .u64 (.ivar .u8 4)) (.lit .u64 56)) (.cons (.bin .shl .u64 (.conv .u64 (.bin .rem .u8 (.ivar .u8 4) (.lit .u8 4))) (.lit .u64 62)) (.cons (.bin .rem .i64 (.bin .quo .i64 (.conv .i64 (.ivar .u8 4)) (.lit .i64 4)) (.lit .i64 2)) (.cons (.bin .rem .i64 (.bin .quo .i64 (.conv .i64 (.ivar .u8 4)) (.lit .i64 8)) (.lit .i64 2)) (.cons wtL0 (.cons wtL3 .nil)))))))))
def wtL8 : SE := (.lap 20053 8 (.cons wtL1 (.cons wtL2 (.cons (.bin .shl .u64 (.conv .u64 (.ivar .u8 4)) (.lit .u64 56)) (.cons (.bin .shl .u64 (.conv .u64 (.bin .rem .u8 (.ivar .u8 4) (.lit .u8 4))) (.lit .u64 62)) (.cons (.bin .rem .i64 (.bin .quo .i64 (.conv .i64 (.ivar .u8 4)) (.lit .i64 4)) (.lit .i64 2)) (.cons (.bin .rem .i64 (.bin .quo .i64 (.conv .i64 (.ivar .u8 4)) (.lit .i64 8)) (.lit .i64 2)) (.cons wtL0 (.cons wtL3 .nil)))))))))
def wtL9 : SE := (.lap 20054 8 (.cons (.lvar 1) (.cons wtL1 (.cons wtL2 (.cons (.bin .shl .u64 (.conv .u64 (.ivar .u8 4)) (.lit .u64 56)) (.cons (.bin .shl .u64 (.conv .u64 (.bin .rem .u8 (.ivar .u8 4) (.lit .u8 4))) (.lit .u64 62)) (.cons (.bin .rem .i64 (.bin .quo .i64 (.conv .i64 (.ivar .u8 4)) (.lit .i64 4)) (.lit .i64 2)) (.cons (.bin .rem .i64 (.bin .quo .i64 (.conv .i64 (.ivar .u8 4)) (.lit .i64 8)) (.lit .i64 2)) (.cons wtL0 (.cons wtL8 (.cons wtL7 .nil)))))))))))
def wtL10 : SE := (.lap 20056 11 (.cons (.lvar 3) (.cons wtL1 (.cons wtL2 (.cons (.bin .shl .u64 (.conv .u64 (.ivar .u8 4)) (.lit .u64 56)) (.cons (.bin .shl .u64 (.conv .u64 (.bin .rem .u8 (.ivar .u8 4) (.lit .u8 4))) (.lit .u64 62)) (.cons (.bin .rem .i64 (.bin .quo .i64 (.conv .i64 (.ivar .u8 4)) (.lit .i64 4)) (.lit .i64 2)) (.cons (.bin .rem .i64 (.bin .quo .i64 (.conv .i64 (.ivar .u8 4)) (.lit .i64 8)) (.lit .i64 2)) (.cons wtL0 (.cons wtL9 (.cons wtL8 (.cons wtL7 .nil))))))))))))
def wtF0 : SE := (.cmp .leq (.len wtL0) (.lit .i64 1000000))
def wtF1 : SE := (.cmp .eql (.len wtL3) (.lit .i64 0))
def wtF2 : SE := (.app 75 0 none (.cons wtL1 (.cons wtL2 (.cons (.lit .i64 1048576) .nil))))
def wtF3 : SE := (.app 75 0 none (.cons (.lit .i64 0) (.cons (.bin .shl .u64 (.conv .u64 (.ivar .u8 4)) (.lit .u64 56)) (.cons (.lit .i64 1) .nil))))
def wtF4 : SE := (.app 51 0 none (.cons (.bin .rem .i64 (.bin .quo .i64 (.conv .i64 (.ivar .u8 4)) (.lit .i64 4)) (.lit .i64 2)) (.cons (.lit .i64 0) (.cons (.lit .i64 1) .nil))))
def wtF5 : SE := (.cmp .neq (.len wtL0) (.len wtL0))
def wtF6 : SE := (.cmp .leq (.len wtL5) (.lit .i64 1000000))
def wtF7 : SE := (.cmp .neq (.len wtL0) (.len wtL5))
def wtF9 : SE := (.cmp .neq (.len wtL6) (.len wtL6))
def wtF11 : SE := (.cmp .neq (.len wtL4) (.len wtL4))
def wtF13 : SE := (.cmp .leq (.len wtL7) (.lit .i64 1000000))
def wtF14 : SE := (.cmp .neq (.len wtL0) (.len wtL7))
def wtF15 : SE := (.cmp .leq (.len wtL10) (.lit .i64 1000000))
def wtF16 : SE := (.cmp .neq (.len wtL0) (.len wtL10))
def wtF26 : SE := (.app 75 0 none (.cons (.lit .i64 0) (.cons (.bin .shl .u64 (.conv .u64 (.bin .rem .u8 (.ivar .u8 4) (.lit .u8 4))) (.lit .u64 62)) (.cons (.lit .i64 1) .nil))))
def wtF33 : SE := (.app 51 0 none (.cons (.bin .rem .i64 (.bin .quo .i64 (.conv .i64 (.ivar .u8 4)) (.lit .i64 8)) (.lit .i64 2)) (.cons (.lit .i64 0) (.cons (.lit .i64 1) .nil))))
def wtF34 : SE := (.cmp .gtr (.len wtL0) (.lit .i64 32))
def wtF35 : SE := (.cmp .gtr (.len wtL6) (.lit .i64 16))
def wtF40 : SE := (.cmp .gtr (.len wtL9) (.lit .i64 32))
def wtF45 : SE := (.cmp .neq (.len wtL4) (.len wtL0))
def wtF46 : SE := (.cmp .neq (.len wtL8) (.len wtL0))
def wtH0 : SE := .cmp .geq (.ivar .u8 4) (.lit .u8 128)
def wtM : MB := [(0, [.big (.lvar 0) [some .u8]], 5, false), (1, [.big (.lvar 1) [some .u8]], 5, false), (2, [.big (.lvar 2) [some .u8]], 5, false), (3, [.big (.lvar 3) [some .u8]], 5, false)]
end Go.Proofs.Ytedfbamihjnhhaa.Own
end
section
namespace Go.Proofs.Ytedfbamihjnhhaa.Own
open Go Go.RowKit Go.Proofs Go.Proofs.Ytedfbamihjnhhaa.Plain
set_option linter.unusedVariables false
set_option linter.unusedSectionVars false
set_option linter.unusedSimpArgs false
set_option maxRecDepth 100000
noncomputable def wtEnv (xs : List Int) : Env := envOf (FT Lm6_T) xs
theorem lap_at {F : Nat → List Int → List Int} {xs : List Int} {f i : Nat} {zs : SE} : (SE.lap f i zs).val (envOf F xs) = (F f (zs.vals (envOf F xs))).getD i 0 := by
 simp only [SE.val]; rfl
theorem vals_c {e : Env} {a zs : SE} : (SE.cons a zs).vals e = a.val e :: zs.vals e := by simp only [SE.vals]
theorem vals_n {e : Env} : SE.nil.vals e = [] := by simp only [SE.vals]
theorem ft51 : FT Lm6_T 20051 = boG (FT Lm2_T) := by kernel_rfl
theorem ft52 : FT Lm6_T 20052 = waG (FT Lm3_Tbo) := by kernel_rfl
theorem ft53 : FT Lm6_T 20053 = clG (FT Lm3_T) := by kernel_rfl
theorem ft54 : FT Lm6_T 20054 = twG (FT Lm4_T) := by kernel_rfl
theorem ft55 : FT Lm6_T 20055 = tlG (FT Lm5_Ttw) := by kernel_rfl
theorem ft56 : FT Lm6_T 20056 = wlG (FT Lm5_Ttl) := by kernel_rfl
theorem ft57 : FT Lm6_T 20057 = raG (FT Lm5_Twl) := by kernel_rfl
theorem ft61 : FT Lm6_T 20061 = ib2G (FT Lm5_T) := by kernel_rfl
theorem ft31 : FT Lm6_T 20031 = mrG (FT Tr5_T) := by kernel_rfl
structure WtLen (xs : List Int) : Prop where
 l0 : (dec (xs.getD 0 0)).length ≤ maxLen
 l1 : (dec (xs.getD 1 0)).length ≤ maxLen
 l2 : (dec (xs.getD 2 0)).length ≤ maxLen
 l3 : (dec (xs.getD 3 0)).length ≤ maxLen
theorem le_max {n : Nat} (h : n ≤ 1000000) : n ≤ maxLen := by unfold maxLen; omega
section
variable {xs : List Int} (hl : WtLen xs)
include hl
theorem wt_L0 : (dec (wtL0.val (wtEnv xs))).length ≤ 5 ∧ ∀ el ∈ dec (wtL0.val (wtEnv xs)), isBd (FT Lm2_T) el := by
 have e : wtL0.val (wtEnv xs) = (boG (FT Lm2_T) [xs.getD 0 0]).getD 1 0 := by
  unfold wtL0 wtEnv; rw [lap_at, ft51]; simp only [vals_c, vals_n, lvar_at]
 have hp : Pre boL (FT Lm2_T) [xs.getD 0 0] := ⟨fun c hc => by
  have hc : c ∈ [(0, 0)] := hc
  simp only [List.mem_singleton] at hc; subst hc; exact hl.l0, fun c hc => (by cases hc), fun c hc => (by cases hc)⟩
 obtain ⟨ys, h1, h2, h3⟩ := bo_val (FT Lm2_T) [xs.getD 0 0] hp
 rw [e, h1]; exact ⟨h2, h3⟩
omit hl in
theorem wt_L3 : dec (wtL3.val (wtEnv xs)) = [] := by
 have e : ∃ zs : List Int, wtL3.val (wtEnv xs) = (waG (FT Lm3_Tbo) zs).getD 8 0 ∧ dec (zs.getD 6 0) = [] := by
  unfold wtL3 wtEnv; rw [lap_at, ft52]
  refine ⟨_, rfl, ?_⟩
  simp only [vals_c, vals_n, List.getD_cons_succ, List.getD_cons_zero, SE.val, dec_enc]
 obtain ⟨zs, e, h6⟩ := e
 have hp : Pre waL (FT Lm3_Tbo) zs := ⟨fun c hc => by
  have hc : c ∈ [(1, 6)] := hc
  simp only [List.mem_singleton] at hc; subst hc; rw [show zs.getD (1, 6).2 0 = zs.getD 6 0 from rfl, h6]; exact Nat.zero_le _, fun c hc => by
  have hc : c ∈ [6] := hc
  simp only [List.mem_singleton] at hc; subst hc; rw [h6]; exact Nat.zero_le _, fun c hc => (by cases hc)⟩
 obtain ⟨ys, h1, h2⟩ := wa_val (FT Lm3_Tbo) zs hp
 rw [e, h1]
 rw [h6] at h2
 exact h2
theorem wt_L4 : dec (wtL4.val (wtEnv xs)) = List.replicate (dec (wtL0.val (wtEnv xs))).length [-1] := by
 have e : ∃ zs : List Int, wtL4.val (wtEnv xs) = (waG (FT Lm3_Tbo) zs).getD 8 0 ∧ zs.getD 6 0 = wtL0.val (wtEnv xs) := by
  unfold wtL4 wtEnv; rw [lap_at, ft52]
  refine ⟨_, rfl, ?_⟩
  simp only [vals_c, vals_n, List.getD_cons_succ, List.getD_cons_zero]
 obtain ⟨zs, e, h6⟩ := e
 have hn := (wt_L0 hl).1
 have hp : Pre waL (FT Lm3_Tbo) zs := ⟨fun c hc => by
  have hc : c ∈ [(1, 6)] := hc
  simp only [List.mem_singleton] at hc; subst hc; rw [show zs.getD (1, 6).2 0 = zs.getD 6 0 from rfl, h6]; exact le_max (by omega), fun c hc => by
  have hc : c ∈ [6] := hc
  simp only [List.mem_singleton] at hc; subst hc; rw [h6]; omega, fun c hc => (by cases hc)⟩
 obtain ⟨ys, h1, h2⟩ := wa_val (FT Lm3_Tbo) zs hp
 rw [e, h1]
 rw [h6] at h2
 exact h2
theorem wt_cl (zs : List Int) (h6 : zs.getD 6 0 = wtL0.val (wtEnv xs)) (h7 : dec (zs.getD 7 0) = []) : ∃ ys, clG (FT Lm3_T) zs = 0 :: ys ∧ dec (ys.getD 7 0) = List.replicate (dec (wtL0.val (wtEnv xs))).length [-1] ∧ dec (ys.getD 8 0) = (dec (wtL0.val (wtEnv xs))).map nearB := by
 have hn := (wt_L0 hl).1
 have hp : Pre clL (FT Lm3_T) zs := ⟨fun c hc => by
  have hc : c ∈ [(1, 6), (2, 7)] := hc
  simp only [List.mem_cons, List.not_mem_nil, or_false] at hc
  rcases hc with rfl | rfl
  ·rw [show zs.getD (1, 6).2 0 = zs.getD 6 0 from rfl, h6]; exact le_max (by omega)
  ·rw [show zs.getD (2, 7).2 0 = zs.getD 7 0 from rfl, h7]; exact Nat.zero_le _, fun c hc => by
  have hc : c ∈ [6] := hc
  simp only [List.mem_singleton] at hc; subst hc; rw [h6]; omega, fun c hc => by
  have hc : c ∈ [(SE.cmp .eql (.len (.lvar 7)) (.lit .i64 0), true)] := hc
  simp only [List.mem_singleton] at hc; subst hc
  have l := len_at (F := FT Lm3_T) (lv := 7) (n := 0) (xs := zs) (by rw [h7]; rfl) (Nat.zero_le _)
  have w0 : IntKind.i64.wrap 0 = 0 := rfl
  simp only [SE.val, b2i_ne, valCmp, w0]
  simp only [SE.val] at l
  rw [l]; rfl⟩
 obtain ⟨ys, h1, h2, h3⟩ := cl_val (FT Lm3_T) zs hp
 rw [h6] at h2 h3
 exact ⟨ys, h1, h2, h3⟩
theorem wt_L8 : dec (wtL8.val (wtEnv xs)) = List.replicate (dec (wtL0.val (wtEnv xs))).length [-1] := by
 have e : ∃ zs : List Int, wtL8.val (wtEnv xs) = (clG (FT Lm3_T) zs).getD 8 0 ∧ zs.getD 6 0 = wtL0.val (wtEnv xs) ∧ zs.getD 7 0 = wtL3.val (wtEnv xs) := by
  unfold wtL8 wtEnv; rw [lap_at, ft53]
  refine ⟨_, rfl, ?_, ?_⟩ <;> simp only [vals_c, vals_n, List.getD_cons_succ, List.getD_cons_zero]
 obtain ⟨zs, e, h6, h7⟩ := e
 obtain ⟨ys, h1, h2, h3⟩ := wt_cl hl zs h6 (by rw [h7]; exact wt_L3)
 rw [e, h1]; exact h2
theorem wt_L7 : dec (wtL7.val (wtEnv xs)) = (dec (wtL0.val (wtEnv xs))).map nearB := by
 have e : ∃ zs : List Int, wtL7.val (wtEnv xs) = (clG (FT Lm3_T) zs).getD 9 0 ∧ zs.getD 6 0 = wtL0.val (wtEnv xs) ∧ zs.getD 7 0 = wtL3.val (wtEnv xs) := by
  unfold wtL7 wtEnv; rw [lap_at, ft53]
  refine ⟨_, rfl, ?_, ?_⟩ <;> simp only [vals_c, vals_n, List.getD_cons_succ, List.getD_cons_zero]
 obtain ⟨zs, e, h6, h7⟩ := e
 obtain ⟨ys, h1, h2, h3⟩ := wt_cl hl zs h6 (by rw [h7]; exact wt_L3)
 rw [e, h1]; exact h3
theorem wt_L9 : (dec (wtL9.val (wtEnv xs))).length ≤ 10 ∧ ∀ el ∈ dec (wtL9.val (wtEnv xs)), isTe (FT Lm4_T) (dec (wtL0.val (wtEnv xs))).length el := by
 have e : ∃ zs : List Int, wtL9.val (wtEnv xs) = (twG (FT Lm4_T) zs).getD 8 0 ∧ zs.getD 0 0 = xs.getD 1 0 ∧ zs.getD 7 0 = wtL0.val (wtEnv xs) ∧ zs.getD 8 0 = wtL8.val (wtEnv xs) ∧ zs.getD 9 0 = wtL7.val (wtEnv xs) := by
  unfold wtL9 wtEnv; rw [lap_at, ft54]
  refine ⟨_, rfl, ?_, ?_, ?_, ?_⟩ <;> simp only [vals_c, vals_n, List.getD_cons_succ, List.getD_cons_zero, lvar_at]
 obtain ⟨zs, e, h0, h7, h8, h9⟩ := e
 have hn := (wt_L0 hl).1
 have hp : Pre twL (FT Lm4_T) zs := ⟨fun c hc => by
  have hc : c ∈ [(2, 9), (3, 8), (0, 0)] := hc
  simp only [List.mem_cons, List.not_mem_nil, or_false] at hc
  rcases hc with rfl | rfl | rfl
  ·rw [show zs.getD (2, 9).2 0 = zs.getD 9 0 from rfl, h9, wt_L7 hl, List.length_map]; exact le_max (by omega)
  ·rw [show zs.getD (3, 8).2 0 = zs.getD 8 0 from rfl, h8, wt_L8 hl, List.length_replicate]; exact le_max (by omega)
  ·rw [show zs.getD (0, 0).2 0 = zs.getD 0 0 from rfl, h0]; exact hl.l1, fun c hc => (by cases hc), fun c hc => (by cases hc)⟩
 obtain ⟨ys, h1, h2, h3⟩ := tw_val (FT Lm4_T) zs hp
 rw [h7, sat_of (le_max (by omega))] at h3
 rw [e, h1]; exact ⟨h2, h3⟩
theorem wt_L5 : (dec (wtL5.val (wtEnv xs))).length = (dec (wtL0.val (wtEnv xs))).length ∧ ∀ j, ThR ((dec (wtL0.val (wtEnv xs))).getD j []) ((dec (wtL5.val (wtEnv xs))).getD j []) := by
 have e : ∃ zs : List Int, wtL5.val (wtEnv xs) = (tlG (FT Lm5_Ttw) zs).getD 9 0 ∧ zs.getD 0 0 = xs.getD 3 0 ∧ zs.getD 7 0 = wtL0.val (wtEnv xs) ∧ zs.getD 8 0 = wtL4.val (wtEnv xs) := by
  unfold wtL5 wtEnv; rw [lap_at, ft55]
  refine ⟨_, rfl, ?_, ?_, ?_⟩ <;> simp only [vals_c, vals_n, List.getD_cons_succ, List.getD_cons_zero, lvar_at]
 obtain ⟨zs, e, h0, h7, h8⟩ := e
 have hn := (wt_L0 hl).1
 have hp : Pre tlL (FT Lm5_Ttw) zs := ⟨fun c hc => by
  have hc : c ∈ [(2, 7), (3, 8), (0, 0)] := hc
  simp only [List.mem_cons, List.not_mem_nil, or_false] at hc
  rcases hc with rfl | rfl | rfl
  ·rw [show zs.getD (2, 7).2 0 = zs.getD 7 0 from rfl, h7]; exact le_max (by omega)
  ·rw [show zs.getD (3, 8).2 0 = zs.getD 8 0 from rfl, h8, wt_L4 hl, List.length_replicate]; exact le_max (by omega)
  ·rw [show zs.getD (0, 0).2 0 = zs.getD 0 0 from rfl, h0]; exact hl.l3, fun c hc => by
  have hc : c ∈ [7] := hc
  simp only [List.mem_singleton] at hc; subst hc; rw [h7]; omega, fun c hc => (by cases hc)⟩
 obtain ⟨ys, h1, h2, h3⟩ := tl_val (FT Lm5_Ttw) zs hp
 rw [h7] at h2 h3
 rw [e, h1]; exact ⟨h2, h3⟩
theorem wt_L10 : (dec (wtL10.val (wtEnv xs))).length = (dec (wtL0.val (wtEnv xs))).length ∧ ∀ j, ThR ((dec (wtL7.val (wtEnv xs))).getD j []) ((dec (wtL10.val (wtEnv xs))).getD j []) := by
 have e : ∃ zs : List Int, wtL10.val (wtEnv xs) = (wlG (FT Lm5_Ttl) zs).getD 11 0 ∧ zs.getD 0 0 = xs.getD 3 0 ∧ zs.getD 7 0 = wtL0.val (wtEnv xs) ∧ zs.getD 8 0 = wtL9.val (wtEnv xs) ∧ zs.getD 9 0 = wtL8.val (wtEnv xs) ∧ zs.getD 10 0 = wtL7.val (wtEnv xs) := by
  unfold wtL10 wtEnv; rw [lap_at, ft56]
  refine ⟨_, rfl, ?_, ?_, ?_, ?_, ?_⟩ <;> simp only [vals_c, vals_n, List.getD_cons_succ, List.getD_cons_zero, lvar_at]
 obtain ⟨zs, e, h0, h7, h8, h9, h10⟩ := e
 have hn := (wt_L0 hl).1
 have hl7 : (dec (zs.getD 10 0)).length = (dec (wtL0.val (wtEnv xs))).length := by rw [h10, wt_L7 hl, List.length_map]
 have hp : Pre wlL (FT Lm5_Ttl) zs := ⟨fun c hc => by
  have hc : c ∈ [(2, 10), (3, 8), (4, 9), (0, 0)] := hc
  simp only [List.mem_cons, List.not_mem_nil, or_false] at hc
  rcases hc with rfl | rfl | rfl | rfl
  ·rw [show zs.getD (2, 10).2 0 = zs.getD 10 0 from rfl, hl7]; exact le_max (by omega)
  ·rw [show zs.getD (3, 8).2 0 = zs.getD 8 0 from rfl, h8]; exact le_max (by have := (wt_L9 hl).1; omega)
  ·rw [show zs.getD (4, 9).2 0 = zs.getD 9 0 from rfl, h9, wt_L8 hl, List.length_replicate]; exact le_max (by omega)
  ·rw [show zs.getD (0, 0).2 0 = zs.getD 0 0 from rfl, h0]; exact hl.l3, fun c hc => by
  have hc : c ∈ [10] := hc
  simp only [List.mem_singleton] at hc; subst hc; rw [hl7]; omega, fun c hc => by
  have hc : c ∈ [(SE.cmp .neq (.len (.lvar 7)) (.len (.lvar 10)), false)] := hc
  simp only [List.mem_singleton] at hc; subst hc
  have l7 := len_at (F := FT Lm5_Ttl) (lv := 7) (n := (dec (wtL0.val (wtEnv xs))).length) (xs := zs) (by rw [h7]) (le_max (by omega))
  have l10 := len_at (F := FT Lm5_Ttl) (lv := 10) (n := (dec (wtL0.val (wtEnv xs))).length) (xs := zs) hl7 (le_max (by omega))
  have v : ∀ a b : SE, ((SE.cmp .neq a b).val (envOf (FT Lm5_Ttl) zs) != 0) = (a.val (envOf (FT Lm5_Ttl) zs) != b.val (envOf (FT Lm5_Ttl) zs)) := fun a b => by simp only [SE.val, b2i_ne, valCmp]
  rw [v, l7, l10]; simp⟩
 obtain ⟨ys, h1, h2, h3⟩ := wl_val (FT Lm5_Ttl) zs hp
 rw [h7] at h2
 rw [h10] at h3
 rw [e, h1]; exact ⟨h2, h3⟩
theorem wt_L6 : (dec (wtL6.val (wtEnv xs))).length ≤ 2 := by
 have e : wtL6.val (wtEnv xs) = (raG (FT Lm5_Twl) [xs.getD 2 0]).getD 1 0 := by
  unfold wtL6 wtEnv; rw [lap_at, ft57]; simp only [vals_c, vals_n, lvar_at]
 have hp : Pre raL (FT Lm5_Twl) [xs.getD 2 0] := ⟨fun c hc => by
  have hc : c ∈ [(0, 0)] := hc
  simp only [List.mem_singleton] at hc; subst hc; exact hl.l2, fun c hc => (by cases hc), fun c hc => (by cases hc)⟩
 obtain ⟨ys, h1, h2, h3⟩ := ra_val (FT Lm5_Twl) [xs.getD 2 0] hp
 rw [e, h1]; exact h2
end
end Go.Proofs.Ytedfbamihjnhhaa.Own
end
