/- Contracts of loops that go through lists: found by program, checked by the kernel. -/
import Derived.Test.YtedfbamihjnhhaaLm5
import Derived.Test.YtedfbamihjnhhaaFvJ
namespace Go.Proofs.Ytedfbamihjnhhaa.Own
open Go Go.RowKit Go.Proofs
set_option linter.unusedVariables false
set_option maxRecDepth 100000
def ib2S : List (Nat × V) := [(0, (.one (.sli 0 (.lvar 0)))), (1, (.one (.fn 44 []))), (4, (.one (.int .i64 0))), (8, (.one (.opq (.ivar .i64 2)))), (7, (.one (.opq (.len (.lvar 0))))), (6, (.any 6))]
def ib2M : MB := []
def ib2F : MB := [(0, [(.big (.lvar 1) [some .i64, some .u64, some .i64, some .u64, some .i64, some .u64, some .i64, some .u64, some .i64, some .u64, some .i64, some .u64, some .i64, some .u64, some .i64, some .u64, some .i64, some .u64, some .i64, some .i64])], 53, false)]
def ib2T : RT := (.ask (.cmp .lss (.ivar .i64 2) (.len (.lvar 0))) (.know (.cmp .geq (.ivar .i64 2) (.lit .i64 0)) true (.know (.cmp .lss (.ivar .i64 2) (.len (.lvar 1))) true (.ask (.app 44 0 none (.cons (.el (some .i64) (.lvar 1) (.ivar .i64 2) 0) (.cons (.el (some .u64) (.lvar 1) (.ivar .i64 2) 1) (.cons (.el (some .i64) (.lvar 1) (.ivar .i64 2) 2) (.cons (.el (some .u64) (.lvar 1) (.ivar .i64 2) 3) (.cons (.el (some .i64) (.lvar 1) (.ivar .i64 2) 4) (.cons (.el (some .u64) (.lvar 1) (.ivar .i64 2) 5) (.cons (.el (some .i64) (.lvar 1) (.ivar .i64 2) 6) (.cons (.el (some .u64) (.lvar 1) (.ivar .i64 2) 7) (.cons (.el (some .i64) (.lvar 1) (.ivar .i64 2) 8) (.cons (.el (some .u64) (.lvar 1) (.ivar .i64 2) 9) (.cons (.el (some .i64) (.lvar 1) (.ivar .i64 2) 10) (.cons (.el (some .u64) (.lvar 1) (.ivar .i64 2) 11) (.cons (.el (some .i64) (.lvar 1) (.ivar .i64 2) 12) (.cons (.el (some .u64) (.lvar 1) (.ivar .i64 2) 13) (.cons (.el (some .i64) (.lvar 1) (.ivar .i64 2) 14) (.cons (.el (some .u64) (.lvar 1) (.ivar .i64 2) 15) (.cons (.el (some .i64) (.lvar 1) (.ivar .i64 2) 16) (.cons (.el (some .u64) (.lvar 1) (.ivar .i64 2) 17) (.cons (.el (some .i64) (.lvar 1) (.ivar .i64 2) 18) (.cons (.el (some .i64) (.lvar 1) (.ivar .i64 2) 19) .nil))))))))))))))))))))) (.out 0 [(.ivar .i64 2)])
  (.next [(.lvar 0), (.lvar 1), (.bin .add .i64 (.ivar .i64 2) (.lit .i64 1))]))))
  (.out 1 [(.lvar 0)]))
def ib2L : LEnt := { f := 79, id := 2, num := 20061, nx := 1, S := [(0, (.one (.sli 0 (.lvar 0)))), (1, (.one (.fn 44 []))), (4, (.one (.int .i64 0))), (8, (.one (.int .i64 0))), (7, (.one (.opq (.len (.lvar 0))))), (6, (.any 6))], M := [], F := ib2F, kk := [0], outs := [{ x := .ret, S := [(4, (.one (.opq (.ivar .i64 0))))], M := [], cv := [] }, { x := (.exit 0), S := [(0, (.one (.sli 0 (.lvar 0)))), (4, (.one (.int .i64 0))), (6, (.any 6))], M := [], cv := [(0, 0, none)] }], lv := [(0, 1)], sm := [1], pre := [(.cmp .neq (.len (.lvar 0)) (.len (.lvar 1)), false)] }
def ib2I : List SE := [(.lvar 0), (.lvar 1), (.lit .i64 0)]
def ib2C : List (Nat × Nat × Option (Option IntKind)) := [(0, 0, none), (1, 1, none)]
def ib2n : Nat := 19
def ib2E : List (SE × Bool) := [(.cmp .lss (.ivar .i64 2) (.len (.lvar 1)), true)]
def ib2J (xs : List Int) : Prop := (dec (xs.getD 0 0)).length ≤ 1000000 ∧ (dec (xs.getD 1 0)).length = (dec (xs.getD 0 0)).length
noncomputable def ib2U (xs : List Int) : Nat := (dec (xs.getD 0 0)).length + 1
noncomputable def ib2G : (Nat → List Int → List Int) → List Int → List Int := lpFn ib2I (fun _ => ib2T) ib2U
theorem ib2_keep (F : Nat → List Int → List Int) : ∀ xs ys, ib2J xs → ib2T.get (envOf F xs) = (none, ys) → ib2J ys := fun xs ys h hy => by
 have hB := (cB_get (hc := ib2C) (outs := ib2L.outs) (F := F) (xs := xs) (t := ib2T) (by kernel_rfl)).1 ys hy
 have h0 : ys.getD 0 0 = xs.getD 0 0 := hB (0, 0, none) (by simp [ib2C])
 have h1 : ys.getD 1 0 = xs.getD 1 0 := hB (1, 1, none) (by simp [ib2C])
 unfold ib2J; rw [h0, h1]; exact h
theorem ib2_facts (F : Nat → List Int → List Int) : ∀ (xs : List Int) (i : Nat), ib2J xs → xs.getD 2 0 = ((i : Nat) : Int) → (dec (xs.getD 0 0)).length ≤ maxLen → i < (dec (xs.getD 0 0)).length → ∀ q ∈ ib2E, (q.1.val (envOf F xs) != 0) = q.2 := fun xs i hJ hc hl hi q hq => by
 have hJ : (dec (xs.getD 0 0)).length ≤ 1000000 ∧ (dec (xs.getD 1 0)).length = (dec (xs.getD 0 0)).length := hJ
 have i0 := iv_at (F := F) hc (by omega)
 simp only [ib2E, List.mem_cons, List.not_mem_nil, or_false] at hq
 subst hq
 exact (lss_at i0 (len_at (F := F) (lv := 1) (xs := xs) rfl (by unfold maxLen; omega))).trans (decide_eq_true (by omega))
theorem ib2_start (F : Nat → List Int → List Int) (xs : List Int) (hp : Pre ib2L F xs) : ib2J (ib2I.map (SE.val (envOf F xs))) := by
 have hs : (dec (xs.getD 1 0)).length ≤ 1000000 := hp.sm 1 (by decide)
 have p0 := hp.pre ((SE.cmp .neq (.len (.lvar 0)) (.len (.lvar 1))), false) (by show _ ∈ [((SE.cmp .neq (.len (.lvar 0)) (.len (.lvar 1))), false)]; simp)
 have l0 := len_sat (F := F) (lv := 0) (xs := xs)
 have l1 := len_sat (F := F) (lv := 1) (xs := xs)
 simp only [SE.val, b2i_ne, valCmp] at p0 l0 l1
 rw [l0, l1] at p0
 have p0 := bne_eq_false_iff_eq.1 p0
 have hsat : ∀ n : Nat, n ≤ 1000000 → sat n = n := fun n hn => sat_of (by unfold maxLen; omega)
 have e1 := hsat _ hs
 have q0 : (dec (xs.getD 0 0)).length = (dec (xs.getD 1 0)).length := sat_sm6 (by omega) hs
 unfold ib2J
 rw [at_lvar (I := ib2I) (c := 0) (j0 := 0) (by kernel_rfl), at_lvar (I := ib2I) (c := 1) (j0 := 1) (by kernel_rfl)]
 exact ⟨by omega, q0.symm⟩
theorem ib2_run (F : Nat → List Int → List Int) (xs : List Int) (hp : Pre ib2L F xs) : RunOK (fun _ => ib2T) F 0 (ib2U xs) (ib2I.map (SE.val (envOf F xs))) := by
 have hJ := ib2_start F xs hp
 have hl : (dec ((ib2I.map (SE.val (envOf F xs))).getD 0 0)).length ≤ maxLen := by have := hJ.1; unfold maxLen; omega
 exact range_ok (T := ib2T) (c := 2) (lv := 0) (ex := ib2E) (by kernel_rfl) ib2J (ib2_keep F) (ib2_facts F) _ 0 0 _ (at_lit (I := ib2I) (by kernel_rfl)) (by rw [at_lvar (I := ib2I) (j0 := 0) (by kernel_rfl)]; unfold ib2U; omega) (Nat.succ_pos _) hl hJ
set_option maxHeartbeats 4000000 in
theorem ib2_chk : checkR (bW.loops Lm5_L) Lm5_T 300 ib2L.f ib2n (bodyOf Try.prog ib2L.f ib2L.id) ib2S ib2M ib2L.F ib2L.nx ib2S ib2L.outs ib2L.kk ib2T [] = true := by kernel_rfl
theorem ib2_ok : LCT Try.prog ib2L (FT Lm5_T) (ib2G (FT Lm5_T)) :=
 lct_of (b := bW.loops Lm5_L) (Tb := Lm5_T) (y := ib2L) (M := ib2M) (T := fun _ => ib2T) (S := fun _ => ib2S) (init := ib2I) (loops_ok bW_ok _) (lb_of Lm5_lb) Lm5_ok (d := 300) (n := ib2n) (by kernel_rfl) (by kernel_rfl) (by kernel_rfl) (by kernel_rfl) (fun _ _ _ => ib2_chk) (fun xs hp => ib2_run _ xs hp)
theorem ib2_cst (F : Nat → List Int → List Int) : Cst ib2L (ib2G F) := cst_of ib2C (by kernel_rfl) (fun _ _ _ => by kernel_rfl)
noncomputable def Lm6_Tib2 : List Ent := ⟨20061, [], .tup [], ib2G, true⟩ :: Lm5_T
def Lm6_Lib2 : List LEnt := ib2L :: Lm5_L
theorem Lm6_okib2 : TbOK Try.prog Lm6_Tib2 := tb_loop Lm5_ok rfl (by kernel_rfl)
theorem Lm6_lbib2 : LBs Try.prog Lm6_Lib2 Lm6_Tib2 := lbs_loop (y := ib2L) Lm5_lb (by kernel_rfl) (by kernel_rfl) (by kernel_rfl) ib2_ok (ib2_cst _)
def eb2S : List (Nat × V) := [(0, (.one (.sli 0 (.lvar 0)))), (1, (.one (.sli 1 (.lvar 1)))), (4, (.one (.bool false))), (13, (.one (.opq (.ivar .i64 4)))), (12, (.one (.opq (.len (.lvar 0))))), (6, (.any 6)), (7, (.any 7)), (8, (.any 8)), (9, (.any 9)), (10, (.any 10)), (11, (.any 11))]
def eb2M : MB := []
def eb2F : MB := [(0, [(.big (.lvar 2) [some .i64, some .u64, some .i64, some .u64, some .i64, some .u64, some .i64, some .u64, some .i64, some .u64, some .i64, some .u64, some .i64, some .u64, some .i64, some .u64, some .i64, some .u64, some .i64, some .i64])], 53, false), (1, [(.big (.lvar 3) [some .i64, some .u64, some .i64, some .u64, some .i64, some .u64, some .i64, some .u64, some .i64, some .u64, some .i64, some .u64, some .i64, some .u64, some .i64, some .u64, some .i64, some .u64, some .i64, some .i64])], 53, false)]
def eb2T : RT := (.ask (.cmp .lss (.ivar .i64 4) (.len (.lvar 0))) (.know (.cmp .geq (.ivar .i64 4) (.lit .i64 0)) true (.know (.cmp .lss (.ivar .i64 4) (.len (.lvar 2))) true (.know (.cmp .lss (.ivar .i64 4) (.len (.lvar 1))) true (.know (.cmp .lss (.ivar .i64 4) (.len (.lvar 3))) true (.ask (.not (.and (.and (.cmp .eql (.el (some .i64) (.lvar 2) (.ivar .i64 4) 0) (.el (some .i64) (.lvar 3) (.ivar .i64 4) 0)) (.and (.cmp .eql (.el (some .u64) (.lvar 2) (.ivar .i64 4) 1) (.el (some .u64) (.lvar 3) (.ivar .i64 4) 1)) (.cmp .eql (.lit .i64 1) (.lit .i64 1)))) (.and (.and (.cmp .eql (.el (some .i64) (.lvar 2) (.ivar .i64 4) 2) (.el (some .i64) (.lvar 3) (.ivar .i64 4) 2)) (.and (.cmp .eql (.el (some .u64) (.lvar 2) (.ivar .i64 4) 3) (.el (some .u64) (.lvar 3) (.ivar .i64 4) 3)) (.cmp .eql (.lit .i64 1) (.lit .i64 1)))) (.and (.and (.and (.cmp .eql (.el (some .i64) (.lvar 2) (.ivar .i64 4) 4) (.el (some .i64) (.lvar 3) (.ivar .i64 4) 4)) (.and (.cmp .eql (.el (some .u64) (.lvar 2) (.ivar .i64 4) 5) (.el (some .u64) (.lvar 3) (.ivar .i64 4) 5)) (.cmp .eql (.lit .i64 1) (.lit .i64 1)))) (.and (.and (.cmp .eql (.el (some .i64) (.lvar 2) (.ivar .i64 4) 6) (.el (some .i64) (.lvar 3) (.ivar .i64 4) 6)) (.and (.cmp .eql (.el (some .u64) (.lvar 2) (.ivar .i64 4) 7) (.el (some .u64) (.lvar 3) (.ivar .i64 4) 7)) (.cmp .eql (.lit .i64 1) (.lit .i64 1)))) (.cmp .eql (.lit .i64 1) (.lit .i64 1)))) (.and (.and (.and (.cmp .eql (.el (some .i64) (.lvar 2) (.ivar .i64 4) 8) (.el (some .i64) (.lvar 3) (.ivar .i64 4) 8)) (.and (.cmp .eql (.el (some .u64) (.lvar 2) (.ivar .i64 4) 9) (.el (some .u64) (.lvar 3) (.ivar .i64 4) 9)) (.cmp .eql (.lit .i64 1) (.lit .i64 1)))) (.and (.and (.cmp .eql (.el (some .i64) (.lvar 2) (.ivar .i64 4) 10) (.el (some .i64) (.lvar 3) (.ivar .i64 4) 10)) (.and (.cmp .eql (.el (some .u64) (.lvar 2) (.ivar .i64 4) 11) (.el (some .u64) (.lvar 3) (.ivar .i64 4) 11)) (.cmp .eql (.lit .i64 1) (.lit .i64 1)))) (.cmp .eql (.lit .i64 1) (.lit .i64 1)))) (.and (.and (.cmp .eql (.el (some .i64) (.lvar 2) (.ivar .i64 4) 12) (.el (some .i64) (.lvar 3) (.ivar .i64 4) 12)) (.and (.cmp .eql (.el (some .u64) (.lvar 2) (.ivar .i64 4) 13) (.el (some .u64) (.lvar 3) (.ivar .i64 4) 13)) (.cmp .eql (.lit .i64 1) (.lit .i64 1)))) (.and (.and (.cmp .eql (.el (some .i64) (.lvar 2) (.ivar .i64 4) 14) (.el (some .i64) (.lvar 3) (.ivar .i64 4) 14)) (.and (.cmp .eql (.el (some .u64) (.lvar 2) (.ivar .i64 4) 15) (.el (some .u64) (.lvar 3) (.ivar .i64 4) 15)) (.cmp .eql (.lit .i64 1) (.lit .i64 1)))) (.and (.and (.cmp .eql (.el (some .i64) (.lvar 2) (.ivar .i64 4) 16) (.el (some .i64) (.lvar 3) (.ivar .i64 4) 16)) (.and (.cmp .eql (.el (some .u64) (.lvar 2) (.ivar .i64 4) 17) (.el (some .u64) (.lvar 3) (.ivar .i64 4) 17)) (.cmp .eql (.lit .i64 1) (.lit .i64 1)))) (.and (.cmp .eql (.el (some .i64) (.lvar 2) (.ivar .i64 4) 18) (.el (some .i64) (.lvar 3) (.ivar .i64 4) 18)) (.and (.cmp .eql (.el (some .i64) (.lvar 2) (.ivar .i64 4) 19) (.el (some .i64) (.lvar 3) (.ivar .i64 4) 19)) (.cmp .eql (.lit .i64 1) (.lit .i64 1)))))))))))) (.out 0 [])
  (.next [(.lvar 0), (.lvar 1), (.lvar 2), (.lvar 3), (.bin .add .i64 (.ivar .i64 4) (.lit .i64 1))]))))))
  (.out 1 [(.lvar 0), (.lvar 1)]))
def eb2L : LEnt := { f := 57, id := 4, num := 20062, nx := 2, S := [(0, (.one (.sli 0 (.lvar 0)))), (1, (.one (.sli 1 (.lvar 1)))), (4, (.one (.bool false))), (13, (.one (.int .i64 0))), (12, (.one (.opq (.len (.lvar 0))))), (6, (.any 6)), (7, (.any 7)), (8, (.any 8)), (9, (.any 9)), (10, (.any 10)), (11, (.any 11))], M := [], F := eb2F, kk := [0, 1], outs := [{ x := .ret, S := [(4, (.one (.bool false)))], M := [], cv := [] }, { x := (.exit 0), S := [(0, (.one (.sli 0 (.lvar 0)))), (1, (.one (.sli 1 (.lvar 1)))), (4, (.one (.bool false))), (6, (.any 6)), (7, (.any 7)), (8, (.any 8)), (9, (.any 9)), (10, (.any 10)), (11, (.any 11))], M := [], cv := [(0, 0, none), (1, 1, none)] }], lv := [(0, 2), (1, 3)], sm := [2], pre := [(.cmp .neq (.len (.lvar 0)) (.len (.lvar 1)), false), (.cmp .neq (.len (.lvar 0)) (.len (.lvar 2)), false), (.cmp .neq (.len (.lvar 1)) (.len (.lvar 3)), false)] }
def eb2I : List SE := [(.lvar 0), (.lvar 1), (.lvar 2), (.lvar 3), (.lit .i64 0)]
def eb2C : List (Nat × Nat × Option (Option IntKind)) := [(0, 0, none), (1, 1, none), (2, 2, none), (3, 3, none)]
def eb2n : Nat := 26
def eb2E : List (SE × Bool) := [(.cmp .lss (.ivar .i64 4) (.len (.lvar 2)), true), (.cmp .lss (.ivar .i64 4) (.len (.lvar 1)), true), (.cmp .lss (.ivar .i64 4) (.len (.lvar 3)), true)]
def eb2J (xs : List Int) : Prop := (dec (xs.getD 0 0)).length ≤ 1000000 ∧ (dec (xs.getD 2 0)).length = (dec (xs.getD 0 0)).length ∧ (dec (xs.getD 1 0)).length = (dec (xs.getD 0 0)).length ∧ (dec (xs.getD 3 0)).length = (dec (xs.getD 0 0)).length
noncomputable def eb2U (xs : List Int) : Nat := (dec (xs.getD 0 0)).length + 1
noncomputable def eb2G : (Nat → List Int → List Int) → List Int → List Int := lpFn eb2I (fun _ => eb2T) eb2U
theorem eb2_keep (F : Nat → List Int → List Int) : ∀ xs ys, eb2J xs → eb2T.get (envOf F xs) = (none, ys) → eb2J ys := fun xs ys h hy => by
 have hB := (cB_get (hc := eb2C) (outs := eb2L.outs) (F := F) (xs := xs) (t := eb2T) (by kernel_rfl)).1 ys hy
 have h0 : ys.getD 0 0 = xs.getD 0 0 := hB (0, 0, none) (by simp [eb2C])
 have h2 : ys.getD 2 0 = xs.getD 2 0 := hB (2, 2, none) (by simp [eb2C])
 have h1 : ys.getD 1 0 = xs.getD 1 0 := hB (1, 1, none) (by simp [eb2C])
 have h3 : ys.getD 3 0 = xs.getD 3 0 := hB (3, 3, none) (by simp [eb2C])
 unfold eb2J; rw [h0, h2, h1, h3]; exact h
theorem eb2_facts (F : Nat → List Int → List Int) : ∀ (xs : List Int) (i : Nat), eb2J xs → xs.getD 4 0 = ((i : Nat) : Int) → (dec (xs.getD 0 0)).length ≤ maxLen → i < (dec (xs.getD 0 0)).length → ∀ q ∈ eb2E, (q.1.val (envOf F xs) != 0) = q.2 := fun xs i hJ hc hl hi q hq => by
 have hJ : (dec (xs.getD 0 0)).length ≤ 1000000 ∧ (dec (xs.getD 2 0)).length = (dec (xs.getD 0 0)).length ∧ (dec (xs.getD 1 0)).length = (dec (xs.getD 0 0)).length ∧ (dec (xs.getD 3 0)).length = (dec (xs.getD 0 0)).length := hJ
 have i0 := iv_at (F := F) hc (by omega)
 simp only [eb2E, List.mem_cons, List.not_mem_nil, or_false] at hq
 rcases hq with rfl | rfl | rfl
 ·exact (lss_at i0 (len_at (F := F) (lv := 2) (xs := xs) rfl (by unfold maxLen; omega))).trans (decide_eq_true (by omega))
 ·exact (lss_at i0 (len_at (F := F) (lv := 1) (xs := xs) rfl (by unfold maxLen; omega))).trans (decide_eq_true (by omega))
 ·exact (lss_at i0 (len_at (F := F) (lv := 3) (xs := xs) rfl (by unfold maxLen; omega))).trans (decide_eq_true (by omega))
theorem eb2_start (F : Nat → List Int → List Int) (xs : List Int) (hp : Pre eb2L F xs) : eb2J (eb2I.map (SE.val (envOf F xs))) := by
 have hs : (dec (xs.getD 2 0)).length ≤ 1000000 := hp.sm 2 (by decide)
 have p0 := hp.pre ((SE.cmp .neq (.len (.lvar 0)) (.len (.lvar 1))), false) (by show _ ∈ [((SE.cmp .neq (.len (.lvar 0)) (.len (.lvar 1))), false), ((SE.cmp .neq (.len (.lvar 0)) (.len (.lvar 2))), false), ((SE.cmp .neq (.len (.lvar 1)) (.len (.lvar 3))), false)]; simp)
 have p1 := hp.pre ((SE.cmp .neq (.len (.lvar 0)) (.len (.lvar 2))), false) (by show _ ∈ [((SE.cmp .neq (.len (.lvar 0)) (.len (.lvar 1))), false), ((SE.cmp .neq (.len (.lvar 0)) (.len (.lvar 2))), false), ((SE.cmp .neq (.len (.lvar 1)) (.len (.lvar 3))), false)]; simp)
 have p2 := hp.pre ((SE.cmp .neq (.len (.lvar 1)) (.len (.lvar 3))), false) (by show _ ∈ [((SE.cmp .neq (.len (.lvar 0)) (.len (.lvar 1))), false), ((SE.cmp .neq (.len (.lvar 0)) (.len (.lvar 2))), false), ((SE.cmp .neq (.len (.lvar 1)) (.len (.lvar 3))), false)]; simp)
 have l0 := len_sat (F := F) (lv := 0) (xs := xs)
 have l1 := len_sat (F := F) (lv := 1) (xs := xs)
 have l2 := len_sat (F := F) (lv := 2) (xs := xs)
 have l3 := len_sat (F := F) (lv := 3) (xs := xs)
 simp only [SE.val, b2i_ne, valCmp] at p0 p1 p2 l0 l1 l2 l3
 rw [l0, l1] at p0
 have p0 := bne_eq_false_iff_eq.1 p0
 rw [l0, l2] at p1
 have p1 := bne_eq_false_iff_eq.1 p1
 rw [l1, l3] at p2
 have p2 := bne_eq_false_iff_eq.1 p2
 have hsat : ∀ n : Nat, n ≤ 1000000 → sat n = n := fun n hn => sat_of (by unfold maxLen; omega)
 have e2 := hsat _ hs
 have q0 : (dec (xs.getD 0 0)).length = (dec (xs.getD 2 0)).length := sat_sm6 (by omega) hs
 have q1 : (dec (xs.getD 1 0)).length = (dec (xs.getD 2 0)).length := sat_sm6 (by omega) hs
 have q3 : (dec (xs.getD 3 0)).length = (dec (xs.getD 2 0)).length := sat_sm6 (by omega) hs
 unfold eb2J
 rw [at_lvar (I := eb2I) (c := 0) (j0 := 0) (by kernel_rfl), at_lvar (I := eb2I) (c := 2) (j0 := 2) (by kernel_rfl), at_lvar (I := eb2I) (c := 1) (j0 := 1) (by kernel_rfl), at_lvar (I := eb2I) (c := 3) (j0 := 3) (by kernel_rfl)]
 exact ⟨by omega, by omega, by omega, by omega⟩
theorem eb2_run (F : Nat → List Int → List Int) (xs : List Int) (hp : Pre eb2L F xs) : RunOK (fun _ => eb2T) F 0 (eb2U xs) (eb2I.map (SE.val (envOf F xs))) := by
 have hJ := eb2_start F xs hp
 have hl : (dec ((eb2I.map (SE.val (envOf F xs))).getD 0 0)).length ≤ maxLen := by have := hJ.1; unfold maxLen; omega
 exact range_ok (T := eb2T) (c := 4) (lv := 0) (ex := eb2E) (by kernel_rfl) eb2J (eb2_keep F) (eb2_facts F) _ 0 0 _ (at_lit (I := eb2I) (by kernel_rfl)) (by rw [at_lvar (I := eb2I) (j0 := 0) (by kernel_rfl)]; unfold eb2U; omega) (Nat.succ_pos _) hl hJ
set_option maxHeartbeats 4000000 in
theorem eb2_chk : checkR (bW.loops Lm6_Lib2) Lm6_Tib2 300 eb2L.f eb2n (bodyOf Try.prog eb2L.f eb2L.id) eb2S eb2M eb2L.F eb2L.nx eb2S eb2L.outs eb2L.kk eb2T [] = true := by kernel_rfl
theorem eb2_ok : LCT Try.prog eb2L (FT Lm6_Tib2) (eb2G (FT Lm6_Tib2)) :=
 lct_of (b := bW.loops Lm6_Lib2) (Tb := Lm6_Tib2) (y := eb2L) (M := eb2M) (T := fun _ => eb2T) (S := fun _ => eb2S) (init := eb2I) (loops_ok bW_ok _) (lb_of Lm6_lbib2) Lm6_okib2 (d := 300) (n := eb2n) (by kernel_rfl) (by kernel_rfl) (by kernel_rfl) (by kernel_rfl) (fun _ _ _ => eb2_chk) (fun xs hp => eb2_run _ xs hp)
theorem eb2_cst (F : Nat → List Int → List Int) : Cst eb2L (eb2G F) := cst_of eb2C (by kernel_rfl) (fun _ _ _ => by kernel_rfl)
noncomputable def Lm6_Teb2 : List Ent := ⟨20062, [], .tup [], eb2G, true⟩ :: Lm6_Tib2
def Lm6_Leb2 : List LEnt := eb2L :: Lm6_Lib2
theorem Lm6_okeb2 : TbOK Try.prog Lm6_Teb2 := tb_loop Lm6_okib2 rfl (by kernel_rfl)
theorem Lm6_lbeb2 : LBs Try.prog Lm6_Leb2 Lm6_Teb2 := lbs_loop (y := eb2L) Lm6_lbib2 (by kernel_rfl) (by kernel_rfl) (by kernel_rfl) eb2_ok (eb2_cst _)
noncomputable def Lm6_T : List Ent := Lm6_Teb2
def Lm6_L : List LEnt := Lm6_Leb2
theorem Lm6_ok : TbOK Try.prog Lm6_T := Lm6_okeb2
theorem Lm6_lb : LBs Try.prog Lm6_L Lm6_T := Lm6_lbeb2
end Go.Proofs.Ytedfbamihjnhhaa.Own
