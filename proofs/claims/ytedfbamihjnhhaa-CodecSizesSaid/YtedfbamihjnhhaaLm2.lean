/- Contracts of loops that go through lists: found by program, checked by the kernel. -/
import Derived.Test.YtedfbamihjnhhaaLm1
namespace Go.Proofs.Ytedfbamihjnhhaa.Own
open Go Go.RowKit Go.Proofs
set_option linter.unusedVariables false
set_option maxRecDepth 100000
def ebS : List (Nat × V) := [(0, (.one (.sli 0 (.lvar 0)))), (1, (.one (.sli 1 (.lvar 1)))), (4, (.one (.bool false))), (13, (.one (.opq (.ivar .i64 2)))), (12, (.one (.opq (.len (.lvar 0))))), (6, (.any 6)), (7, (.any 7)), (8, (.any 8)), (9, (.any 9)), (10, (.any 10)), (11, (.any 11))]
def ebM : MB := []
def ebF : MB := [(0, [(.big (.lvar 0) [some .i64, some .u64, some .i64, some .u64, some .i64, some .u64, some .i64, some .u64, some .i64, some .u64, some .i64, some .u64, some .i64, some .u64, some .i64, some .u64, some .i64, some .u64, some .i64, some .i64])], 53, false), (1, [(.big (.lvar 1) [some .i64, some .u64, some .i64, some .u64, some .i64, some .u64, some .i64, some .u64, some .i64, some .u64, some .i64, some .u64, some .i64, some .u64, some .i64, some .u64, some .i64, some .u64, some .i64, some .i64])], 53, false)]
def ebT : RT := (.ask (.cmp .lss (.ivar .i64 2) (.len (.lvar 0))) (.know (.cmp .geq (.ivar .i64 2) (.lit .i64 0)) true (.know (.cmp .lss (.ivar .i64 2) (.len (.lvar 1))) true (.ask (.not (.and (.and (.cmp .eql (.el (some .i64) (.lvar 0) (.ivar .i64 2) 0) (.el (some .i64) (.lvar 1) (.ivar .i64 2) 0)) (.and (.cmp .eql (.el (some .u64) (.lvar 0) (.ivar .i64 2) 1) (.el (some .u64) (.lvar 1) (.ivar .i64 2) 1)) (.cmp .eql (.lit .i64 1) (.lit .i64 1)))) (.and (.and (.cmp .eql (.el (some .i64) (.lvar 0) (.ivar .i64 2) 2) (.el (some .i64) (.lvar 1) (.ivar .i64 2) 2)) (.and (.cmp .eql (.el (some .u64) (.lvar 0) (.ivar .i64 2) 3) (.el (some .u64) (.lvar 1) (.ivar .i64 2) 3)) (.cmp .eql (.lit .i64 1) (.lit .i64 1)))) (.and (.and (.and (.cmp .eql (.el (some .i64) (.lvar 0) (.ivar .i64 2) 4) (.el (some .i64) (.lvar 1) (.ivar .i64 2) 4)) (.and (.cmp .eql (.el (some .u64) (.lvar 0) (.ivar .i64 2) 5) (.el (some .u64) (.lvar 1) (.ivar .i64 2) 5)) (.cmp .eql (.lit .i64 1) (.lit .i64 1)))) (.and (.and (.cmp .eql (.el (some .i64) (.lvar 0) (.ivar .i64 2) 6) (.el (some .i64) (.lvar 1) (.ivar .i64 2) 6)) (.and (.cmp .eql (.el (some .u64) (.lvar 0) (.ivar .i64 2) 7) (.el (some .u64) (.lvar 1) (.ivar .i64 2) 7)) (.cmp .eql (.lit .i64 1) (.lit .i64 1)))) (.cmp .eql (.lit .i64 1) (.lit .i64 1)))) (.and (.and (.and (.cmp .eql (.el (some .i64) (.lvar 0) (.ivar .i64 2) 8) (.el (some .i64) (.lvar 1) (.ivar .i64 2) 8)) (.and (.cmp .eql (.el (some .u64) (.lvar 0) (.ivar .i64 2) 9) (.el (some .u64) (.lvar 1) (.ivar .i64 2) 9)) (.cmp .eql (.lit .i64 1) (.lit .i64 1)))) (.and (.and (.cmp .eql (.el (some .i64) (.lvar 0) (.ivar .i64 2) 10) (.el (some .i64) (.lvar 1) (.ivar .i64 2) 10)) (.and (.cmp .eql (.el (some .u64) (.lvar 0) (.ivar .i64 2) 11) (.el (some .u64) (.lvar 1) (.ivar .i64 2) 11)) (.cmp .eql (.lit .i64 1) (.lit .i64 1)))) (.cmp .eql (.lit .i64 1) (.lit .i64 1)))) (.and (.and (.cmp .eql (.el (some .i64) (.lvar 0) (.ivar .i64 2) 12) (.el (some .i64) (.lvar 1) (.ivar .i64 2) 12)) (.and (.cmp .eql (.el (some .u64) (.lvar 0) (.ivar .i64 2) 13) (.el (some .u64) (.lvar 1) (.ivar .i64 2) 13)) (.cmp .eql (.lit .i64 1) (.lit .i64 1)))) (.and (.and (.cmp .eql (.el (some .i64) (.lvar 0) (.ivar .i64 2) 14) (.el (some .i64) (.lvar 1) (.ivar .i64 2) 14)) (.and (.cmp .eql (.el (some .u64) (.lvar 0) (.ivar .i64 2) 15) (.el (some .u64) (.lvar 1) (.ivar .i64 2) 15)) (.cmp .eql (.lit .i64 1) (.lit .i64 1)))) (.and (.and (.cmp .eql (.el (some .i64) (.lvar 0) (.ivar .i64 2) 16) (.el (some .i64) (.lvar 1) (.ivar .i64 2) 16)) (.and (.cmp .eql (.el (some .u64) (.lvar 0) (.ivar .i64 2) 17) (.el (some .u64) (.lvar 1) (.ivar .i64 2) 17)) (.cmp .eql (.lit .i64 1) (.lit .i64 1)))) (.and (.cmp .eql (.el (some .i64) (.lvar 0) (.ivar .i64 2) 18) (.el (some .i64) (.lvar 1) (.ivar .i64 2) 18)) (.and (.cmp .eql (.el (some .i64) (.lvar 0) (.ivar .i64 2) 19) (.el (some .i64) (.lvar 1) (.ivar .i64 2) 19)) (.cmp .eql (.lit .i64 1) (.lit .i64 1)))))))))))) (.out 0 [])
  (.next [(.lvar 0), (.lvar 1), (.bin .add .i64 (.ivar .i64 2) (.lit .i64 1))]))))
  (.out 1 [(.lvar 0), (.lvar 1)]))
def ebL : LEnt := { f := 57, id := 4, num := 20041, nx := 2, S := [(0, (.one (.sli 0 (.lvar 0)))), (1, (.one (.sli 1 (.lvar 1)))), (4, (.one (.bool false))), (13, (.one (.int .i64 0))), (12, (.one (.opq (.len (.lvar 0))))), (6, (.any 6)), (7, (.any 7)), (8, (.any 8)), (9, (.any 9)), (10, (.any 10)), (11, (.any 11))], M := [], F := ebF, kk := [0, 1], outs := [{ x := .ret, S := [(4, (.one (.bool false)))], M := [], cv := [] }, { x := (.exit 0), S := [(0, (.one (.sli 0 (.lvar 0)))), (1, (.one (.sli 1 (.lvar 1)))), (4, (.one (.bool false))), (6, (.any 6)), (7, (.any 7)), (8, (.any 8)), (9, (.any 9)), (10, (.any 10)), (11, (.any 11))], M := [], cv := [(0, 0, none), (1, 1, none)] }], lv := [(0, 0), (1, 1)], sm := [], pre := [(.cmp .neq (.len (.lvar 0)) (.len (.lvar 1)), false)] }
def ebI : List SE := [(.lvar 0), (.lvar 1), (.lit .i64 0)]
def ebC : List (Nat × Nat × Option (Option IntKind)) := [(0, 0, none), (1, 1, none)]
def ebn : Nat := 26
noncomputable def ebU (xs : List Int) : Nat := (dec (xs.getD 0 0)).length + 1
noncomputable def ebG : (Nat → List Int → List Int) → List Int → List Int := lpFn ebI (fun _ => ebT) ebU
def ebE : List (SE × Bool) := [(.cmp .lss (.ivar .i64 2) (.len (.lvar 1)), true)]
def ebJ (xs : List Int) : Prop := (dec (xs.getD 1 0)).length = (dec (xs.getD 0 0)).length
theorem eb_keep (F : Nat → List Int → List Int) : ∀ xs ys, ebJ xs → ebT.get (envOf F xs) = (none, ys) → ebJ ys := fun xs ys h hy => by
 have hB := (cB_get (hc := ebC) (outs := ebL.outs) (F := F) (xs := xs) (t := ebT) (by kernel_rfl)).1 ys hy
 have h1 : ys.getD 0 0 = xs.getD 0 0 := hB (0, 0, none) (by simp [ebC])
 have h2 : ys.getD 1 0 = xs.getD 1 0 := hB (1, 1, none) (by simp [ebC])
 unfold ebJ; rw [h1, h2]; exact h
theorem eb_facts (F : Nat → List Int → List Int) : ∀ (xs : List Int) (i : Nat), ebJ xs → xs.getD 2 0 = ((i : Nat) : Int) → (dec (xs.getD 0 0)).length ≤ maxLen → i < (dec (xs.getD 0 0)).length → ∀ q ∈ ebE, (q.1.val (envOf F xs) != 0) = q.2 := fun xs i hJ hc hl hi q hq => by
 simp only [ebE, List.mem_singleton] at hq
 subst hq
 have hJ : (dec (xs.getD 1 0)).length = (dec (xs.getD 0 0)).length := hJ
 rw [guard_val (lv := 1) hc (by omega) (by omega)]
 exact decide_eq_true (by omega)
theorem eb_start (F : Nat → List Int → List Int) (xs : List Int) (hp : Pre ebL F xs) : ebJ (ebI.map (SE.val (envOf F xs))) := by
 unfold ebJ
 rw [at_lvar (I := ebI) (c := 1) (j0 := 1) (by kernel_rfl), at_lvar (I := ebI) (c := 0) (j0 := 0) (by kernel_rfl)]
 have h1 := hp.lv (0, 0) (by decide)
 have h2 := hp.lv (1, 1) (by decide)
 have h3 := hp.pre _ (by show _ ∈ [((SE.cmp .neq (.len (.lvar 0)) (.len (.lvar 1))), false)]; exact .head _)
 have e1 : (envOf F xs).iv 1 = xs.getD 1 0 := rfl
 have e2 : (envOf F xs).iv 0 = xs.getD 0 0 := rfl
 simp only [SE.val, b2i_ne, valCmp, e1, e2] at h3
 have h1 : (dec (xs.getD 0 0)).length ≤ maxLen := h1
 have h2 : (dec (xs.getD 1 0)).length ≤ maxLen := h2
 rw [sat_of h1, sat_of h2] at h3
 have h4 := bne_eq_false_iff_eq.1 h3
 exact (Int.ofNat.inj h4).symm
theorem eb_run (F : Nat → List Int → List Int) (xs : List Int) (hp : Pre ebL F xs) : RunOK (fun _ => ebT) F 0 (ebU xs) (ebI.map (SE.val (envOf F xs))) :=
 range_ok (T := ebT) (c := 2) (lv := 0) (ex := ebE) (by kernel_rfl) ebJ (eb_keep F) (eb_facts F) _ 0 0 _ (at_lit (I := ebI) (by kernel_rfl)) (by rw [at_lvar (I := ebI) (j0 := 0) (by kernel_rfl)]; unfold ebU; omega) (Nat.succ_pos _) (by rw [at_lvar (I := ebI) (j0 := 0) (by kernel_rfl)]; exact hp.lv (0, 0) (by decide)) (eb_start F xs hp)
set_option maxHeartbeats 4000000 in
theorem eb_chk : checkR (bW.loops Lm1_L) Lm1_T 300 ebL.f ebn (bodyOf Try.prog ebL.f ebL.id) ebS ebM ebL.F ebL.nx ebS ebL.outs ebL.kk ebT [] = true := by kernel_rfl
theorem eb_ok : LCT Try.prog ebL (FT Lm1_T) (ebG (FT Lm1_T)) :=
 lct_of (b := bW.loops Lm1_L) (Tb := Lm1_T) (y := ebL) (M := ebM) (T := fun _ => ebT) (S := fun _ => ebS) (init := ebI) (loops_ok bW_ok _) (lb_of Lm1_lb) Lm1_ok (d := 300) (n := ebn) (by kernel_rfl) (by kernel_rfl) (by kernel_rfl) (by kernel_rfl) (fun _ _ _ => eb_chk) (fun xs hp => eb_run _ xs hp)
theorem eb_cst (F : Nat → List Int → List Int) : Cst ebL (ebG F) := cst_of ebC (by kernel_rfl) (fun _ _ _ => by kernel_rfl)
noncomputable def Lm2_Teb : List Ent := ⟨20041, [], .tup [], ebG, true⟩ :: Lm1_T
def Lm2_Leb : List LEnt := ebL :: Lm1_L
theorem Lm2_okeb : TbOK Try.prog Lm2_Teb := tb_loop Lm1_ok rfl (by kernel_rfl)
theorem Lm2_lbeb : LBs Try.prog Lm2_Leb Lm2_Teb := lbs_loop (y := ebL) Lm1_lb (by kernel_rfl) (by kernel_rfl) (by kernel_rfl) eb_ok (eb_cst _)
def etS : List (Nat × V) := [(0, (.one (.sli 0 (.lvar 0)))), (1, (.one (.sli 1 (.lvar 1)))), (4, (.one (.bool false))), (13, (.one (.opq (.ivar .i64 2)))), (12, (.one (.opq (.len (.lvar 0))))), (6, (.any 6)), (7, (.any 7)), (8, (.any 8)), (9, (.any 9)), (10, (.any 10)), (11, (.any 11))]
def etM : MB := []
def etF : MB := [(0, [(.big (.lvar 0) [some .i64, some .i64, some .i64, some .u64, some .i64, some .u64])], 66, false), (1, [(.big (.lvar 1) [some .i64, some .i64, some .i64, some .u64, some .i64, some .u64])], 66, false)]
def etT : RT := (.ask (.cmp .lss (.ivar .i64 2) (.len (.lvar 0))) (.know (.cmp .geq (.ivar .i64 2) (.lit .i64 0)) true (.know (.cmp .lss (.ivar .i64 2) (.len (.lvar 1))) true (.ask (.not (.and (.cmp .eql (.el (some .i64) (.lvar 0) (.ivar .i64 2) 0) (.el (some .i64) (.lvar 1) (.ivar .i64 2) 0)) (.and (.cmp .eql (.el (some .i64) (.lvar 0) (.ivar .i64 2) 1) (.el (some .i64) (.lvar 1) (.ivar .i64 2) 1)) (.and (.and (.cmp .eql (.el (some .i64) (.lvar 0) (.ivar .i64 2) 2) (.el (some .i64) (.lvar 1) (.ivar .i64 2) 2)) (.and (.cmp .eql (.el (some .u64) (.lvar 0) (.ivar .i64 2) 3) (.el (some .u64) (.lvar 1) (.ivar .i64 2) 3)) (.cmp .eql (.lit .i64 1) (.lit .i64 1)))) (.and (.and (.cmp .eql (.el (some .i64) (.lvar 0) (.ivar .i64 2) 4) (.el (some .i64) (.lvar 1) (.ivar .i64 2) 4)) (.and (.cmp .eql (.el (some .u64) (.lvar 0) (.ivar .i64 2) 5) (.el (some .u64) (.lvar 1) (.ivar .i64 2) 5)) (.cmp .eql (.lit .i64 1) (.lit .i64 1)))) (.cmp .eql (.lit .i64 1) (.lit .i64 1))))))) (.out 0 [])
  (.next [(.lvar 0), (.lvar 1), (.bin .add .i64 (.ivar .i64 2) (.lit .i64 1))]))))
  (.out 1 [(.lvar 0), (.lvar 1)]))
def etL : LEnt := { f := 58, id := 4, num := 20042, nx := 2, S := [(0, (.one (.sli 0 (.lvar 0)))), (1, (.one (.sli 1 (.lvar 1)))), (4, (.one (.bool false))), (13, (.one (.int .i64 0))), (12, (.one (.opq (.len (.lvar 0))))), (6, (.any 6)), (7, (.any 7)), (8, (.any 8)), (9, (.any 9)), (10, (.any 10)), (11, (.any 11))], M := [], F := etF, kk := [0, 1], outs := [{ x := .ret, S := [(4, (.one (.bool false)))], M := [], cv := [] }, { x := (.exit 0), S := [(0, (.one (.sli 0 (.lvar 0)))), (1, (.one (.sli 1 (.lvar 1)))), (4, (.one (.bool false))), (6, (.any 6)), (7, (.any 7)), (8, (.any 8)), (9, (.any 9)), (10, (.any 10)), (11, (.any 11))], M := [], cv := [(0, 0, none), (1, 1, none)] }], lv := [(0, 0), (1, 1)], sm := [], pre := [(.cmp .neq (.len (.lvar 0)) (.len (.lvar 1)), false)] }
def etI : List SE := [(.lvar 0), (.lvar 1), (.lit .i64 0)]
def etC : List (Nat × Nat × Option (Option IntKind)) := [(0, 0, none), (1, 1, none)]
def etn : Nat := 26
noncomputable def etU (xs : List Int) : Nat := (dec (xs.getD 0 0)).length + 1
noncomputable def etG : (Nat → List Int → List Int) → List Int → List Int := lpFn etI (fun _ => etT) etU
def etE : List (SE × Bool) := [(.cmp .lss (.ivar .i64 2) (.len (.lvar 1)), true)]
def etJ (xs : List Int) : Prop := (dec (xs.getD 1 0)).length = (dec (xs.getD 0 0)).length
theorem et_keep (F : Nat → List Int → List Int) : ∀ xs ys, etJ xs → etT.get (envOf F xs) = (none, ys) → etJ ys := fun xs ys h hy => by
 have hB := (cB_get (hc := etC) (outs := etL.outs) (F := F) (xs := xs) (t := etT) (by kernel_rfl)).1 ys hy
 have h1 : ys.getD 0 0 = xs.getD 0 0 := hB (0, 0, none) (by simp [etC])
 have h2 : ys.getD 1 0 = xs.getD 1 0 := hB (1, 1, none) (by simp [etC])
 unfold etJ; rw [h1, h2]; exact h
theorem et_facts (F : Nat → List Int → List Int) : ∀ (xs : List Int) (i : Nat), etJ xs → xs.getD 2 0 = ((i : Nat) : Int) → (dec (xs.getD 0 0)).length ≤ maxLen → i < (dec (xs.getD 0 0)).length → ∀ q ∈ etE, (q.1.val (envOf F xs) != 0) = q.2 := fun xs i hJ hc hl hi q hq => by
 simp only [etE, List.mem_singleton] at hq
 subst hq
 have hJ : (dec (xs.getD 1 0)).length = (dec (xs.getD 0 0)).length := hJ
 rw [guard_val (lv := 1) hc (by omega) (by omega)]
 exact decide_eq_true (by omega)
theorem et_start (F : Nat → List Int → List Int) (xs : List Int) (hp : Pre etL F xs) : etJ (etI.map (SE.val (envOf F xs))) := by
 unfold etJ
 rw [at_lvar (I := etI) (c := 1) (j0 := 1) (by kernel_rfl), at_lvar (I := etI) (c := 0) (j0 := 0) (by kernel_rfl)]
 have h1 := hp.lv (0, 0) (by decide)
 have h2 := hp.lv (1, 1) (by decide)
 have h3 := hp.pre _ (by show _ ∈ [((SE.cmp .neq (.len (.lvar 0)) (.len (.lvar 1))), false)]; exact .head _)
 have e1 : (envOf F xs).iv 1 = xs.getD 1 0 := rfl
 have e2 : (envOf F xs).iv 0 = xs.getD 0 0 := rfl
 simp only [SE.val, b2i_ne, valCmp, e1, e2] at h3
 have h1 : (dec (xs.getD 0 0)).length ≤ maxLen := h1
 have h2 : (dec (xs.getD 1 0)).length ≤ maxLen := h2
 rw [sat_of h1, sat_of h2] at h3
 have h4 := bne_eq_false_iff_eq.1 h3
 exact (Int.ofNat.inj h4).symm
theorem et_run (F : Nat → List Int → List Int) (xs : List Int) (hp : Pre etL F xs) : RunOK (fun _ => etT) F 0 (etU xs) (etI.map (SE.val (envOf F xs))) :=
 range_ok (T := etT) (c := 2) (lv := 0) (ex := etE) (by kernel_rfl) etJ (et_keep F) (et_facts F) _ 0 0 _ (at_lit (I := etI) (by kernel_rfl)) (by rw [at_lvar (I := etI) (j0 := 0) (by kernel_rfl)]; unfold etU; omega) (Nat.succ_pos _) (by rw [at_lvar (I := etI) (j0 := 0) (by kernel_rfl)]; exact hp.lv (0, 0) (by decide)) (et_start F xs hp)
set_option maxHeartbeats 4000000 in
theorem et_chk : checkR (bW.loops Lm2_Leb) Lm2_Teb 300 etL.f etn (bodyOf Try.prog etL.f etL.id) etS etM etL.F etL.nx etS etL.outs etL.kk etT [] = true := by kernel_rfl
theorem et_ok : LCT Try.prog etL (FT Lm2_Teb) (etG (FT Lm2_Teb)) :=
 lct_of (b := bW.loops Lm2_Leb) (Tb := Lm2_Teb) (y := etL) (M := etM) (T := fun _ => etT) (S := fun _ => etS) (init := etI) (loops_ok bW_ok _) (lb_of Lm2_lbeb) Lm2_okeb (d := 300) (n := etn) (by kernel_rfl) (by kernel_rfl) (by kernel_rfl) (by kernel_rfl) (fun _ _ _ => et_chk) (fun xs hp => et_run _ xs hp)
theorem et_cst (F : Nat → List Int → List Int) : Cst etL (etG F) := cst_of etC (by kernel_rfl) (fun _ _ _ => by kernel_rfl)
noncomputable def Lm2_Tet : List Ent := ⟨20042, [], .tup [], etG, true⟩ :: Lm2_Teb
def Lm2_Let : List LEnt := etL :: Lm2_Leb
theorem Lm2_oket : TbOK Try.prog Lm2_Tet := tb_loop Lm2_okeb rfl (by kernel_rfl)
theorem Lm2_lbet : LBs Try.prog Lm2_Let Lm2_Tet := lbs_loop (y := etL) Lm2_lbeb (by kernel_rfl) (by kernel_rfl) (by kernel_rfl) et_ok (et_cst _)
def erS : List (Nat × V) := [(0, (.one (.sli 0 (.lvar 0)))), (1, (.one (.sli 1 (.lvar 1)))), (4, (.one (.bool false))), (13, (.one (.opq (.ivar .i64 2)))), (12, (.one (.opq (.len (.lvar 0))))), (6, (.any 6)), (7, (.any 7)), (8, (.any 8)), (9, (.any 9)), (10, (.any 10)), (11, (.any 11))]
def erM : MB := []
def erF : MB := [(0, [(.big (.lvar 0) [some .i64, some .i64, some .u64, some .i64, some .u64, some .i64, some .i64, some .i64, some .i64, some .u64])], 62, false), (1, [(.big (.lvar 1) [some .i64, some .i64, some .u64, some .i64, some .u64, some .i64, some .i64, some .i64, some .i64, some .u64])], 62, false)]
def erT : RT := (.ask (.cmp .lss (.ivar .i64 2) (.len (.lvar 0))) (.know (.cmp .geq (.ivar .i64 2) (.lit .i64 0)) true (.know (.cmp .lss (.ivar .i64 2) (.len (.lvar 1))) true (.ask (.not (.and (.cmp .eql (.el (some .i64) (.lvar 0) (.ivar .i64 2) 0) (.el (some .i64) (.lvar 1) (.ivar .i64 2) 0)) (.and (.and (.cmp .eql (.el (some .i64) (.lvar 0) (.ivar .i64 2) 1) (.el (some .i64) (.lvar 1) (.ivar .i64 2) 1)) (.and (.cmp .eql (.el (some .u64) (.lvar 0) (.ivar .i64 2) 2) (.el (some .u64) (.lvar 1) (.ivar .i64 2) 2)) (.cmp .eql (.lit .i64 1) (.lit .i64 1)))) (.and (.and (.cmp .eql (.el (some .i64) (.lvar 0) (.ivar .i64 2) 3) (.el (some .i64) (.lvar 1) (.ivar .i64 2) 3)) (.and (.cmp .eql (.el (some .u64) (.lvar 0) (.ivar .i64 2) 4) (.el (some .u64) (.lvar 1) (.ivar .i64 2) 4)) (.cmp .eql (.lit .i64 1) (.lit .i64 1)))) (.and (.cmp .eql (.el (some .i64) (.lvar 0) (.ivar .i64 2) 5) (.el (some .i64) (.lvar 1) (.ivar .i64 2) 5)) (.and (.cmp .eql (.el (some .i64) (.lvar 0) (.ivar .i64 2) 6) (.el (some .i64) (.lvar 1) (.ivar .i64 2) 6)) (.and (.cmp .eql (.el (some .i64) (.lvar 0) (.ivar .i64 2) 7) (.el (some .i64) (.lvar 1) (.ivar .i64 2) 7)) (.and (.and (.cmp .eql (.el (some .i64) (.lvar 0) (.ivar .i64 2) 8) (.el (some .i64) (.lvar 1) (.ivar .i64 2) 8)) (.and (.cmp .eql (.el (some .u64) (.lvar 0) (.ivar .i64 2) 9) (.el (some .u64) (.lvar 1) (.ivar .i64 2) 9)) (.cmp .eql (.lit .i64 1) (.lit .i64 1)))) (.cmp .eql (.lit .i64 1) (.lit .i64 1)))))))))) (.out 0 [])
  (.next [(.lvar 0), (.lvar 1), (.bin .add .i64 (.ivar .i64 2) (.lit .i64 1))]))))
  (.out 1 [(.lvar 0), (.lvar 1)]))
def erL : LEnt := { f := 59, id := 4, num := 20043, nx := 2, S := [(0, (.one (.sli 0 (.lvar 0)))), (1, (.one (.sli 1 (.lvar 1)))), (4, (.one (.bool false))), (13, (.one (.int .i64 0))), (12, (.one (.opq (.len (.lvar 0))))), (6, (.any 6)), (7, (.any 7)), (8, (.any 8)), (9, (.any 9)), (10, (.any 10)), (11, (.any 11))], M := [], F := erF, kk := [0, 1], outs := [{ x := .ret, S := [(4, (.one (.bool false)))], M := [], cv := [] }, { x := (.exit 0), S := [(0, (.one (.sli 0 (.lvar 0)))), (1, (.one (.sli 1 (.lvar 1)))), (4, (.one (.bool false))), (6, (.any 6)), (7, (.any 7)), (8, (.any 8)), (9, (.any 9)), (10, (.any 10)), (11, (.any 11))], M := [], cv := [(0, 0, none), (1, 1, none)] }], lv := [(0, 0), (1, 1)], sm := [], pre := [(.cmp .neq (.len (.lvar 0)) (.len (.lvar 1)), false)] }
def erI : List SE := [(.lvar 0), (.lvar 1), (.lit .i64 0)]
def erC : List (Nat × Nat × Option (Option IntKind)) := [(0, 0, none), (1, 1, none)]
def ern : Nat := 26
noncomputable def erU (xs : List Int) : Nat := (dec (xs.getD 0 0)).length + 1
noncomputable def erG : (Nat → List Int → List Int) → List Int → List Int := lpFn erI (fun _ => erT) erU
def erE : List (SE × Bool) := [(.cmp .lss (.ivar .i64 2) (.len (.lvar 1)), true)]
def erJ (xs : List Int) : Prop := (dec (xs.getD 1 0)).length = (dec (xs.getD 0 0)).length
theorem er_keep (F : Nat → List Int → List Int) : ∀ xs ys, erJ xs → erT.get (envOf F xs) = (none, ys) → erJ ys := fun xs ys h hy => by
 have hB := (cB_get (hc := erC) (outs := erL.outs) (F := F) (xs := xs) (t := erT) (by kernel_rfl)).1 ys hy
 have h1 : ys.getD 0 0 = xs.getD 0 0 := hB (0, 0, none) (by simp [erC])
 have h2 : ys.getD 1 0 = xs.getD 1 0 := hB (1, 1, none) (by simp [erC])
 unfold erJ; rw [h1, h2]; exact h
theorem er_facts (F : Nat → List Int → List Int) : ∀ (xs : List Int) (i : Nat), erJ xs → xs.getD 2 0 = ((i : Nat) : Int) → (dec (xs.getD 0 0)).length ≤ maxLen → i < (dec (xs.getD 0 0)).length → ∀ q ∈ erE, (q.1.val (envOf F xs) != 0) = q.2 := fun xs i hJ hc hl hi q hq => by
 simp only [erE, List.mem_singleton] at hq
 subst hq
 have hJ : (dec (xs.getD 1 0)).length = (dec (xs.getD 0 0)).length := hJ
 rw [guard_val (lv := 1) hc (by omega) (by omega)]
 exact decide_eq_true (by omega)
theorem er_start (F : Nat → List Int → List Int) (xs : List Int) (hp : Pre erL F xs) : erJ (erI.map (SE.val (envOf F xs))) := by
 unfold erJ
 rw [at_lvar (I := erI) (c := 1) (j0 := 1) (by kernel_rfl), at_lvar (I := erI) (c := 0) (j0 := 0) (by kernel_rfl)]
 have h1 := hp.lv (0, 0) (by decide)
 have h2 := hp.lv (1, 1) (by decide)
 have h3 := hp.pre _ (by show _ ∈ [((SE.cmp .neq (.len (.lvar 0)) (.len (.lvar 1))), false)]; exact .head _)
 have e1 : (envOf F xs).iv 1 = xs.getD 1 0 := rfl
 have e2 : (envOf F xs).iv 0 = xs.getD 0 0 := rfl
 simp only [SE.val, b2i_ne, valCmp, e1, e2] at h3
 have h1 : (dec (xs.getD 0 0)).length ≤ maxLen := h1
 have h2 : (dec (xs.getD 1 0)).length ≤ maxLen := h2
 rw [sat_of h1, sat_of h2] at h3
 have h4 := bne_eq_false_iff_eq.1 h3
 exact (Int.ofNat.inj h4).symm
theorem er_run (F : Nat → List Int → List Int) (xs : List Int) (hp : Pre erL F xs) : RunOK (fun _ => erT) F 0 (erU xs) (erI.map (SE.val (envOf F xs))) :=
 range_ok (T := erT) (c := 2) (lv := 0) (ex := erE) (by kernel_rfl) erJ (er_keep F) (er_facts F) _ 0 0 _ (at_lit (I := erI) (by kernel_rfl)) (by rw [at_lvar (I := erI) (j0 := 0) (by kernel_rfl)]; unfold erU; omega) (Nat.succ_pos _) (by rw [at_lvar (I := erI) (j0 := 0) (by kernel_rfl)]; exact hp.lv (0, 0) (by decide)) (er_start F xs hp)
set_option maxHeartbeats 4000000 in
theorem er_chk : checkR (bW.loops Lm2_Let) Lm2_Tet 300 erL.f ern (bodyOf Try.prog erL.f erL.id) erS erM erL.F erL.nx erS erL.outs erL.kk erT [] = true := by kernel_rfl
theorem er_ok : LCT Try.prog erL (FT Lm2_Tet) (erG (FT Lm2_Tet)) :=
 lct_of (b := bW.loops Lm2_Let) (Tb := Lm2_Tet) (y := erL) (M := erM) (T := fun _ => erT) (S := fun _ => erS) (init := erI) (loops_ok bW_ok _) (lb_of Lm2_lbet) Lm2_oket (d := 300) (n := ern) (by kernel_rfl) (by kernel_rfl) (by kernel_rfl) (by kernel_rfl) (fun _ _ _ => er_chk) (fun xs hp => er_run _ xs hp)
theorem er_cst (F : Nat → List Int → List Int) : Cst erL (erG F) := cst_of erC (by kernel_rfl) (fun _ _ _ => by kernel_rfl)
noncomputable def Lm2_Ter : List Ent := ⟨20043, [], .tup [], erG, true⟩ :: Lm2_Tet
def Lm2_Ler : List LEnt := erL :: Lm2_Let
theorem Lm2_oker : TbOK Try.prog Lm2_Ter := tb_loop Lm2_oket rfl (by kernel_rfl)
theorem Lm2_lber : LBs Try.prog Lm2_Ler Lm2_Ter := lbs_loop (y := erL) Lm2_lbet (by kernel_rfl) (by kernel_rfl) (by kernel_rfl) er_ok (er_cst _)
def eiS : List (Nat × V) := [(0, (.one (.sli 0 (.lvar 0)))), (1, (.one (.sli 1 (.lvar 1)))), (4, (.one (.bool false))), (13, (.one (.opq (.ivar .i64 2)))), (12, (.one (.opq (.len (.lvar 0))))), (6, (.any 6)), (7, (.any 7)), (8, (.any 8)), (9, (.any 9)), (10, (.any 10)), (11, (.any 11))]
def eiM : MB := []
def eiF : MB := [(0, [(.big (.lvar 0) [some .i64])], 3, false), (1, [(.big (.lvar 1) [some .i64])], 3, false)]
def eiT : RT := (.ask (.cmp .lss (.ivar .i64 2) (.len (.lvar 0))) (.know (.cmp .geq (.ivar .i64 2) (.lit .i64 0)) true (.know (.cmp .lss (.ivar .i64 2) (.len (.lvar 1))) true (.ask (.cmp .neq (.el (some .i64) (.lvar 0) (.ivar .i64 2) 0) (.el (some .i64) (.lvar 1) (.ivar .i64 2) 0)) (.out 0 [])
  (.next [(.lvar 0), (.lvar 1), (.bin .add .i64 (.ivar .i64 2) (.lit .i64 1))]))))
  (.out 1 [(.lvar 0), (.lvar 1)]))
def eiL : LEnt := { f := 60, id := 4, num := 20044, nx := 2, S := [(0, (.one (.sli 0 (.lvar 0)))), (1, (.one (.sli 1 (.lvar 1)))), (4, (.one (.bool false))), (13, (.one (.int .i64 0))), (12, (.one (.opq (.len (.lvar 0))))), (6, (.any 6)), (7, (.any 7)), (8, (.any 8)), (9, (.any 9)), (10, (.any 10)), (11, (.any 11))], M := [], F := eiF, kk := [0, 1], outs := [{ x := .ret, S := [(4, (.one (.bool false)))], M := [], cv := [] }, { x := (.exit 0), S := [(0, (.one (.sli 0 (.lvar 0)))), (1, (.one (.sli 1 (.lvar 1)))), (4, (.one (.bool false))), (6, (.any 6)), (7, (.any 7)), (8, (.any 8)), (9, (.any 9)), (10, (.any 10)), (11, (.any 11))], M := [], cv := [(0, 0, none), (1, 1, none)] }], lv := [(0, 0), (1, 1)], sm := [], pre := [(.cmp .neq (.len (.lvar 0)) (.len (.lvar 1)), false)] }
def eiI : List SE := [(.lvar 0), (.lvar 1), (.lit .i64 0)]
def eiC : List (Nat × Nat × Option (Option IntKind)) := [(0, 0, none), (1, 1, none)]
def ein : Nat := 26
noncomputable def eiU (xs : List Int) : Nat := (dec (xs.getD 0 0)).length + 1
noncomputable def eiG : (Nat → List Int → List Int) → List Int → List Int := lpFn eiI (fun _ => eiT) eiU
def eiE : List (SE × Bool) := [(.cmp .lss (.ivar .i64 2) (.len (.lvar 1)), true)]
def eiJ (xs : List Int) : Prop := (dec (xs.getD 1 0)).length = (dec (xs.getD 0 0)).length
theorem ei_keep (F : Nat → List Int → List Int) : ∀ xs ys, eiJ xs → eiT.get (envOf F xs) = (none, ys) → eiJ ys := fun xs ys h hy => by
 have hB := (cB_get (hc := eiC) (outs := eiL.outs) (F := F) (xs := xs) (t := eiT) (by kernel_rfl)).1 ys hy
 have h1 : ys.getD 0 0 = xs.getD 0 0 := hB (0, 0, none) (by simp [eiC])
 have h2 : ys.getD 1 0 = xs.getD 1 0 := hB (1, 1, none) (by simp [eiC])
 unfold eiJ; rw [h1, h2]; exact h
theorem ei_facts (F : Nat → List Int → List Int) : ∀ (xs : List Int) (i : Nat), eiJ xs → xs.getD 2 0 = ((i : Nat) : Int) → (dec (xs.getD 0 0)).length ≤ maxLen → i < (dec (xs.getD 0 0)).length → ∀ q ∈ eiE, (q.1.val (envOf F xs) != 0) = q.2 := fun xs i hJ hc hl hi q hq => by
 simp only [eiE, List.mem_singleton] at hq
 subst hq
 have hJ : (dec (xs.getD 1 0)).length = (dec (xs.getD 0 0)).length := hJ
 rw [guard_val (lv := 1) hc (by omega) (by omega)]
 exact decide_eq_true (by omega)
theorem ei_start (F : Nat → List Int → List Int) (xs : List Int) (hp : Pre eiL F xs) : eiJ (eiI.map (SE.val (envOf F xs))) := by
 unfold eiJ
 rw [at_lvar (I := eiI) (c := 1) (j0 := 1) (by kernel_rfl), at_lvar (I := eiI) (c := 0) (j0 := 0) (by kernel_rfl)]
 have h1 := hp.lv (0, 0) (by decide)
 have h2 := hp.lv (1, 1) (by decide)
 have h3 := hp.pre _ (by show _ ∈ [((SE.cmp .neq (.len (.lvar 0)) (.len (.lvar 1))), false)]; exact .head _)
 have e1 : (envOf F xs).iv 1 = xs.getD 1 0 := rfl
 have e2 : (envOf F xs).iv 0 = xs.getD 0 0 := rfl
 simp only [SE.val, b2i_ne, valCmp, e1, e2] at h3
 have h1 : (dec (xs.getD 0 0)).length ≤ maxLen := h1
 have h2 : (dec (xs.getD 1 0)).length ≤ maxLen := h2
 rw [sat_of h1, sat_of h2] at h3
 have h4 := bne_eq_false_iff_eq.1 h3
 exact (Int.ofNat.inj h4).symm
theorem ei_run (F : Nat → List Int → List Int) (xs : List Int) (hp : Pre eiL F xs) : RunOK (fun _ => eiT) F 0 (eiU xs) (eiI.map (SE.val (envOf F xs))) :=
 range_ok (T := eiT) (c := 2) (lv := 0) (ex := eiE) (by kernel_rfl) eiJ (ei_keep F) (ei_facts F) _ 0 0 _ (at_lit (I := eiI) (by kernel_rfl)) (by rw [at_lvar (I := eiI) (j0 := 0) (by kernel_rfl)]; unfold eiU; omega) (Nat.succ_pos _) (by rw [at_lvar (I := eiI) (j0 := 0) (by kernel_rfl)]; exact hp.lv (0, 0) (by decide)) (ei_start F xs hp)
set_option maxHeartbeats 4000000 in
theorem ei_chk : checkR (bW.loops Lm2_Ler) Lm2_Ter 300 eiL.f ein (bodyOf Try.prog eiL.f eiL.id) eiS eiM eiL.F eiL.nx eiS eiL.outs eiL.kk eiT [] = true := by kernel_rfl
theorem ei_ok : LCT Try.prog eiL (FT Lm2_Ter) (eiG (FT Lm2_Ter)) :=
 lct_of (b := bW.loops Lm2_Ler) (Tb := Lm2_Ter) (y := eiL) (M := eiM) (T := fun _ => eiT) (S := fun _ => eiS) (init := eiI) (loops_ok bW_ok _) (lb_of Lm2_lber) Lm2_oker (d := 300) (n := ein) (by kernel_rfl) (by kernel_rfl) (by kernel_rfl) (by kernel_rfl) (fun _ _ _ => ei_chk) (fun xs hp => ei_run _ xs hp)
theorem ei_cst (F : Nat → List Int → List Int) : Cst eiL (eiG F) := cst_of eiC (by kernel_rfl) (fun _ _ _ => by kernel_rfl)
noncomputable def Lm2_Tei : List Ent := ⟨20044, [], .tup [], eiG, true⟩ :: Lm2_Ter
def Lm2_Lei : List LEnt := eiL :: Lm2_Ler
theorem Lm2_okei : TbOK Try.prog Lm2_Tei := tb_loop Lm2_oker rfl (by kernel_rfl)
theorem Lm2_lbei : LBs Try.prog Lm2_Lei Lm2_Tei := lbs_loop (y := eiL) Lm2_lber (by kernel_rfl) (by kernel_rfl) (by kernel_rfl) ei_ok (ei_cst _)
def eeS : List (Nat × V) := [(0, (.one (.sli 0 (.lvar 0)))), (1, (.one (.sli 1 (.lvar 1)))), (4, (.one (.bool false))), (13, (.one (.opq (.ivar .i64 2)))), (12, (.one (.opq (.len (.lvar 0))))), (6, (.any 6)), (7, (.any 7)), (8, (.any 8)), (9, (.any 9)), (10, (.any 10)), (11, (.any 11))]
def eeM : MB := []
def eeF : MB := [(0, [(.big (.lvar 0) [some .i64, some .i64, some .i64, some .i64])], 68, false), (1, [(.big (.lvar 1) [some .i64, some .i64, some .i64, some .i64])], 68, false)]
def eeT : RT := (.ask (.cmp .lss (.ivar .i64 2) (.len (.lvar 0))) (.know (.cmp .geq (.ivar .i64 2) (.lit .i64 0)) true (.know (.cmp .lss (.ivar .i64 2) (.len (.lvar 1))) true (.ask (.not (.and (.cmp .eql (.el (some .i64) (.lvar 0) (.ivar .i64 2) 0) (.el (some .i64) (.lvar 1) (.ivar .i64 2) 0)) (.and (.cmp .eql (.el (some .i64) (.lvar 0) (.ivar .i64 2) 1) (.el (some .i64) (.lvar 1) (.ivar .i64 2) 1)) (.and (.cmp .eql (.el (some .i64) (.lvar 0) (.ivar .i64 2) 2) (.el (some .i64) (.lvar 1) (.ivar .i64 2) 2)) (.and (.cmp .eql (.el (some .i64) (.lvar 0) (.ivar .i64 2) 3) (.el (some .i64) (.lvar 1) (.ivar .i64 2) 3)) (.cmp .eql (.lit .i64 1) (.lit .i64 1))))))) (.out 0 [])
  (.next [(.lvar 0), (.lvar 1), (.bin .add .i64 (.ivar .i64 2) (.lit .i64 1))]))))
  (.out 1 [(.lvar 0), (.lvar 1)]))
def eeL : LEnt := { f := 61, id := 4, num := 20045, nx := 2, S := [(0, (.one (.sli 0 (.lvar 0)))), (1, (.one (.sli 1 (.lvar 1)))), (4, (.one (.bool false))), (13, (.one (.int .i64 0))), (12, (.one (.opq (.len (.lvar 0))))), (6, (.any 6)), (7, (.any 7)), (8, (.any 8)), (9, (.any 9)), (10, (.any 10)), (11, (.any 11))], M := [], F := eeF, kk := [0, 1], outs := [{ x := .ret, S := [(4, (.one (.bool false)))], M := [], cv := [] }, { x := (.exit 0), S := [(0, (.one (.sli 0 (.lvar 0)))), (1, (.one (.sli 1 (.lvar 1)))), (4, (.one (.bool false))), (6, (.any 6)), (7, (.any 7)), (8, (.any 8)), (9, (.any 9)), (10, (.any 10)), (11, (.any 11))], M := [], cv := [(0, 0, none), (1, 1, none)] }], lv := [(0, 0), (1, 1)], sm := [], pre := [(.cmp .neq (.len (.lvar 0)) (.len (.lvar 1)), false)] }
def eeI : List SE := [(.lvar 0), (.lvar 1), (.lit .i64 0)]
def eeC : List (Nat × Nat × Option (Option IntKind)) := [(0, 0, none), (1, 1, none)]
def een : Nat := 26
noncomputable def eeU (xs : List Int) : Nat := (dec (xs.getD 0 0)).length + 1
noncomputable def eeG : (Nat → List Int → List Int) → List Int → List Int := lpFn eeI (fun _ => eeT) eeU
def eeE : List (SE × Bool) := [(.cmp .lss (.ivar .i64 2) (.len (.lvar 1)), true)]
def eeJ (xs : List Int) : Prop := (dec (xs.getD 1 0)).length = (dec (xs.getD 0 0)).length
theorem ee_keep (F : Nat → List Int → List Int) : ∀ xs ys, eeJ xs → eeT.get (envOf F xs) = (none, ys) → eeJ ys := fun xs ys h hy => by
 have hB := (cB_get (hc := eeC) (outs := eeL.outs) (F := F) (xs := xs) (t := eeT) (by kernel_rfl)).1 ys hy
 have h1 : ys.getD 0 0 = xs.getD 0 0 := hB (0, 0, none) (by simp [eeC])
 have h2 : ys.getD 1 0 = xs.getD 1 0 := hB (1, 1, none) (by simp [eeC])
 unfold eeJ; rw [h1, h2]; exact h
theorem ee_facts (F : Nat → List Int → List Int) : ∀ (xs : List Int) (i : Nat), eeJ xs → xs.getD 2 0 = ((i : Nat) : Int) → (dec (xs.getD 0 0)).length ≤ maxLen → i < (dec (xs.getD 0 0)).length → ∀ q ∈ eeE, (q.1.val (envOf F xs) != 0) = q.2 := fun xs i hJ hc hl hi q hq => by
 simp only [eeE, List.mem_singleton] at hq
 subst hq
 have hJ : (dec (xs.getD 1 0)).length = (dec (xs.getD 0 0)).length := hJ
 rw [guard_val (lv := 1) hc (by omega) (by omega)]
 exact decide_eq_true (by omega)
theorem ee_start (F : Nat → List Int → List Int) (xs : List Int) (hp : Pre eeL F xs) : eeJ (eeI.map (SE.val (envOf F xs))) := by
 unfold eeJ
 rw [at_lvar (I := eeI) (c := 1) (j0 := 1) (by kernel_rfl), at_lvar (I := eeI) (c := 0) (j0 := 0) (by kernel_rfl)]
 have h1 := hp.lv (0, 0) (by decide)
 have h2 := hp.lv (1, 1) (by decide)
 have h3 := hp.pre _ (by show _ ∈ [((SE.cmp .neq (.len (.lvar 0)) (.len (.lvar 1))), false)]; exact .head _)
 have e1 : (envOf F xs).iv 1 = xs.getD 1 0 := rfl
 have e2 : (envOf F xs).iv 0 = xs.getD 0 0 := rfl
 simp only [SE.val, b2i_ne, valCmp, e1, e2] at h3
 have h1 : (dec (xs.getD 0 0)).length ≤ maxLen := h1
 have h2 : (dec (xs.getD 1 0)).length ≤ maxLen := h2
 rw [sat_of h1, sat_of h2] at h3
 have h4 := bne_eq_false_iff_eq.1 h3
 exact (Int.ofNat.inj h4).symm
theorem ee_run (F : Nat → List Int → List Int) (xs : List Int) (hp : Pre eeL F xs) : RunOK (fun _ => eeT) F 0 (eeU xs) (eeI.map (SE.val (envOf F xs))) :=
 range_ok (T := eeT) (c := 2) (lv := 0) (ex := eeE) (by kernel_rfl) eeJ (ee_keep F) (ee_facts F) _ 0 0 _ (at_lit (I := eeI) (by kernel_rfl)) (by rw [at_lvar (I := eeI) (j0 := 0) (by kernel_rfl)]; unfold eeU; omega) (Nat.succ_pos _) (by rw [at_lvar (I := eeI) (j0 := 0) (by kernel_rfl)]; exact hp.lv (0, 0) (by decide)) (ee_start F xs hp)
set_option maxHeartbeats 4000000 in
theorem ee_chk : checkR (bW.loops Lm2_Lei) Lm2_Tei 300 eeL.f een (bodyOf Try.prog eeL.f eeL.id) eeS eeM eeL.F eeL.nx eeS eeL.outs eeL.kk eeT [] = true := by kernel_rfl
theorem ee_ok : LCT Try.prog eeL (FT Lm2_Tei) (eeG (FT Lm2_Tei)) :=
 lct_of (b := bW.loops Lm2_Lei) (Tb := Lm2_Tei) (y := eeL) (M := eeM) (T := fun _ => eeT) (S := fun _ => eeS) (init := eeI) (loops_ok bW_ok _) (lb_of Lm2_lbei) Lm2_okei (d := 300) (n := een) (by kernel_rfl) (by kernel_rfl) (by kernel_rfl) (by kernel_rfl) (fun _ _ _ => ee_chk) (fun xs hp => ee_run _ xs hp)
theorem ee_cst (F : Nat → List Int → List Int) : Cst eeL (eeG F) := cst_of eeC (by kernel_rfl) (fun _ _ _ => by kernel_rfl)
noncomputable def Lm2_Tee : List Ent := ⟨20045, [], .tup [], eeG, true⟩ :: Lm2_Tei
def Lm2_Lee : List LEnt := eeL :: Lm2_Lei
theorem Lm2_okee : TbOK Try.prog Lm2_Tee := tb_loop Lm2_okei rfl (by kernel_rfl)
theorem Lm2_lbee : LBs Try.prog Lm2_Lee Lm2_Tee := lbs_loop (y := eeL) Lm2_lbei (by kernel_rfl) (by kernel_rfl) (by kernel_rfl) ee_ok (ee_cst _)
noncomputable def Lm2_T : List Ent := Lm2_Tee
def Lm2_L : List LEnt := Lm2_Lee
theorem Lm2_ok : TbOK Try.prog Lm2_T := Lm2_okee
theorem Lm2_lb : LBs Try.prog Lm2_L Lm2_T := Lm2_lbee
end Go.Proofs.Ytedfbamihjnhhaa.Own
