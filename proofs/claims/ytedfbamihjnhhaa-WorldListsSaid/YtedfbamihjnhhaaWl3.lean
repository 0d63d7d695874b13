/- Contracts of loops that go through lists: found by program, checked by the kernel. -/
import Derived.Test.YtedfbamihjnhhaaWl2
namespace Go.Proofs.Ytedfbamihjnhhaa.Own
open Go Go.RowKit Go.Proofs
set_option linter.unusedVariables false
set_option maxRecDepth 100000
def veS : List (Nat × V) := [(5, (.one (.ptr 0 0))), (1, (.one (.opq (.ivar .u16 1)))), (10, (.one (.opq (.ivar .i64 2)))), (0, (.any 0)), (4, (.any 4)), (6, (.any 6)), (12, (.any 12)), (13, (.any 13)), (14, (.any 14)), (32, (.any 32)), (33, (.any 33)), (56, (.any 56)), (57, (.any 57)), (87, (.any 87)), (88, (.any 88))]
def veM : MB := [(0, [(.int .i64 0), (.int .i64 0), (.int .u64 1152921504606846976), (.int .i64 1), (.int .u64 0), (.int .i64 0), (.int .u64 4611686018427387904), (.int .i64 0), (.int .u64 0), (.int .i64 0), (.int .u64 0), (.int .i64 0), (.int .i64 0), .nils, .nils, .nils, .nils, (.int .i64 0), (.int .u64 0), (.int .i64 0), (.int .u64 0), (.int .i64 0), (.int .u64 0), (.sli 1 (.lvar 0))], 33, false), (1, [(.big (.lvar 0) [some .i64, some .i64, some .i64, some .i64])], 68, true)]
def veF : MB := []
def veT : RT := (.ask (.cmp .lss (.ivar .i64 2) (.bin .rem .i64 (.conv .i64 (.ivar .u16 1)) (.lit .i64 600))) (.know (.cmp .leq (.len (.lvar 0)) (.lit .i64 1000000)) true (.next [(.lcat (.lvar 0) (.lone (.cons (.lit .i64 0) (.cons (.bin .add .i64 (.lit .i64 1) (.bin .rem .i64 (.ivar .i64 2) (.lit .i64 8))) (.cons (.ivar .i64 2) (.cons (.lit .i64 (-1)) .nil)))))), (.ivar .u16 1), (.bin .add .i64 (.ivar .i64 2) (.lit .i64 1))]))
    (.out 0 [(.lvar 0), (.ivar .u16 1)]))
def veL : LEnt := { f := 6, id := 6, num := 20021, nx := 2, S := [(5, (.one (.ptr 0 0))), (1, (.one (.opq (.ivar .u16 0)))), (10, (.one (.int .i64 0))), (0, (.any 0)), (4, (.any 4)), (6, (.any 6)), (12, (.any 12)), (13, (.any 13)), (14, (.any 14)), (32, (.any 32)), (33, (.any 33)), (56, (.any 56)), (57, (.any 57)), (87, (.any 87)), (88, (.any 88))], M := [(0, [(.int .i64 0), (.int .i64 0), (.int .u64 1152921504606846976), (.int .i64 1), (.int .u64 0), (.int .i64 0), (.int .u64 4611686018427387904), (.int .i64 0), (.int .u64 0), (.int .i64 0), (.int .u64 0), (.int .i64 0), (.int .i64 0), .nils, .nils, .nils, .nils, (.int .i64 0), (.int .u64 0), (.int .i64 0), (.int .u64 0), (.int .i64 0), (.int .u64 0), .nils], 33, false)], F := veF, kk := [0], outs := [{ x := (.exit 1), S := [(5, (.one (.ptr 0 0))), (0, (.any 0)), (1, (.one (.opq (.ivar .u16 1)))), (4, (.any 4)), (6, (.any 6)), (12, (.any 12)), (13, (.any 13)), (14, (.any 14)), (32, (.any 32)), (33, (.any 33)), (56, (.any 56)), (57, (.any 57)), (87, (.any 87)), (88, (.any 88))], M := [(0, [(.int .i64 0), (.int .i64 0), (.int .u64 1152921504606846976), (.int .i64 1), (.int .u64 0), (.int .i64 0), (.int .u64 4611686018427387904), (.int .i64 0), (.int .u64 0), (.int .i64 0), (.int .u64 0), (.int .i64 0), (.int .i64 0), .nils, .nils, .nils, .nils, (.int .i64 0), (.int .u64 0), (.int .i64 0), (.int .u64 0), (.int .i64 0), (.int .u64 0), (.sli 1 (.lvar 0))], 33, false), (1, [(.big (.lvar 0) [some .i64, some .i64, some .i64, some .i64])], 68, true)], cv := [(1, 0, (some (some .u16)))] }], lv := [], sm := [], pre := [] }
def veI : List SE := [.lnil, (.ivar .u16 0), (.lit .i64 0)]
def veC : List (Nat × Nat × Option (Option IntKind)) := [(1, 0, (some (some .u16)))]
def ven : Nat := 132
def evnL (i : Nat) : List (List Int) := (List.range i).map fun (t : Nat) => [0, 1 + (t : Int) % 8, (t : Int), -1]
theorem evnL_len (i : Nat) : (evnL i).length = i := by simp [evnL]
theorem evnL_succ (i : Nat) : evnL (i + 1) = evnL i ++ [[0, 1 + (i : Int) % 8, (i : Int), -1]] := by simp [evnL, List.range_succ]
def evB (n : Int) : Int := IntKind.i64.wrap ((IntKind.i64.wrap (IntKind.u16.wrap n)).tmod (IntKind.i64.wrap 600))
theorem evB_in (n : Int) : 0 ≤ evB n ∧ evB n < 600 := by
  have h : 0 ≤ IntKind.u16.wrap n ∧ IntKind.u16.wrap n < 65536 := by
    simp only [IntKind.wrap, IntKind.bits, IntKind.signed]; simp; omega
  unfold evB
  generalize IntKind.u16.wrap n = m at h
  rw [show IntKind.i64.wrap 600 = 600 from rfl, show IntKind.i64.wrap m = m by simp only [IntKind.wrap_i64]; omega, Int.tmod_eq_emod_of_nonneg h.1]
  simp only [IntKind.wrap_i64]; omega
def veJ (n : Int) (i : Nat) (xs : List Int) : Prop := xs.getD 1 0 = n ∧ xs.getD 2 0 = (i : Int) ∧ dec (xs.getD 0 0) = evnL i ∧ (i : Int) ≤ evB n
theorem ve_get {F : Nat → List Int → List Int} {n : Int} {i : Nat} {xs : List Int} (hi : i ≤ 600) (h : veJ n i xs) : veT.get (envOf F xs) = if (i : Int) < evB n then (none, [enc (evnL (i + 1)), IntKind.u16.wrap n, ((i + 1 : Nat) : Int)]) else (some 0, [xs.getD 0 0, IntKind.u16.wrap n]) := by
  obtain ⟨h1, h2, h3, h4⟩ := h
  have e2 : IntKind.i64.wrap (i : Int) = (i : Int) := i64_nat (by unfold maxLen; omega)
  have e3 : IntKind.i64.wrap ((i : Int) + 1) = ((i + 1 : Nat) : Int) := by rw [show (i : Int) + 1 = ((i + 1 : Nat) : Int) by omega]; exact i64_nat (by unfold maxLen; omega)
  have e4 : IntKind.i64.wrap (IntKind.i64.wrap 1 + IntKind.i64.wrap (Int.tmod (i : Int) (IntKind.i64.wrap 8))) = 1 + (i : Int) % 8 := by
    rw [show IntKind.i64.wrap 8 = 8 from rfl, show IntKind.i64.wrap 1 = 1 from rfl, Int.tmod_eq_emod_of_nonneg (by omega)]
    simp only [IntKind.wrap_i64]; omega
  have w0 : IntKind.i64.wrap 0 = 0 := rfl
  have w1 : IntKind.i64.wrap 1 = 1 := rfl
  have w2 : IntKind.i64.wrap (-1) = -1 := rfl
  have f0 : (envOf F xs).iv 0 = xs.getD 0 0 := rfl
  have f1 : (envOf F xs).iv 1 = n := h1
  have f2 : (envOf F xs).iv 2 = (i : Int) := h2
  simp only [veT, RT.get, SE.val, SE.vals, List.map, valCmp, valBin, b2i_ne, f0, f1, f2, e2, e4, w0, w2, dec_enc, h3]
  rw [evnL_succ]
  change (bif decide ((i : Int) < evB n) then _ else _) = _
  by_cases hb : (i : Int) < evB n
  · rw [if_pos hb, decide_eq_true hb, cond_true, w1, e3]
  · rw [if_neg hb, decide_eq_false hb, cond_false]
theorem u16_u16 (n : Int) : evB (IntKind.u16.wrap n) = evB n := by
  unfold evB; rw [wrap_wrap]
noncomputable def veU (xs : List Int) : Nat := 601
noncomputable def veG : (Nat → List Int → List Int) → List Int → List Int := lpFn veI (fun _ => veT) veU
theorem ve_J0 (F : Nat → List Int → List Int) (xs : List Int) : veJ (IntKind.u16.wrap (xs.getD 0 0)) 0 (veI.map (SE.val (envOf F xs))) := by
  refine ⟨rfl, rfl, ?_, (evB_in _).1⟩
  show dec ((SE.lnil).val (envOf F xs)) = _
  simp only [SE.val, dec_enc]; rfl
theorem ve_nx (F : Nat → List Int → List Int) (n : Int) : ∀ (i : Nat) (xs ys : List Int), i ≤ 600 → (∃ m, evB m = n ∧ veJ m i xs) → veT.get (envOf F xs) = (none, ys) → i < 600 ∧ (∃ m, evB m = n ∧ veJ m (i + 1) ys) := fun i xs ys hi ⟨m, hm, hj⟩ hy => by
  rw [ve_get hi hj] at hy
  have := evB_in m
  by_cases hb : (i : Int) < evB m
  · rw [if_pos hb] at hy
    cases hy
    exact ⟨by omega, _, (u16_u16 m).trans hm, rfl, rfl, by show dec (enc _) = _; rw [dec_enc], by rw [u16_u16]; omega⟩
  · rw [if_neg hb] at hy; cases hy
theorem ve_run (F : Nat → List Int → List Int) (xs : List Int) (hp : Pre veL F xs) : RunOK (fun _ => veT) F 0 (veU xs) (veI.map (SE.val (envOf F xs))) :=
  inv_ok (fun i ys => ∃ m, evB m = evB (IntKind.u16.wrap (xs.getD 0 0)) ∧ veJ m i ys) 600 (fun i ys hi ⟨m, hm, hj⟩ => by
    refine ⟨fun _ => ⟨?_, trivial⟩, fun _ => trivial⟩
    obtain ⟨h1, h2, h3, h4⟩ := hj
    have f0 : (envOf F ys).iv 0 = ys.getD 0 0 := rfl
    have hl : (dec (ys.getD 0 0)).length = i := by rw [h3, evnL_len]
    simp only [SE.val, valCmp, b2i_ne, f0, hl]
    rw [sat_of (by unfold maxLen; omega)]
    exact decide_eq_true (show ((i : Nat) : Int) ≤ IntKind.i64.wrap 1000000 by rw [show IntKind.i64.wrap 1000000 = 1000000 from rfl]; omega)) (ve_nx F _) 601 0 0 _ rfl (by omega) ⟨_, rfl, ve_J0 F xs⟩
theorem ve_val (F : Nat → List Int → List Int) (xs : List Int) : ∃ ys, veG F xs = 0 :: ys ∧ dec (ys.getD 0 0) = evnL (evB (xs.getD 0 0)).toNat := by
  obtain ⟨e, ys, h1, h2⟩ := inv_run (F := F) (T := veT) (fun i ys => ∃ m, evB m = evB (IntKind.u16.wrap (xs.getD 0 0)) ∧ veJ m i ys) 600 (fun e ys => e = 0 ∧ dec (ys.getD 0 0) = evnL (evB (xs.getD 0 0)).toNat) (ve_nx F _) (fun i zs e ys hi ⟨m, hm, hj⟩ hy => by
    rw [ve_get hi hj] at hy
    rw [u16_u16] at hm
    have hb := evB_in m
    obtain ⟨_, _, h3, h4⟩ := hj
    by_cases hlt : (i : Int) < evB m
    · rw [if_pos hlt] at hy; cases hy
    · rw [if_neg hlt] at hy
      cases hy
      refine ⟨rfl, ?_⟩
      show dec (zs.getD 0 0) = _
      rw [h3, ← hm]
      congr 1
      omega) 601 0 0 (veI.map (SE.val (envOf F xs))) rfl (by omega) ⟨_, rfl, ve_J0 F xs⟩
  obtain ⟨rfl, h2⟩ := h2
  refine ⟨ys, ?_, h2⟩
  unfold veG lpFn veU
  rw [h1]; rfl
set_option maxHeartbeats 4000000 in
theorem ve_chk : checkR (bW.loops Wl2_L) Wl2_T 300 veL.f ven (bodyOf Try.prog veL.f veL.id) veS veM veL.F veL.nx veS veL.outs veL.kk veT [] = true := by kernel_rfl
theorem ve_ok : LCT Try.prog veL (FT Wl2_T) (veG (FT Wl2_T)) :=
  lct_of (b := bW.loops Wl2_L) (Tb := Wl2_T) (y := veL) (M := veM) (T := fun _ => veT) (S := fun _ => veS) (init := veI) (loops_ok bW_ok _) (lb_of Wl2_lb) Wl2_ok (d := 300) (n := ven) (by kernel_rfl) (by kernel_rfl) (by kernel_rfl) (by kernel_rfl) (fun _ _ _ => ve_chk) (fun xs hp => ve_run _ xs hp)
theorem ve_cst (F : Nat → List Int → List Int) : Cst veL (veG F) := cst_of veC (by kernel_rfl) (fun _ _ _ => by kernel_rfl)
noncomputable def Wl3_Tve : List Ent := ⟨20021, [], .tup [], veG, true⟩ :: Wl2_T
def Wl3_Xve : List Ent := ⟨20021, [], .tup [], fun _ _ => [], true⟩ :: Wl2_X
def Wl3_Lve : List LEnt := veL :: Wl2_L
theorem Wl3_okve : TbOK Try.prog Wl3_Tve := tb_loop Wl2_ok rfl (by kernel_rfl)
theorem Wl3_lbve : LBs Try.prog Wl3_Lve Wl3_Tve := lbs_loop (y := veL) Wl2_lb (by kernel_rfl) (by kernel_rfl) (by kernel_rfl) ve_ok (ve_cst _)
noncomputable def Wl3_T : List Ent := Wl3_Tve
def Wl3_X : List Ent := Wl3_Xve
def Wl3_L : List LEnt := Wl3_Lve
theorem Wl3_ok : TbOK Try.prog Wl3_T := Wl3_okve
theorem Wl3_lb : LBs Try.prog Wl3_L Wl3_T := Wl3_lbve
end Go.Proofs.Ytedfbamihjnhhaa.Own
