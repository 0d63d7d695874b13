/- A world made: what is known. -/
/- A world turned: what is known of a body that is not as it was. -/
/- A world made: loops that find nothing. -/
import Derived.Test.YtedfbamihjnhhaaLm7
import Derived.Test.YtedfbamihjnhhaaWtP
import Derived.Test.YtedfbamihjnhhaaTd6
import Derived.Test.YtedfbamihjnhhaaWmG
section
namespace Go.Proofs.Ytedfbamihjnhhaa.Own
open Go Go.RowKit Go.Proofs Go.Proofs.Ytedfbamihjnhhaa.Plain
set_option linter.unusedVariables false
set_option maxRecDepth 100000
def wmF0 : SE := (.cmp .eql (.app 20031 0 (some .i64) (.cons wtL6 .nil)) (.lit .i64 0))
def wmF1 : SE := (.cmp .eql (.app 20061 0 (some .i64) (.cons wtL0 (.cons wtL5 .nil))) (.lit .i64 0))
def wmF2 : SE := (.cmp .eql (.app 20034 0 (some .i64) (.cons wtL4 (.cons (.len wtL6) .nil))) (.lit .i64 0))
def wmF3 : SE := (.not (.app 54 0 none (.cons wtL1 (.cons wtL2 (.cons (.lit .i64 1048576) .nil)))))
def wmF4 : SE := (.not (.app 54 0 none (.cons (.lit .i64 0) (.cons (.bin .shl .u64 (.conv .u64 (.ivar .u8 4)) (.lit .u64 56)) (.cons (.lit .i64 1) .nil)))))
def wmF5 : SE := (.not (.app 54 0 none (.cons (.lit .i64 0) (.cons (.bin .shl .u64 (.conv .u64 (.bin .rem .u8 (.ivar .u8 4) (.lit .u8 4))) (.lit .u64 62)) (.cons (.lit .i64 1) .nil)))))
def wmF6 : SE := (.not (.app 53 0 none (.cons (.bin .rem .i64 (.bin .quo .i64 (.conv .i64 (.ivar .u8 4)) (.lit .i64 4)) (.lit .i64 2)) (.cons (.lit .i64 0) (.cons (.lit .i64 1) .nil)))))
def wmF7 : SE := (.not (.app 53 0 none (.cons (.bin .rem .i64 (.bin .quo .i64 (.conv .i64 (.ivar .u8 4)) (.lit .i64 8)) (.lit .i64 2)) (.cons (.lit .i64 0) (.cons (.lit .i64 1) .nil)))))
def wmF8 : SE := (.cmp .eql (.app 20081 0 (some .i64) (.cons (.lit .i64 0) (.cons (.lit .i64 0) (.cons (.lit .u64 1152921504606846976) (.cons wtL1 (.cons wtL2 (.cons (.lit .i64 0) (.cons (.lit .u64 4611686018427387904) (.cons (.lit .i64 0) (.cons (.bin .shl .u64 (.conv .u64 (.ivar .u8 4)) (.lit .u64 56)) (.cons (.lit .i64 0) (.cons (.bin .shl .u64 (.conv .u64 (.bin .rem .u8 (.ivar .u8 4) (.lit .u8 4))) (.lit .u64 62)) (.cons (.bin .rem .i64 (.bin .quo .i64 (.conv .i64 (.ivar .u8 4)) (.lit .i64 4)) (.lit .i64 2)) (.cons (.bin .rem .i64 (.bin .quo .i64 (.conv .i64 (.ivar .u8 4)) (.lit .i64 8)) (.lit .i64 2)) (.cons wtL0 (.cons wtL6 (.cons wtL4 (.cons (.lit .i64 0) (.cons (.lit .u64 0) (.cons (.lit .i64 0) (.cons (.lit .u64 0) (.cons (.lit .i64 0) (.cons (.lit .u64 0) (.cons wtL5 .nil)))))))))))))))))))))))) (.lit .i64 0))
def wmF9 : SE := (.cmp .eql (.app 20083 0 (some .i64) (.cons (.lit .i64 0) (.cons (.lit .i64 0) (.cons (.lit .u64 1152921504606846976) (.cons wtL1 (.cons wtL2 (.cons (.lit .i64 0) (.cons (.lit .u64 4611686018427387904) (.cons (.lit .i64 0) (.cons (.bin .shl .u64 (.conv .u64 (.ivar .u8 4)) (.lit .u64 56)) (.cons (.lit .i64 0) (.cons (.bin .shl .u64 (.conv .u64 (.bin .rem .u8 (.ivar .u8 4) (.lit .u8 4))) (.lit .u64 62)) (.cons (.bin .rem .i64 (.bin .quo .i64 (.conv .i64 (.ivar .u8 4)) (.lit .i64 4)) (.lit .i64 2)) (.cons (.bin .rem .i64 (.bin .quo .i64 (.conv .i64 (.ivar .u8 4)) (.lit .i64 8)) (.lit .i64 2)) (.cons wtL0 (.cons wtL6 (.cons wtL4 (.cons (.lit .i64 0) (.cons (.lit .u64 0) (.cons (.lit .i64 0) (.cons (.lit .u64 0) (.cons (.lit .i64 0) (.cons (.lit .u64 0) (.cons wtL5 .nil)))))))))))))))))))))))) (.lit .i64 0))
def wmF10 : SE := (.cmp .leq (.len wtL9) (.lit .i64 1000000))
def wmF11 : SE := (.cmp .eql (.app 20061 0 (some .i64) (.cons wtL0 (.cons wtL10 .nil))) (.lit .i64 0))
def wmF12 : SE := (.cmp .eql (.app 20033 0 (some .i64) (.cons wtL9 (.cons (.len wtL0) .nil))) (.lit .i64 0))
def wmF13 : SE := (.cmp .eql (.app 20034 0 (some .i64) (.cons wtL8 (.cons (.len wtL6) .nil))) (.lit .i64 0))
def wmF14 : SE := (.cmp .eql (.app 20071 0 (some .i64) (.cons (.lit .i64 0) (.cons (.lit .i64 0) (.cons (.lit .u64 1152921504606846976) (.cons wtL1 (.cons wtL2 (.cons (.lit .i64 0) (.cons (.lit .u64 4611686018427387904) (.cons (.lit .i64 0) (.cons (.bin .shl .u64 (.conv .u64 (.ivar .u8 4)) (.lit .u64 56)) (.cons (.lit .i64 0) (.cons (.bin .shl .u64 (.conv .u64 (.bin .rem .u8 (.ivar .u8 4) (.lit .u8 4))) (.lit .u64 62)) (.cons (.bin .rem .i64 (.bin .quo .i64 (.conv .i64 (.ivar .u8 4)) (.lit .i64 4)) (.lit .i64 2)) (.cons (.bin .rem .i64 (.bin .quo .i64 (.conv .i64 (.ivar .u8 4)) (.lit .i64 8)) (.lit .i64 2)) (.cons wtL0 (.cons wtL9 (.cons wtL6 (.cons wtL8 (.cons (.lit .i64 0) (.cons (.lit .u64 0) (.cons (.lit .i64 0) (.cons (.lit .u64 0) (.cons (.lit .i64 0) (.cons (.lit .u64 0) (.cons wtL10 .nil))))))))))))))))))))))))) (.lit .i64 0))
def wmF15 : SE := (.cmp .eql (.app 20072 0 (some .i64) (.cons (.lit .i64 0) (.cons (.lit .i64 0) (.cons (.lit .u64 1152921504606846976) (.cons wtL1 (.cons wtL2 (.cons (.lit .i64 0) (.cons (.lit .u64 4611686018427387904) (.cons (.lit .i64 0) (.cons (.bin .shl .u64 (.conv .u64 (.ivar .u8 4)) (.lit .u64 56)) (.cons (.lit .i64 0) (.cons (.bin .shl .u64 (.conv .u64 (.bin .rem .u8 (.ivar .u8 4) (.lit .u8 4))) (.lit .u64 62)) (.cons (.bin .rem .i64 (.bin .quo .i64 (.conv .i64 (.ivar .u8 4)) (.lit .i64 4)) (.lit .i64 2)) (.cons (.bin .rem .i64 (.bin .quo .i64 (.conv .i64 (.ivar .u8 4)) (.lit .i64 8)) (.lit .i64 2)) (.cons wtL0 (.cons wtL9 (.cons wtL6 (.cons wtL8 (.cons (.lit .i64 0) (.cons (.lit .u64 0) (.cons (.lit .i64 0) (.cons (.lit .u64 0) (.cons (.lit .i64 0) (.cons (.lit .u64 0) (.cons wtL10 (.cons (.app 20071 24 (some .i64) (.cons (.lit .i64 0) (.cons (.lit .i64 0) (.cons (.lit .u64 1152921504606846976) (.cons wtL1 (.cons wtL2 (.cons (.lit .i64 0) (.cons (.lit .u64 4611686018427387904) (.cons (.lit .i64 0) (.cons (.bin .shl .u64 (.conv .u64 (.ivar .u8 4)) (.lit .u64 56)) (.cons (.lit .i64 0) (.cons (.bin .shl .u64 (.conv .u64 (.bin .rem .u8 (.ivar .u8 4) (.lit .u8 4))) (.lit .u64 62)) (.cons (.bin .rem .i64 (.bin .quo .i64 (.conv .i64 (.ivar .u8 4)) (.lit .i64 4)) (.lit .i64 2)) (.cons (.bin .rem .i64 (.bin .quo .i64 (.conv .i64 (.ivar .u8 4)) (.lit .i64 8)) (.lit .i64 2)) (.cons wtL0 (.cons wtL9 (.cons wtL6 (.cons wtL8 (.cons (.lit .i64 0) (.cons (.lit .u64 0) (.cons (.lit .i64 0) (.cons (.lit .u64 0) (.cons (.lit .i64 0) (.cons (.lit .u64 0) (.cons wtL10 .nil))))))))))))))))))))))))) .nil)))))))))))))))))))))))))) (.lit .i64 0))
def wmF16 : SE := (.cmp .eql (.app 20073 0 (some .i64) (.cons (.lit .i64 0) (.cons (.lit .i64 0) (.cons (.lit .u64 1152921504606846976) (.cons wtL1 (.cons wtL2 (.cons (.lit .i64 0) (.cons (.lit .u64 4611686018427387904) (.cons (.lit .i64 0) (.cons (.bin .shl .u64 (.conv .u64 (.ivar .u8 4)) (.lit .u64 56)) (.cons (.lit .i64 0) (.cons (.bin .shl .u64 (.conv .u64 (.bin .rem .u8 (.ivar .u8 4) (.lit .u8 4))) (.lit .u64 62)) (.cons (.bin .rem .i64 (.bin .quo .i64 (.conv .i64 (.ivar .u8 4)) (.lit .i64 4)) (.lit .i64 2)) (.cons (.bin .rem .i64 (.bin .quo .i64 (.conv .i64 (.ivar .u8 4)) (.lit .i64 8)) (.lit .i64 2)) (.cons wtL0 (.cons wtL9 (.cons wtL6 (.cons wtL8 (.cons (.lit .i64 0) (.cons (.lit .u64 0) (.cons (.lit .i64 0) (.cons (.lit .u64 0) (.cons (.lit .i64 0) (.cons (.lit .u64 0) (.cons wtL10 .nil))))))))))))))))))))))))) (.lit .i64 0))
def wmA : List V := [.one (.sli 0 (.lvar 0)), .one (.sli 1 (.lvar 1)), .one (.sli 2 (.lvar 2)), .one (.sli 3 (.lvar 3)), .one (.opq (.ivar .u8 4))]
noncomputable def wmRun (ds : List (SE × Bool)) : Bool := checkK (bW.loops Lm7_L) Lm7_T wtK 300 7 wmA wtM 4 .done ds
def wmD_t : List (SE × Bool) := (wtH0, true) :: [(wtF0, true), (wtF1, true), (wtF2, true), (wtF3, true), (wtF4, true), (wtF26, true), (wtF33, true), (wtF34, false), (wtF35, false), (wtF45, false), (wmF0, false), (wtF6, true), (wtF7, false), (wmF1, false), (wmF2, false), (wmF3, false), (wmF4, false), (wmF5, false), (wmF6, false), (wmF7, false), (wmF8, false), (wmF9, false), (wtF47, true), (wtF32, true), (wtF13, true), (wtF39, true), (wmF10, true), (wtF24, true), (wtF27, true), (wtF28, true), (wtF30, true), (wtF5, false), (wtF8, false), (wtF9, false), (wtF10, false), (wtF11, false), (wtF12, false), (wtF38, true)]
def wmD_f : List (SE × Bool) := (wtH0, false) :: [(wtF0, true), (wtF1, true), (wtF2, true), (wtF3, true), (wtF4, true), (wtF26, true), (wtF33, true), (wtF34, false), (wtF35, false), (wmF0, false), (wmF3, false), (wmF4, false), (wmF5, false), (wmF6, false), (wmF7, false), (wtF47, true), (wtF13, true), (wtF39, true), (wmF10, true), (wtF24, true), (wtF27, true), (wtF28, true), (wtF30, true), (wtF5, false), (wtF9, false), (wtF10, false), (wtF38, true), (wtF14, false), (wtF40, false), (wtF46, false), (wtF15, true), (wtF16, false), (wmF11, false), (wmF12, false), (wmF13, false), (wmF14, false), (wmF15, false), (wmF16, false), (wtF17, false), (wtF18, false), (wtF19, false), (wtF20, false), (wtF21, false)]
set_option maxHeartbeats 40000000 in
theorem wmC_t : wmRun wmD_t = true := by kernel_rfl
set_option maxHeartbeats 40000000 in
theorem wmC_f : wmRun wmD_f = true := by kernel_rfl
end Go.Proofs.Ytedfbamihjnhhaa.Own
end
section
namespace Go.Proofs.Ytedfbamihjnhhaa.Own
open Go Go.RowKit Go.Proofs Go.Proofs.Ytedfbamihjnhhaa.Plain
set_option linter.unusedVariables false
set_option linter.unusedSimpArgs false
set_option linter.unusedSectionVars false
set_option maxRecDepth 100000
section
variable {xs : List Int} (hl : WtLen xs) (h0 : 0 < (dec (wtL0.val (wtEnv xs))).length) {B : SE} (hB : (dec (B.val (wtEnv xs))).length = (dec (wtL0.val (wtEnv xs))).length) (hr : BdR ((dec (B.val (wtEnv xs))).getD (wtPl xs) []))
include hl h0 hB hr
end
section
variable {xs : List Int} (hl : WtLen xs) (h0 : 0 < (dec (wtL0.val (wtEnv xs))).length)
include hl h0
end
end Go.Proofs.Ytedfbamihjnhhaa.Own
end
section
namespace Go.Proofs.Ytedfbamihjnhhaa.Own
open Go Go.RowKit Go.Proofs Go.Proofs.Ytedfbamihjnhhaa.Plain
set_option linter.unusedVariables false
set_option linter.unusedSectionVars false
set_option linter.unusedSimpArgs false
set_option maxRecDepth 100000
theorem range_good {T : RT} {c lv : Nat} {ex : List (SE × Bool)} (h : rgB c lv ex false T = true) {F : Nat → List Int → List Int} (J : List Int → Prop) (hJ : ∀ xs ys, J xs → T.get (envOf F xs) = (none, ys) → J ys)
  (good : ∀ xs (i : Nat), J xs → xs.getD c 0 = (i : Int) → i ≤ (dec (xs.getD lv 0)).length → ∀ e ys, T.get (envOf F xs) = (some e, ys) → e = 1) :
  ∀ (k i j : Nat) (xs : List Int), xs.getD c 0 = (i : Int) → i + k = (dec (xs.getD lv 0)).length + 1 → 0 < k → (dec (xs.getD lv 0)).length ≤ maxLen → J xs → ∃ ys, runL (fun _ => T) F j k xs = some (1, ys)
 | 0, _, _, _, _, _, hk, _, _ => by omega
 | k + 1, i, j, xs, hc, hik, _, hl, hj => by
  have hi : i ≤ (dec (xs.getD lv 0)).length := by omega
  cases hg : T.get (envOf F xs) with
  | mk o ys =>
   cases o with
   | some e =>
    have := good xs i hj hc hi e ys hg
    subst this
    exact ⟨ys, by simp only [runL, hg]⟩
   | none =>
    obtain ⟨h1, h2, h3⟩ := rg_next hc hl hi h (fun q => by cases q) ys hg
    obtain ⟨zs, hz⟩ := range_good h J hJ good k (i + 1) (j + 1) ys h2 (by rw [h3]; omega) (by omega) (by rw [h3]; exact hl) (hJ xs ys hj hg)
    exact ⟨zs, by simp only [runL, hg]; exact hz⟩
theorem lp_good {I : List SE} {T : RT} {U : List Int → Nat} {F : Nat → List Int → List Int} {xs : List Int} (h : ∃ ys, runL (fun _ => T) F 0 (U xs) (I.map (SE.val (envOf F xs))) = some (1, ys)) : ∃ ys, lpFn I (fun _ => T) U F xs = 1 :: ys := by
 obtain ⟨ys, h⟩ := h
 exact ⟨ys, by unfold lpFn; rw [h]; rfl⟩
def elB (lv c : Nat) : SE := (.cons (.el (some .i64) (.lvar lv) (.ivar .i64 c) 0) (.cons (.el (some .u64) (.lvar lv) (.ivar .i64 c) 1) (.cons (.el (some .i64) (.lvar lv) (.ivar .i64 c) 2) (.cons (.el (some .u64) (.lvar lv) (.ivar .i64 c) 3) (.cons (.el (some .i64) (.lvar lv) (.ivar .i64 c) 4) (.cons (.el (some .u64) (.lvar lv) (.ivar .i64 c) 5) (.cons (.el (some .i64) (.lvar lv) (.ivar .i64 c) 6) (.cons (.el (some .u64) (.lvar lv) (.ivar .i64 c) 7) (.cons (.el (some .i64) (.lvar lv) (.ivar .i64 c) 8) (.cons (.el (some .u64) (.lvar lv) (.ivar .i64 c) 9) (.cons (.el (some .i64) (.lvar lv) (.ivar .i64 c) 10) (.cons (.el (some .u64) (.lvar lv) (.ivar .i64 c) 11) (.cons (.el (some .i64) (.lvar lv) (.ivar .i64 c) 12) (.cons (.el (some .u64) (.lvar lv) (.ivar .i64 c) 13) (.cons (.el (some .i64) (.lvar lv) (.ivar .i64 c) 14) (.cons (.el (some .u64) (.lvar lv) (.ivar .i64 c) 15) (.cons (.el (some .i64) (.lvar lv) (.ivar .i64 c) 16) (.cons (.el (some .u64) (.lvar lv) (.ivar .i64 c) 17) (.cons (.el (some .i64) (.lvar lv) (.ivar .i64 c) 18) (.cons (.el (some .i64) (.lvar lv) (.ivar .i64 c) 19) .nil))))))))))))))))))))
def elR (lv c : Nat) : SE := (.cons (.el (some .i64) (.lvar lv) (.ivar .i64 c) 0) (.cons (.el (some .i64) (.lvar lv) (.ivar .i64 c) 1) (.cons (.el (some .u64) (.lvar lv) (.ivar .i64 c) 2) (.cons (.el (some .i64) (.lvar lv) (.ivar .i64 c) 3) (.cons (.el (some .u64) (.lvar lv) (.ivar .i64 c) 4) (.cons (.el (some .i64) (.lvar lv) (.ivar .i64 c) 5) (.cons (.el (some .i64) (.lvar lv) (.ivar .i64 c) 6) (.cons (.el (some .i64) (.lvar lv) (.ivar .i64 c) 7) (.cons (.el (some .i64) (.lvar lv) (.ivar .i64 c) 8) (.cons (.el (some .u64) (.lvar lv) (.ivar .i64 c) 9) (.cons (.ivar .i64 c) .nil)))))))))))
section
variable {F : Nat → List Int → List Int} {xs : List Int} {lv c i : Nat} (hc : xs.getD c 0 = (i : Int)) (hi : i ≤ 1000000)
include hc hi
theorem el_x {k : Option IntKind} {j : Nat} : (SE.el k (.lvar lv) (.ivar .i64 c) j).val (envOf F xs) = wrK k (((dec (xs.getD lv 0)).getD i []).getD j 0) := by
 rw [el_v (t := i) (iv_at hc (by omega)), lvar_at]
theorem elB_v : (elB lv c).vals (envOf F xs) = wr ((dec (xs.getD lv 0)).getD i []) := by
 unfold elB
 simp only [vals_c, vals_n, el_x hc hi]
 rfl
theorem elR_v : (elR lv c).vals (envOf F xs) = wrR ((dec (xs.getD lv 0)).getD i []) (i : Int) := by
 unfold elR
 simp only [vals_c, vals_n, el_x hc hi, iv_at hc (show i ≤ 1000000000000000000 by omega)]
 rfl
theorem guard_x (hl : (dec (xs.getD lv 0)).length ≤ 1000000) : ((SE.cmp .lss (.ivar .i64 c) (.len (.lvar lv))).val (envOf F xs) != 0) = decide (i < (dec (xs.getD lv 0)).length) :=
 lss_at (iv_at hc (by omega)) (len_at rfl (le_max hl))
end
/-! rails -/
theorem mr_all (F : Nat → List Int → List Int) (a : Int) (hn : (dec a).length ≤ 1000000) (hq : ∀ i, i < (dec a).length → F 42 (wrR ((dec a).getD i []) (i : Int)) = [1]) : ∃ ys, mrG F [a] = 1 :: ys := by
 have hQ : rtQ mrT = .not (.app 42 0 none (elR 0 1)) := rfl
 refine lp_good (range_good (T := mrT) (c := 1) (lv := 0) (ex := []) (by kernel_rfl) (fun xs => xs.getD 0 0 = a) (fun xs ys hJ hy => ?_) (fun xs i hJ hc hi e ys hg => ?_) _ 0 0 _ (at_lit (I := mrI) (by kernel_rfl)) (by rw [at_lvar (I := mrI) (j0 := 0) (by kernel_rfl)]; unfold mrU; omega) (Nat.succ_pos _) (by rw [at_lvar (I := mrI) (j0 := 0) (by kernel_rfl)]; exact le_max hn) (at_lvar (I := mrI) (c := 0) (j0 := 0) (by kernel_rfl)))
 ·have hB := (cB_get (hc := mrC) (outs := mrL.outs) (F := F) (xs := xs) (t := mrT) (by kernel_rfl)).1 ys hy
  have h0 : ys.getD 0 0 = xs.getD 0 0 := hB (0, 0, none) (by simp [mrC])
  exact h0.trans hJ
 ·have hJ : xs.getD 0 0 = a := hJ
  rw [hJ] at hi
  have him : i ≤ 1000000 := by omega
  rw [mr_get, guard_x hc him (by rw [hJ]; exact hn), hJ, hQ] at hg
  by_cases hlt : i < (dec a).length
  ·rw [decide_eq_true hlt, cond_true, ap_n (b := true) (by rw [elR_v hc him, hJ]; exact hq i hlt), Bool.not_true, cond_false] at hg
   cases hg
  ·rw [decide_eq_false hlt, cond_false] at hg
   cases hg; rfl
/-! bodies -/
theorem ib2_all (F : Nat → List Int → List Int) (l b : Int) (hn : (dec l).length ≤ 1000000) (hq : ∀ i, i < (dec l).length → F 44 (wr ((dec b).getD i [])) = [0]) : ∃ ys, ib2G F [l, b] = 1 :: ys := by
 have hQ : rtQ ib2T = .app 44 0 none (elB 1 2) := rfl
 refine lp_good (range_good (T := ib2T) (c := 2) (lv := 0) (ex := ib2E) (by kernel_rfl) (fun xs => xs.getD 0 0 = l ∧ xs.getD 1 0 = b) (fun xs ys hJ hy => ?_) (fun xs i hJ hc hi e ys hg => ?_) _ 0 0 _ (at_lit (I := ib2I) (by kernel_rfl)) (by rw [at_lvar (I := ib2I) (j0 := 0) (by kernel_rfl)]; unfold ib2U; omega) (Nat.succ_pos _) (by rw [at_lvar (I := ib2I) (j0 := 0) (by kernel_rfl)]; exact le_max hn) ⟨at_lvar (I := ib2I) (c := 0) (j0 := 0) (by kernel_rfl), at_lvar (I := ib2I) (c := 1) (j0 := 1) (by kernel_rfl)⟩)
 ·have hB := (cB_get (hc := ib2C) (outs := ib2L.outs) (F := F) (xs := xs) (t := ib2T) (by kernel_rfl)).1 ys hy
  have h0 : ys.getD 0 0 = xs.getD 0 0 := hB (0, 0, none) (by simp [ib2C])
  have h1 : ys.getD 1 0 = xs.getD 1 0 := hB (1, 1, none) (by simp [ib2C])
  exact ⟨h0.trans hJ.1, h1.trans hJ.2⟩
 ·obtain ⟨hJ, hJ1⟩ := hJ
  rw [hJ] at hi
  have him : i ≤ 1000000 := by omega
  rw [ib2_get, guard_x hc him (by rw [hJ]; exact hn), hJ, hQ] at hg
  by_cases hlt : i < (dec l).length
  ·rw [decide_eq_true hlt, cond_true, ap_y (b := false) (by rw [elB_v hc him, hJ1]; exact hq i hlt), cond_false] at hg
   cases hg
  ·rw [decide_eq_false hlt, cond_false] at hg
   cases hg; rfl
/-! places -/
theorem ia_get : ∃ N O : List SE, ∀ E : Env, iaT.get E = bif (SE.cmp .lss (.ivar .i64 2) (.len (.lvar 0))).val E != 0 then (bif (SE.not (.app 51 0 none (.cons (.el (some .i64) (.lvar 0) (.ivar .i64 2) 0) (.cons (.lit .i64 (-1)) (.cons (.bin .sub .i64 (.ivar .i64 1) (.lit .i64 1)) .nil))))).val E != 0 then (some 0, ([(.ivar .i64 2)] : List SE).map (SE.val E)) else (none, N.map (SE.val E))) else (some 1, O.map (SE.val E)) := ⟨_, _, fun E => rfl⟩
theorem sub1_v {F : Nat → List Int → List Int} {xs : List Int} {c : Nat} {n : Int} (hc : IntKind.i64.wrap (xs.getD c 0) = n) (hn : 0 ≤ n ∧ n ≤ 1000000) : (SE.bin .sub .i64 (.ivar .i64 c) (.lit .i64 1)).val (envOf F xs) = n - 1 := by
 rw [v_bin, iu_at, hc, v_lit, w1i]
 show IntKind.i64.wrap (n - 1) = _
 rw [IntKind.wrap_i64]; omega
theorem ia_all (F : Nat → List Int → List Int) (a n : Int) (hn : (dec a).length ≤ 1000000) (hm : 0 ≤ n ∧ n ≤ 1000000) (hq : ∀ i, i < (dec a).length → F 51 [IntKind.i64.wrap (((dec a).getD i []).getD 0 0), -1, n - 1] = [1]) : ∃ ys, iaG F [a, n] = 1 :: ys := by
 obtain ⟨N, O, hget⟩ := ia_get
 have wn : IntKind.i64.wrap n = n := by rw [IntKind.wrap_i64]; omega
 have ini : (iaI.map (SE.val (envOf F [a, n]))).getD 1 0 = n := by
  have : (iaI.map (SE.val (envOf F [a, n]))).getD 1 0 = (SE.ivar .i64 1).val (envOf F [a, n]) := rfl
  rw [this, iu_at]; exact wn
 refine lp_good (range_good (T := iaT) (c := 2) (lv := 0) (ex := []) (by kernel_rfl) (fun xs => xs.getD 0 0 = a ∧ IntKind.i64.wrap (xs.getD 1 0) = n) (fun xs ys hJ hy => ?_) (fun xs i hJ hc hi e ys hg => ?_) _ 0 0 _ (at_lit (I := iaI) (by kernel_rfl)) (by rw [at_lvar (I := iaI) (j0 := 0) (by kernel_rfl)]; unfold iaU; omega) (Nat.succ_pos _) (by rw [at_lvar (I := iaI) (j0 := 0) (by kernel_rfl)]; exact le_max hn) ⟨at_lvar (I := iaI) (c := 0) (j0 := 0) (by kernel_rfl), by rw [ini, wn]⟩)
 ·have hB := (cB_get (hc := iaC) (outs := iaL.outs) (F := F) (xs := xs) (t := iaT) (by kernel_rfl)).1 ys hy
  have h0 : ys.getD 0 0 = xs.getD 0 0 := hB (0, 0, none) (by simp [iaC])
  have h1 : wrK (some .i64) (ys.getD 1 0) = wrK (some .i64) (xs.getD 1 0) := hB (1, 1, some (some .i64)) (by simp [iaC])
  exact ⟨h0.trans hJ.1, h1.trans hJ.2⟩
 ·obtain ⟨hJ, hJ1⟩ := hJ
  rw [hJ] at hi
  have him : i ≤ 1000000 := by omega
  have m1 : IntKind.i64.wrap (-1) = -1 := rfl
  rw [hget, guard_x hc him (by rw [hJ]; exact hn), hJ] at hg
  by_cases hlt : i < (dec a).length
  ·rw [decide_eq_true hlt, cond_true, ap_n (b := true) (by rw [vals_c, vals_c, vals_c, vals_n, el_x hc him, sub1_v hJ1 hm, v_lit, m1, hJ]; exact hq i hlt), Bool.not_true, cond_false] at hg
   cases hg
  ·rw [decide_eq_false hlt, cond_false] at hg
   cases hg; rfl
/-! tethers -/
structure TeOK (f g : List Int → List Int) (n : Int) (el : List Int) : Prop where
 a : f [IntKind.i64.wrap (el.getD 0 0), 0, n - 1] = [1]
 b : f [IntKind.i64.wrap (el.getD 1 0), 0, n - 1] = [1]
 ne : IntKind.i64.wrap (el.getD 0 0) ≠ IntKind.i64.wrap (el.getD 1 0)
 len : g [IntKind.i64.wrap (el.getD 2 0), IntKind.u64.wrap (el.getD 3 0), 1073741824] = [1]
 lo : IntKind.u64.wrap (el.getD 3 0) ≠ 0
 lim : g [IntKind.i64.wrap (el.getD 4 0), IntKind.u64.wrap (el.getD 5 0), 1099511627776] = [1]
theorem it_get : ∃ N O : List SE, ∀ E : Env, itT.get E = bif (SE.cmp .lss (.ivar .i64 2) (.len (.lvar 0))).val E != 0 then (bif (SE.app 51 0 none (.cons (.el (some .i64) (.lvar 0) (.ivar .i64 2) 0) (.cons (.lit .i64 0) (.cons (.bin .sub .i64 (.ivar .i64 1) (.lit .i64 1)) .nil)))).val E != 0 then (bif (SE.app 51 0 none (.cons (.el (some .i64) (.lvar 0) (.ivar .i64 2) 1) (.cons (.lit .i64 0) (.cons (.bin .sub .i64 (.ivar .i64 1) (.lit .i64 1)) .nil)))).val E != 0 then
  (bif (SE.cmp .neq (.el (some .i64) (.lvar 0) (.ivar .i64 2) 0) (.el (some .i64) (.lvar 0) (.ivar .i64 2) 1)).val E != 0 then (bif (SE.app 75 0 none (.cons (.el (some .i64) (.lvar 0) (.ivar .i64 2) 2) (.cons (.el (some .u64) (.lvar 0) (.ivar .i64 2) 3) (.cons (.lit .i64 1073741824) .nil)))).val E != 0 then (bif (SE.not (.and (.cmp .eql (.el (some .i64) (.lvar 0) (.ivar .i64 2) 2) (.lit .i64 0)) (.and (.cmp .eql (.el (some .u64) (.lvar 0) (.ivar .i64 2) 3) (.lit .u64 0)) (.cmp .eql (.lit .i64 1) (.lit .i64 1))))).val E != 0 then
  (bif (SE.not (.app 75 0 none (.cons (.el (some .i64) (.lvar 0) (.ivar .i64 2) 4) (.cons (.el (some .u64) (.lvar 0) (.ivar .i64 2) 5) (.cons (.lit .i64 1099511627776) .nil))))).val E != 0 then (some 0, ([(.ivar .i64 2)] : List SE).map (SE.val E)) else (none, N.map (SE.val E))) else (some 0, ([(.ivar .i64 2)] : List SE).map (SE.val E))) else (some 0, ([(.ivar .i64 2)] : List SE).map (SE.val E))) else (some 0, ([(.ivar .i64 2)] : List SE).map (SE.val E))) else (some 0, ([(.ivar .i64 2)] : List SE).map (SE.val E))) else (some 0, ([(.ivar .i64 2)] : List SE).map (SE.val E))) else (some 1, O.map (SE.val E)) := ⟨_, _, fun E => rfl⟩
theorem it_all (F : Nat → List Int → List Int) (a n : Int) (hn : (dec a).length ≤ 1000000) (hm : 0 ≤ n ∧ n ≤ 1000000) (hq : ∀ i, i < (dec a).length → TeOK (F 51) (F 75) n ((dec a).getD i [])) : ∃ ys, itG F [a, n] = 1 :: ys := by
 obtain ⟨N, O, hget⟩ := it_get
 have wn : IntKind.i64.wrap n = n := by rw [IntKind.wrap_i64]; omega
 have ini : (itI.map (SE.val (envOf F [a, n]))).getD 1 0 = n := by
  have : (itI.map (SE.val (envOf F [a, n]))).getD 1 0 = (SE.ivar .i64 1).val (envOf F [a, n]) := rfl
  rw [this, iu_at]; exact wn
 refine lp_good (range_good (T := itT) (c := 2) (lv := 0) (ex := []) (by kernel_rfl) (fun xs => xs.getD 0 0 = a ∧ IntKind.i64.wrap (xs.getD 1 0) = n) (fun xs ys hJ hy => ?_) (fun xs i hJ hc hi e ys hg => ?_) _ 0 0 _ (at_lit (I := itI) (by kernel_rfl)) (by rw [at_lvar (I := itI) (j0 := 0) (by kernel_rfl)]; unfold itU; omega) (Nat.succ_pos _) (by rw [at_lvar (I := itI) (j0 := 0) (by kernel_rfl)]; exact le_max hn) ⟨at_lvar (I := itI) (c := 0) (j0 := 0) (by kernel_rfl), by rw [ini, wn]⟩)
 ·have hB := (cB_get (hc := itC) (outs := itL.outs) (F := F) (xs := xs) (t := itT) (by kernel_rfl)).1 ys hy
  have h0 : ys.getD 0 0 = xs.getD 0 0 := hB (0, 0, none) (by simp [itC])
  have h1 : wrK (some .i64) (ys.getD 1 0) = wrK (some .i64) (xs.getD 1 0) := hB (1, 1, some (some .i64)) (by simp [itC])
  exact ⟨h0.trans hJ.1, h1.trans hJ.2⟩
 ·obtain ⟨hJ, hJ1⟩ := hJ
  rw [hJ] at hi
  have him : i ≤ 1000000 := by omega
  rw [hget, guard_x hc him (by rw [hJ]; exact hn), hJ] at hg
  by_cases hlt : i < (dec a).length
  ·obtain ⟨ha, hb, hne, hlen, hlo, hlim⟩ := hq i hlt
   have w0 : IntKind.i64.wrap 0 = 0 := rfl
   have wL : IntKind.i64.wrap 1073741824 = 1073741824 := rfl
   have wM : IntKind.i64.wrap 1099511627776 = 1099511627776 := rfl
   have k3 : ((SE.cmp .neq (.el (some .i64) (.lvar 0) (.ivar .i64 2) 0) (.el (some .i64) (.lvar 0) (.ivar .i64 2) 1)).val (envOf F xs) != 0) = true := by
    rw [v_cmp, el_x hc him, el_x hc him, hJ]; exact bne_iff_ne.2 hne
   have k5 : ((SE.not (.and (.cmp .eql (.el (some .i64) (.lvar 0) (.ivar .i64 2) 2) (.lit .i64 0)) (.and (.cmp .eql (.el (some .u64) (.lvar 0) (.ivar .i64 2) 3) (.lit .u64 0)) (.cmp .eql (.lit .i64 1) (.lit .i64 1))))).val (envOf F xs) != 0) = true := by
    have q : ((SE.cmp .eql (.el (some .u64) (.lvar 0) (.ivar .i64 2) 3) (.lit .u64 0)).val (envOf F xs) != 0) = false := by
     rw [v_cmp, el_x hc him, hJ, v_lit]; exact beq_eq_false_iff_ne.2 hlo
    rw [v_not, v_and, v_and, q, Bool.false_and, Bool.and_false]; rfl
   rw [decide_eq_true hlt, cond_true, ap_y (b := true) (by rw [vals_c, vals_c, vals_c, vals_n, el_x hc him, sub1_v hJ1 hm, v_lit, w0, hJ]; exact ha), cond_true,
    ap_y (b := true) (by rw [vals_c, vals_c, vals_c, vals_n, el_x hc him, sub1_v hJ1 hm, v_lit, w0, hJ]; exact hb), cond_true, k3, cond_true,
    ap_y (b := true) (by rw [vals_c, vals_c, vals_c, vals_n, el_x hc him, el_x hc him, v_lit, wL, hJ]; exact hlen), cond_true, k5, cond_true,
    ap_n (b := true) (by rw [vals_c, vals_c, vals_c, vals_n, el_x hc him, el_x hc him, v_lit, wM, hJ]; exact hlim), Bool.not_true, cond_false] at hg
   cases hg
  ·rw [decide_eq_false hlt, cond_false] at hg
   cases hg; rfl
end Go.Proofs.Ytedfbamihjnhhaa.Own
end
