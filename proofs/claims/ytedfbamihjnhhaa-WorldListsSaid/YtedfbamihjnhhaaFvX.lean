/- A walk by reckoning: what it is given for this program. -/
import Derived.Test.YtedfbamihjnhhaaFvV
import Derived.Test.YtedfbamihjnhhaaLimbX
namespace Go.Proofs.Ytedfbamihjnhhaa.Own
open Go Go.RowKit Go.Proofs Go.Proofs.Ytedfbamihjnhhaa.Plain
open Go.Proofs.Ytedfbamihjnhhaa.Limb (add64_run sub64_run)
set_option linter.unusedVariables false
set_option linter.unusedSimpArgs false
set_option maxRecDepth 100000
def memFI : List (Nat × Nat) → Nat → Nat → Bool
  | [], _, _ => false
  | (a, b) :: r, f, i => bif Nat.beq a f && Nat.beq b i then true else memFI r f i
def xAdd : List V → Option V
  | [.one (.int .u64 x), .one (.int .u64 y), .one (.int .u64 z)] => bif decide (0 ≤ x ∧ 0 ≤ y ∧ 0 ≤ z ∧ z ≤ 1) then some (.tup [.one (.int .u64 ((x + y + z) % 18446744073709551616)), .one (.int .u64 ((x + y + z) / 18446744073709551616))]) else none
  | _ => none
def xSub : List V → Option V
  | [.one (.int .u64 (.ofNat x)), .one (.int .u64 (.ofNat y)), .one (.int .u64 (.ofNat z))] => bif Nat.ble z 1 then some (.tup [.one (.int .u64 (((x + 18446744073709551616 - y - z) % 18446744073709551616 : Nat) : Int)), .one (.int .u64 ((if x < y + z then 1 else 0 : Nat) : Int))]) else none
  | _ => none
def xh : Hook := fun f vs => bif Nat.beq f 96 then xAdd vs else bif Nat.beq f 98 then xSub vs else none
def tabE : List (Nat × Nat) := [(4, 9), (5, 11), (5, 13), (5, 15), (5, 17), (5, 21), (5, 23), (5, 26), (5, 9), (6, 14), (6, 23), (8, 11), (14, 5), (15, 5), (19, 3), (19, 5), (19, 6), (20, 1), (21, 7), (29, 4), (36, 4), (38, 8), (39, 5), (72, 2), (74, 6), (74, 7), (82, 1), (108, 1), (133, 14), (142, 9), (142, 13), (143, 13), (146, 12), (147, 9), (147, 12), (152, 1)]
def genE : List (Nat × Kind) := [(1000 + 18, .fresh), (1000 + 101, .quiet), (1000 + 23, .base), (1000 + 26, .base), (1000 + 14, .base), (1000 + 15, .base), (1000 + 12, .base), (1000 + 13, .base), (1000 + 25, .base), (1000 + 10, .base), (1000 + 27, .base)]
def cfE (f i : Nat) : List (Nat × Kind) := bif memFI [(142, 2)] f i then [(16, .quiet), (2005, .eff)] else bif memFI [(142, 14)] f i then [(2005, .eff)] else bif memFI tabE f i then (998, .eff) :: genE else genE
def cfS (f i : Nat) : List Nat := bif memFI [(142, 2), (142, 14)] f i then [4] else []
noncomputable def bW : Cfg := { P := Try.prog, X := xh, H := hnil, G := fun _ _ => none, D := fun _ => none, E := cfE, S := cfS, L := fun _ _ _ _ _ _ _ => none, W := fun _ => false }
theorem bW_ok : CfgOK bW := by
  refine ⟨fun e σ0 σ _ f vs v us h hus => ?_, by show Try.prog.follows .mixedOrders = true; kernel_rfl⟩
  change xh f vs = some v at h
  unfold xh at h
  cases h1 : Nat.beq f 96 with
  | true =>
    have := Nat.eq_of_beq_eq_true h1
    subst this
    simp only [h1, cond_true] at h
    unfold xAdd at h
    split at h
    · rename_i x y z
      cases hb : decide (0 ≤ x ∧ 0 ≤ y ∧ 0 ≤ z ∧ z ≤ 1) with
      | false => rw [hb, cond_false] at h; cases h
      | true =>
        rw [hb, cond_true] at h; cases h
        obtain ⟨hx, hy, hz, hz1⟩ := of_decide_eq_true hb
        cases hus with | cons a t => cases t with | cons b t => cases t with | cons c t => cases t; rw [iv_int a, iv_int b, iv_int c]; exact ⟨_, .tup (.cons (.one .int) (.cons (.one .int) .nil)), add64_run x y z hx hy hz hz1⟩
    · cases h
  | false =>
    simp only [h1, cond_false] at h
    cases h2 : Nat.beq f 98 with
    | true =>
      have := Nat.eq_of_beq_eq_true h2
      subst this
      simp only [h2, cond_true] at h
      unfold xSub at h
      split at h
      · rename_i x y z
        cases hb : Nat.ble z 1 with
        | false => rw [hb, cond_false] at h; cases h
        | true =>
          rw [hb, cond_true] at h; cases h
          have hz := Nat.le_of_ble_eq_true hb
          cases hus with | cons a t => cases t with | cons b t => cases t with | cons c t => cases t; rw [iv_int a, iv_int b, iv_int c]; exact ⟨_, .tup (.cons (.one .int) (.cons (.one .int) .nil)), sub64_run x y z hz⟩
      · cases h
    | false => simp only [h2, cond_false] at h; cases h
theorem bW_l {Tb : List Ent} : LB bW Tb := fun _ _ _ _ _ _ _ _ _ _ _ _ _ _ _ _ h => by cases h
/-- closed values -/
noncomputable def cf0 : Cfg := cfT bW [] []
def e0 : Env := envOf (FT []) []
theorem ok0 {σ0 : List (Nat × Nat × Nat)} : OK cf0 (eV e0) σ0 := okT bW_ok bW_l tb_nil rfl .nil
theorem awake23_pure : Pure Try.prog 24 #[] (.bool true) := pure_ev (c := cf0) (d := 300) (vs := []) (v := .one (.bool true)) ok0 (by kernel_rfl) .nil (.one .bool)
end Go.Proofs.Ytedfbamihjnhhaa.Own
