/- Package limb: what its functions compute, as numbers. -/
/- A walk by reckoning: what it is given for this program. -/
import Derived.Test.YtedfbamihjnhhaaInst
import Derived.Test.YtedfbamihjnhhaaLimbQ
import Derived.Test.YtedfbamihjnhhaaFvV
section
namespace Go.Proofs.Ytedfbamihjnhhaa.Own
open Go Go.RowKit Go.Proofs Go.Proofs.Ytedfbamihjnhhaa.Plain
open Go.Proofs.Ytedfbamihjnhhaa.Limb (limb_Add.f limb_Add.calls limb_Sub.f limb_Sub.calls limb_Len.f limb_Len.calls limb_list.calls0 limb_four.calls0 n2 n4 e2 e4 Wd DivNum divnum_start div_round double_words val2_mod div_in div_out quot_bit set_word div_end beyond_iff hi_word lo_word bit_calls sub_calls)
set_option linter.unusedVariables false
set_option linter.unusedSimpArgs false
structure Two where
 hi : Int
 lo : Int
 b : 0 ≤ hi ∧ hi < 18446744073709551616 ∧ 0 ≤ lo ∧ lo < 18446744073709551616
def Two.n (a : Two) : Nat := n2 a.hi a.lo
@[reducible] def Two.v (a : Two) : Value := .agg #[.int .u64 a.hi, .int .u64 a.lo]
def Two.of (N : Nat) : Two := ⟨(wrd 1 N : Nat), (wrd 0 N : Nat), by have := wrd_lt 1 N; have := wrd_lt 0 N; omega⟩
structure Four where
 hi : Two
 lo : Two
def Four.n (a : Four) : Nat := n4 a.hi.hi a.hi.lo a.lo.hi a.lo.lo
@[reducible] def Four.v (a : Four) : Value := .agg #[.int .u64 a.hi.hi, .int .u64 a.hi.lo, .int .u64 a.lo.hi, .int .u64 a.lo.lo]
def Four.of (N : Nat) : Four := ⟨⟨(wrd 3 N : Nat), (wrd 2 N : Nat), by have := wrd_lt 3 N; have := wrd_lt 2 N; omega⟩, ⟨(wrd 1 N : Nat), (wrd 0 N : Nat), by have := wrd_lt 1 N; have := wrd_lt 0 N; omega⟩⟩
theorem Two.wd (a : Two) : Wd a.hi ∧ Wd a.lo := by have := a.b; unfold Wd; omega
theorem Two.lt (a : Two) : a.n < 340282366920938463463374607431768211456 := by have := a.b; unfold Two.n n2 val2; omega
theorem Four.lt (a : Four) : a.n < 115792089237316195423570985008687907853269984665640564039457584007913129639936 := by have := a.hi.b; have := a.lo.b; unfold Four.n n4 val4; omega
theorem Four.n_eq (a : Four) : a.n = a.hi.n * 340282366920938463463374607431768211456 + a.lo.n := by have := a.hi.b; have := a.lo.b; unfold Four.n Two.n n4 n2 val4 val2; omega
theorem Two.of_n (N : Nat) : (Two.of N).n = N % 340282366920938463463374607431768211456 := by
 unfold Two.n Two.of n2 val2 wrd; simp only [Int.toNat_natCast, Nat.reducePow]; omega
theorem Two.n_of (a : Two) : Two.of a.n = a := by
 obtain ⟨h, l, hb⟩ := a
 simp only [Two.n, Two.of, n2, val2, wrd, Two.mk.injEq, Nat.reducePow]; omega
theorem Two.ext_n {a b : Two} (h : a.n = b.n) : a = b := by rw [← Two.n_of a, ← Two.n_of b, h]
theorem Four.of_n (N : Nat) : (Four.of N).n = N % 115792089237316195423570985008687907853269984665640564039457584007913129639936 := by
 unfold Four.n Four.of n4 val4 wrd; simp only [Int.toNat_natCast, Nat.reducePow]; omega
theorem Four.n_of (a : Four) : Four.of a.n = a := by
 obtain ⟨⟨h, l, hb⟩, ⟨h', l', hb'⟩⟩ := a
 simp only [Four.n, Four.of, n4, val4, wrd, Four.mk.injEq, Two.mk.injEq, Nat.reducePow]
 omega
theorem Four.ext_n {a b : Four} (h : a.n = b.n) : a = b := by rw [← Four.n_of a, ← Four.n_of b, h]
theorem add_pure (a b : Two) : Pure Try.prog 66 #[a.v, b.v] (.tuple #[(Two.of (a.n + b.n)).v, .bool (decide (340282366920938463463374607431768211456 ≤ a.n + b.n))]) := fun w =>
 limb_Add.calls _ _ _ _ _ _ _ w (by unfold limb_Add.f; rw [if_pos ⟨a.wd.1, a.wd.2, b.wd⟩]; rfl)
theorem sub_pure (a b : Two) : Pure Try.prog 69 #[a.v, b.v] (.tuple #[(Two.of (a.n + 340282366920938463463374607431768211456 - b.n)).v, .bool (decide (a.n < b.n))]) := fun w =>
 limb_Sub.calls _ _ _ _ _ _ _ w (by unfold limb_Sub.f; rw [if_pos ⟨a.wd.1, a.wd.2, b.wd⟩]; rfl)
theorem len_pure (a : Four) : Pure Try.prog 97 #[a.v] (.int .i64 (blen a.n : Nat)) := fun w =>
 limb_Len.calls _ _ _ _ _ w (by unfold limb_Len.f; rw [if_pos ⟨a.hi.wd.1, a.hi.wd.2, a.lo.wd⟩]; rfl)
theorem list_pure (a : Four) : Pure Try.prog 148 #[a.v] (.agg #[.int .u64 a.lo.lo, .int .u64 a.lo.hi, .int .u64 a.hi.lo, .int .u64 a.hi.hi]) := fun w => limb_list.calls0 _ _ _ _ w
theorem four_pure (x0 x1 x2 x3 : Int) : Pure Try.prog 150 #[.agg #[.int .u64 x0, .int .u64 x1, .int .u64 x2, .int .u64 x3]] (.agg #[.int .u64 x3, .int .u64 x2, .int .u64 x1, .int .u64 x0]) := fun w => limb_four.calls0 _ _ _ _ w
theorem bit_pure {a b c d n : Nat} (ha : a < 18446744073709551616) (hb : b < 18446744073709551616) (hc : c < 18446744073709551616) (hd : d < 18446744073709551616) (hn : n < 256) : Pure Try.prog 149 #[.agg #[.int .u64 (d : Nat), .int .u64 (c : Nat), .int .u64 (b : Nat), .int .u64 (a : Nat)], .int .i64 (n : Nat)] (.int .u64 (val4 a b c d / 2 ^ n % 2 : Nat)) := fun w => bit_calls a b c d n ha hb hc hd hn w
theorem subw_pure {x1 x0 p q : Nat} (h1 : x1 < 18446744073709551616) (h0 : x0 < 18446744073709551616) (hp : p < 18446744073709551616) (hq : q < 18446744073709551616) :
  Pure Try.prog 69 #[.agg #[.int .u64 (x1 : Nat), .int .u64 (x0 : Nat)], .agg #[.int .u64 (p : Nat), .int .u64 (q : Nat)]] (.tuple #[.agg #[.int .u64 (wrd 1 (val2 x1 x0 + 340282366920938463463374607431768211456 - val2 p q) : Nat), .int .u64 (wrd 0 (val2 x1 x0 + 340282366920938463463374607431768211456 - val2 p q) : Nat)], .bool (decide (val2 x1 x0 < val2 p q))]) := fun w => sub_calls x1 x0 p q h1 h0 hp hq w
end Go.Proofs.Ytedfbamihjnhhaa.Own
end
section
namespace Go.Proofs.Ytedfbamihjnhhaa.Own
open Go Go.RowKit Go.Proofs Go.Proofs.Ytedfbamihjnhhaa.Plain
open Go.Proofs.Ytedfbamihjnhhaa.Limb (add64_run sub64_run)
set_option linter.unusedVariables false
set_option linter.unusedSimpArgs false
set_option maxRecDepth 100000
def memFI : List (Nat × Nat) → Nat → Nat → Bool
 | [], _, _ => false
 | (a, b) :: r, f, i => bif Nat.beq a f && Nat.beq b i then true else memFI r f i
def xAdd : List V → Option V
 | [.one (.int .u64 x), .one (.int .u64 y), .one (.int .u64 z)] => bif decide (0 ≤ x ∧ 0 ≤ y ∧ 0 ≤ z ∧ z ≤ 1) then some (.tup [.one (.int .u64 ((x + y + z) % 18446744073709551616)), .one (.int .u64 ((x + y + z) / 18446744073709551616))]) else none
 | _ => none
def xSub : List V → Option V
 | [.one (.int .u64 (.ofNat x)), .one (.int .u64 (.ofNat y)), .one (.int .u64 (.ofNat z))] => bif Nat.ble z 1 then some (.tup [.one (.int .u64 (((x + 18446744073709551616 - y - z) % 18446744073709551616 : Nat) : Int)), .one (.int .u64 ((if x < y + z then 1 else 0 : Nat) : Int))]) else none
 | _ => none
def xh : Hook := fun f vs => bif Nat.beq f 96 then xAdd vs else bif Nat.beq f 98 then xSub vs else none
def tabE : List (Nat × Nat) := [(4, 9), (5, 11), (5, 13), (5, 15), (5, 17), (5, 21), (5, 23), (5, 26), (5, 9), (6, 14), (6, 23), (8, 11), (14, 5), (15, 5), (19, 3), (19, 5), (19, 6), (20, 1), (21, 7), (29, 4), (36, 4), (38, 8), (39, 5), (72, 2), (74, 6), (74, 7), (82, 1), (108, 1), (133, 14), (142, 9), (142, 13), (143, 13), (146, 12), (147, 9), (147, 12), (152, 1)]
def genE : List (Nat × Kind) := [(1000 + 21, .fresh), (1000 + 64, .base), (1000 + 18, .fresh), (1000 + 101, .quiet), (1000 + 23, .base), (1000 + 26, .base), (1000 + 14, .base), (1000 + 15, .base), (1000 + 12, .base), (1000 + 13, .base), (1000 + 25, .base), (1000 + 10, .base), (1000 + 27, .base)]
def cfE (f i : Nat) : List (Nat × Kind) := bif memFI [(142, 2)] f i then [(16, .quiet), (2005, .eff)] else bif memFI [(142, 14)] f i then [(2005, .eff)] else bif memFI [(7, 2)] f i then (1000 + 26, .quiet) :: genE else bif memFI tabE f i then (998, .eff) :: genE else genE
def cfS (f i : Nat) : List Nat := bif memFI [(142, 2), (142, 14)] f i then [4] else []
noncomputable def bW : Cfg := { P := Try.prog, X := xh, H := hnil, G := fun _ _ => none, D := fun _ => none, E := cfE, S := cfS, L := fun _ _ _ _ _ _ _ => none, W := fun _ => false }
theorem bW_ok : CfgOK bW := by
 refine ⟨fun e σ0 σ _ f vs v us h hus => ?_, by show Try.prog.follows .mixedOrders = true; kernel_rfl⟩
 change xh f vs = some v at h
 unfold xh at h
 cases h1 : Nat.beq f 96 with
 | true =>
  have := Nat.eq_of_beq_eq_true h1
  subst this
  simp only [h1, cond_true] at h
  unfold xAdd at h
  split at h
  ·rename_i x y z
   cases hb : decide (0 ≤ x ∧ 0 ≤ y ∧ 0 ≤ z ∧ z ≤ 1) with
   | false => rw [hb, cond_false] at h; cases h
   | true =>
    rw [hb, cond_true] at h; cases h
    obtain ⟨hx, hy, hz, hz1⟩ := of_decide_eq_true hb
    cases hus with | cons a t => cases t with | cons b t => cases t with | cons c t => cases t; rw [iv_int a, iv_int b, iv_int c]; exact ⟨_, .tup (.cons (.one .int) (.cons (.one .int) .nil)), add64_run x y z hx hy hz hz1⟩
  ·cases h
 | false =>
  simp only [h1, cond_false] at h
  cases h2 : Nat.beq f 98 with
  | true =>
   have := Nat.eq_of_beq_eq_true h2
   subst this
   simp only [h2, cond_true] at h
   unfold xSub at h
   split at h
   ·rename_i x y z
    cases hb : Nat.ble z 1 with
    | false => rw [hb, cond_false] at h; cases h
    | true =>
     rw [hb, cond_true] at h; cases h
     have hz := Nat.le_of_ble_eq_true hb
     cases hus with | cons a t => cases t with | cons b t => cases t with | cons c t => cases t; rw [iv_int a, iv_int b, iv_int c]; exact ⟨_, .tup (.cons (.one .int) (.cons (.one .int) .nil)), sub64_run x y z hz⟩
   ·cases h
  | false => simp only [h2, cond_false] at h; cases h
theorem bW_l {Tb : List Ent} : LB bW Tb := fun _ _ _ _ _ _ _ _ _ _ _ _ _ _ _ _ h => by cases h
noncomputable def cf0 : Cfg := cfT bW [] []
def e0 : Env := envOf (FT []) []
theorem ok0 {σ0 : List (Nat × Nat × Nat)} : OK cf0 (eV e0) σ0 := okT bW_ok bW_l tb_nil rfl .nil
theorem awake23_pure : Pure Try.prog 24 #[] (.bool true) := pure_ev (c := cf0) (d := 300) (vs := []) (v := .one (.bool true)) ok0 (by kernel_rfl) .nil (.one .bool)
end Go.Proofs.Ytedfbamihjnhhaa.Own
end
