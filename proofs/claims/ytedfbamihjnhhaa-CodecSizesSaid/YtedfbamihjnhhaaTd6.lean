/- The document's division, bit by bit: what its loop makes of numbers. -/
/- Contracts as trees, found by program and checked by the kernel. -/
import Derived.Test.YtedfbamihjnhhaaWtP
section
namespace Go.Proofs.Ytedfbamihjnhhaa.Own
open Go Go.RowKit Go.Proofs Go.Proofs.Ytedfbamihjnhhaa.Plain
open Go.Proofs.Ytedfbamihjnhhaa.Limb (DivNum divnum_start div_round double_words val2_mod div_in div_out quot_bit set_word div_end beyond_iff hi_word lo_word)
set_option linter.unusedVariables false
set_option linter.unusedSimpArgs false
set_option maxRecDepth 100000
theorem nat_w {n : Nat} (h : n < 18446744073709551616) : IntKind.u64.wrap (n : Int) = (n : Int) := by rw [IntKind.wrap_u64]; omega
theorem v_bin {op : BinOp} {k : IntKind} {a b : SE} {e : Env} : (SE.bin op k a b).val e = valBin op k (a.val e) (b.val e) := by simp only [SE.val]
theorem v_lit {k : IntKind} {n : Int} {e : Env} : (SE.lit k n).val e = k.wrap n := by simp only [SE.val]
theorem v_not {a : SE} {e : Env} : ((SE.not a).val e != 0) = !(a.val e != 0) := by simp only [SE.val, b2i_ne]
theorem v_app {F : Nat → List Int → List Int} {xs : List Int} {f i : Nat} {k : Option IntKind} {zs : SE} : (SE.app f i k zs).val (envOf F xs) = wrK k ((F f (zs.vals (envOf F xs))).getD i 0) := by
 simp only [SE.val]; rfl
theorem v_cmp {op : BinOp} {a b : SE} {e : Env} : ((SE.cmp op a b).val e != 0) = valCmp op (a.val e) (b.val e) := by simp only [SE.val, b2i_ne]
theorem iu_n {F : Nat → List Int → List Int} {zs : List Int} {j n : Nat} (h : zs.getD j 0 = (n : Int)) (hn : n < 18446744073709551616) : (SE.ivar .u64 j).val (envOf F zs) = (n : Int) := by
 have e : (SE.ivar .u64 j).val (envOf F zs) = IntKind.u64.wrap (zs.getD j 0) := by simp only [SE.val]; rfl
 rw [e, h, nat_w hn]
theorem vb_shr (n s : Nat) (hs : s < 64) (hn : n < 18446744073709551616) : valBin .shr .u64 (n : Int) (s : Int) = ((n / 2 ^ s : Nat) : Int) := by
 show IntKind.u64.wrap ((n : Int).fdiv (2 ^ (min ((s : Int)).toNat IntKind.u64.bits))) = _
 rw [Int.toNat_natCast, show min s (IntKind.bits .u64) = s from Nat.min_eq_left (by show s ≤ 64; omega), Int.fdiv_eq_ediv_of_nonneg _ (Int.pow_nonneg (by decide)), show (2 : Int) ^ s = ((2 ^ s : Nat) : Int) by rw [Int.natCast_pow]; rfl, ← Int.natCast_ediv]
 exact nat_w (Nat.lt_of_le_of_lt (Nat.div_le_self _ _) hn)
theorem vb_and1 (n : Nat) (hn : n < 18446744073709551616) : valBin .and .u64 (n : Int) 1 = ((n % 2 : Nat) : Int) := by
 have h := u64_and_nat n 1 hn (by decide)
 have e : n &&& 1 = n % 2 := Nat.and_two_pow_sub_one_eq_mod n 1
 rw [e] at h
 show IntKind.u64.wrap (bits .and .u64 (n : Int) 1) = _
 have h' : bits .and .u64 (n : Int) 1 = ((n % 2 : Nat) : Int) := h
 rw [h']; exact nat_w (by omega)
theorem vb_shl1 (n : Nat) : valBin .shl .u64 (n : Int) 1 = IntKind.u64.wrap ((n : Int) * 2) := rfl
theorem vb_sub (a b : Int) : valBin .sub .u64 a b = IntKind.u64.wrap (a - b) := by unfold valBin; rfl
theorem w0u : IntKind.u64.wrap 0 = 0 := rfl
theorem w1u : IntKind.u64.wrap 1 = 1 := rfl
theorem w63u : IntKind.u64.wrap 63 = ((63 : Nat) : Int) := rfl
section
variable {F : Nat → List Int → List Int} {zs : List Int}
theorem dfHi_v {r1 r0 : Nat} (h4 : zs.getD 4 0 = (r1 : Int)) (h5 : zs.getD 5 0 = (r0 : Int)) (b1 : r1 < 18446744073709551616) (b0 : r0 < 18446744073709551616) : dfHi.val (envOf F zs) = ((r1 * 2 % 18446744073709551616 ||| r0 / 9223372036854775808 : Nat) : Int) := by
 unfold dfHi
 rw [v_bin, v_bin, v_bin, v_lit, v_lit, iu_n h4 b1, iu_n h5 b0, w1u, w63u, vb_shl1, vb_shr r0 63 (by omega) b0]
 have h := hi_word r1 r0 b0
 have e : ((r0 / 2 ^ 63 : Nat) : Int) = (r0 : Int) / 9223372036854775808 := by simp only [Nat.reducePow]; omega
 rw [e]
 show IntKind.u64.wrap (bits .or .u64 (IntKind.u64.wrap ((r1 : Int) * 2)) ((r0 : Int) / 9223372036854775808)) = _
 rw [h]
 exact nat_w (double_words r1 r0 0 (by omega) b1 b0).1
theorem dfBit_v {a b c d : Nat} (h8 : zs.getD 8 0 = (a : Int)) (h9 : zs.getD 9 0 = (b : Int)) (h10 : zs.getD 10 0 = (c : Int)) (h11 : zs.getD 11 0 = (d : Int)) (la : a < 18446744073709551616) (lb : b < 18446744073709551616) (lc : c < 18446744073709551616) (ld : d < 18446744073709551616) (k : Nat) (hk : k < 256) :
  (SE.bin .and .u64 (.bin .shr .u64 (.ivar .u64 (11 - k / 64)) (.lit .i64 (Int.ofNat (k % 64)))) (.lit .u64 1)).val (envOf F zs) = ((val4 a b c d / 2 ^ k % 2 : Nat) : Int) := by
 have hm : k % 64 < 64 := Nat.mod_lt _ (by decide)
 obtain ⟨b0, b1, b2, b3⟩ := bit_of a b c d (k % 64) ld lc lb
 have wi : IntKind.i64.wrap (Int.ofNat (k % 64)) = ((k % 64 : Nat) : Int) := by rw [IntKind.wrap_i64]; show (((k % 64 : Nat) : Int) + _) % _ - _ = _; omega
 have fin : ∀ (j x : Nat), zs.getD j 0 = (x : Int) → x < 18446744073709551616 → x / 2 ^ (k % 64) % 2 = val4 a b c d / 2 ^ k % 2 → (SE.bin .and .u64 (.bin .shr .u64 (.ivar .u64 j) (.lit .i64 (Int.ofNat (k % 64)))) (.lit .u64 1)).val (envOf F zs) = ((val4 a b c d / 2 ^ k % 2 : Nat) : Int) := by
  intro j x hx lx h
  rw [v_bin, v_bin, v_lit, v_lit, iu_n hx lx, wi, w1u, vb_shr x _ hm lx, vb_and1 _ (Nat.lt_of_le_of_lt (Nat.div_le_self _ _) lx), h]
 rcases (show k / 64 = 0 ∨ k / 64 = 1 ∨ k / 64 = 2 ∨ k / 64 = 3 by omega) with h | h | h | h
 ·rw [h]; exact fin 11 d h11 ld (by rw [b0 hm]; congr 2; congr 1; omega)
 ·rw [h]; exact fin 10 c h10 lc (by rw [b1 hm]; congr 2; congr 1; omega)
 ·rw [h]; exact fin 9 b h9 lb (by rw [b2 hm]; congr 2; congr 1; omega)
 ·rw [h]; exact fin 8 a h8 la (by rw [b3 hm]; congr 2; congr 1; omega)
theorem dfLo_v {r0 a b c d e : Nat} (h5 : zs.getD 5 0 = (r0 : Int)) (h8 : zs.getD 8 0 = (a : Int)) (h9 : zs.getD 9 0 = (b : Int)) (h10 : zs.getD 10 0 = (c : Int)) (h11 : zs.getD 11 0 = (d : Int)) (b0 : r0 < 18446744073709551616) (la : a < 18446744073709551616) (lb : b < 18446744073709551616) (lc : c < 18446744073709551616) (ld : d < 18446744073709551616) (k : Nat) (hk : k < 256) (he : val4 a b c d / 2 ^ k % 2 = e) :
  (dfLo k).val (envOf F zs) = ((r0 * 2 % 18446744073709551616 ||| e : Nat) : Int) := by
 unfold dfLo
 have e2 : e < 2 := by rw [← he]; exact Nat.mod_lt _ (by decide)
 rw [v_bin, dfBit_v h8 h9 h10 h11 la lb lc ld k hk, v_bin, v_lit, iu_n h5 b0, w1u, vb_shl1, he]
 show IntKind.u64.wrap (bits .or .u64 (IntKind.u64.wrap ((r0 : Int) * 2)) (e : Int)) = _
 rw [lo_word r0 e e2]
 exact nat_w (double_words 0 r0 e e2 (by decide) b0).2.1
theorem dfQ_v {o0 o1 o2 o3 : Nat} (h0 : zs.getD 0 0 = (o0 : Int)) (h1 : zs.getD 1 0 = (o1 : Int)) (h2 : zs.getD 2 0 = (o2 : Int)) (h3 : zs.getD 3 0 = (o3 : Int)) (l0 : o0 < 18446744073709551616) (l1 : o1 < 18446744073709551616) (l2 : o2 < 18446744073709551616) (l3 : o3 < 18446744073709551616) (k : Nat) (hk : k < 256) (h : val4 o3 o2 o1 o0 % 2 ^ (k + 1) = 0) :
  ∃ y0 y1 y2 y3 : Nat, (dfQ k 0).val (envOf F zs) = (y0 : Int) ∧ (dfQ k 1).val (envOf F zs) = (y1 : Int) ∧ (dfQ k 2).val (envOf F zs) = (y2 : Int) ∧ (dfQ k 3).val (envOf F zs) = (y3 : Int) ∧
   val4 y3 y2 y1 y0 = val4 o3 o2 o1 o0 + 2 ^ k ∧ y0 < 18446744073709551616 ∧ y1 < 18446744073709551616 ∧ y2 < 18446744073709551616 ∧ y3 < 18446744073709551616 := by
 have hm : k % 64 < 64 := Nat.mod_lt _ (by decide)
 obtain ⟨z0, z1, z2, z3⟩ := quot_bit o3 o2 o1 o0 k (k % 64) hm l3 l2 l1 l0 h
 have st : ∀ (m o : Nat), zs.getD m 0 = (o : Int) → o < 18446744073709551616 → (o ||| 2 ^ (k % 64)) < 18446744073709551616 → (SE.bin .or .u64 (.ivar .u64 m) (.lit .u64 (Int.ofNat (2 ^ (k % 64))))).val (envOf F zs) = ((o ||| 2 ^ (k % 64) : Nat) : Int) := by
  intro m o ho lo lo2
  have sw := set_word o (k % 64) hm lo
  rw [v_bin, v_lit, iu_n ho lo]
  have e : (Int.ofNat (2 ^ (k % 64)) : Int) = 2 ^ (k % 64) := by show ((2 ^ (k % 64) : Nat) : Int) = _; rw [Int.natCast_pow]; rfl
  rw [e]
  show IntKind.u64.wrap (bits .or .u64 (o : Int) (IntKind.u64.wrap (2 ^ (k % 64)))) = _
  rw [sw]; exact nat_w lo2
 have q : ∀ m, dfQ k m = bif Nat.beq (k / 64) m then .bin .or .u64 (.ivar .u64 m) (.lit .u64 (Int.ofNat (2 ^ (k % 64)))) else .ivar .u64 m := fun m => rfl
 rw [q 0, q 1, q 2, q 3]
 rcases (show k / 64 = 0 ∨ k / 64 = 1 ∨ k / 64 = 2 ∨ k / 64 = 3 by omega) with g | g | g | g
 ·rw [g]; obtain ⟨y, e⟩ := z0 (by omega)
  exact ⟨_, o1, o2, o3, st 0 o0 h0 l0 y, iu_n h1 l1, iu_n h2 l2, iu_n h3 l3, e, y, l1, l2, l3⟩
 ·rw [g]; obtain ⟨y, e⟩ := z1 (by omega)
  exact ⟨o0, _, o2, o3, iu_n h0 l0, st 1 o1 h1 l1 y, iu_n h2 l2, iu_n h3 l3, e, l0, y, l2, l3⟩
 ·rw [g]; obtain ⟨y, e⟩ := z2 (by omega)
  exact ⟨o0, o1, _, o3, iu_n h0 l0, iu_n h1 l1, st 2 o2 h2 l2 y, iu_n h3 l3, e, l0, l1, y, l3⟩
 ·rw [g]; obtain ⟨y, e⟩ := z3 (by omega)
  exact ⟨o0, o1, o2, _, iu_n h0 l0, iu_n h1 l1, iu_n h2 l2, st 3 o3 h3 l3 y, e, l0, l1, l2, y⟩
end
theorem f35 (x1 x0 p q : Nat) (h1 : x1 < 18446744073709551616) (h0 : x0 < 18446744073709551616) (hp : p < 18446744073709551616) (hq : q < 18446744073709551616) : FT Tr6_T 35 [(x1 : Int), (x0 : Int), (p : Int), (q : Int)] = [b2i (decide (val2 x1 x0 < val2 p q))] := by
 have g : FT Tr6_T 35 = treeFn tr35 (FT Lm6_T) := by kernel_rfl
 rw [g]
 simp only [treeFn, tr35, ST.get, v_cmp]
 rw [iu_n (j := 0) rfl h1, iu_n (j := 2) rfl hp]
 simp only [valCmp]
 by_cases c1 : (x1 : Int) < (p : Int)
 ·rw [decide_eq_true c1, cond_true, show decide (val2 x1 x0 < val2 p q) = true by rw [decide_eq_true_eq]; unfold val2; omega]; rfl
 ·rw [decide_eq_false c1, cond_false]
  by_cases c2 : x1 = p
  ·subst c2
   rw [show ((x1 : Int) == (x1 : Int)) = true by simp, cond_true]
   have e : (flatV (V.one (C.opq (SE.cmp .lss (.ivar .u64 1) (.ivar .u64 3))))).map (valC (envOf (FT Lm6_T) [(x1 : Int), (x0 : Int), (x1 : Int), (q : Int)])) = [(SE.cmp .lss (.ivar .u64 1) (.ivar .u64 3)).val (envOf (FT Lm6_T) [(x1 : Int), (x0 : Int), (x1 : Int), (q : Int)])] := rfl
   rw [e]
   have e2 : (SE.cmp .lss (.ivar .u64 1) (.ivar .u64 3)).val (envOf (FT Lm6_T) [(x1 : Int), (x0 : Int), (x1 : Int), (q : Int)]) = b2i (decide ((x0 : Int) < (q : Int))) := by
    have := iu_n (F := FT Lm6_T) (zs := [(x1 : Int), (x0 : Int), (x1 : Int), (q : Int)]) (j := 1) rfl h0
    have := iu_n (F := FT Lm6_T) (zs := [(x1 : Int), (x0 : Int), (x1 : Int), (q : Int)]) (j := 3) rfl hq
    simp only [SE.val, valCmp] at *
    simp only [*]
   rw [e2]
   congr 2
   rw [decide_eq_decide]; unfold val2; omega
  ·rw [show ((x1 : Int) == (p : Int)) = false by rw [beq_eq_false_iff_ne]; omega, cond_false, show decide (val2 x1 x0 < val2 p q) = false by rw [decide_eq_false_iff_not]; unfold val2; omega]; rfl
theorem sub_hi (x1 x0 p q : Nat) (h1 : x1 < 18446744073709551616) (h0 : x0 < 18446744073709551616) (hp : p < 18446744073709551616) (hq : q < 18446744073709551616) :
  (x0 < q → IntKind.u64.wrap (IntKind.u64.wrap ((x1 : Int) - (p : Int)) - 1) = ((wrd 1 (val2 x1 x0 + 340282366920938463463374607431768211456 - val2 p q) : Nat) : Int)) ∧
  (¬ x0 < q → IntKind.u64.wrap (IntKind.u64.wrap ((x1 : Int) - (p : Int)) - 0) = ((wrd 1 (val2 x1 x0 + 340282366920938463463374607431768211456 - val2 p q) : Nat) : Int)) ∧
  IntKind.u64.wrap ((x0 : Int) - (q : Int)) = ((wrd 0 (val2 x1 x0 + 340282366920938463463374607431768211456 - val2 p q) : Nat) : Int) := by
 unfold val2 wrd
 simp only [Nat.reducePow, IntKind.wrap_u64]
 refine ⟨fun h => by omega, fun h => by omega, by omega⟩
theorem f36_of (x1 x0 p q : Nat) (W1 W0 : Int) (ls : Bool) (h1 : x1 < 18446744073709551616) (h0 : x0 < 18446744073709551616) (hp : p < 18446744073709551616) (hq : q < 18446744073709551616)
  (s1 : x0 < q → IntKind.u64.wrap (IntKind.u64.wrap ((x1 : Int) - (p : Int)) - 1) = W1) (s2 : ¬ x0 < q → IntKind.u64.wrap (IntKind.u64.wrap ((x1 : Int) - (p : Int)) - 0) = W1) (s3 : IntKind.u64.wrap ((x0 : Int) - (q : Int)) = W0)
  (hl : FT Tr6_T35 35 [(x1 : Int), (x0 : Int), (p : Int), (q : Int)] = [b2i ls]) :
  treeFn tr36 (FT Tr6_T35) [(x1 : Int), (x0 : Int), (p : Int), (q : Int)] = [W1, W0, b2i ls] := by
 have i0 := iu_n (F := FT Tr6_T35) (zs := [(x1 : Int), (x0 : Int), (p : Int), (q : Int)]) (j := 0) rfl h1
 have i1 := iu_n (F := FT Tr6_T35) (zs := [(x1 : Int), (x0 : Int), (p : Int), (q : Int)]) (j := 1) rfl h0
 have i2 := iu_n (F := FT Tr6_T35) (zs := [(x1 : Int), (x0 : Int), (p : Int), (q : Int)]) (j := 2) rfl hp
 have i3 := iu_n (F := FT Tr6_T35) (zs := [(x1 : Int), (x0 : Int), (p : Int), (q : Int)]) (j := 3) rfl hq
 have wb : wrK none (b2i ls) = b2i ls := by cases ls <;> rfl
 have va : (SE.app 35 0 none (.cons (.ivar .u64 0) (.cons (.ivar .u64 1) (.cons (.ivar .u64 2) (.cons (.ivar .u64 3) .nil))))).val (envOf (FT Tr6_T35) [(x1 : Int), (x0 : Int), (p : Int), (q : Int)]) = b2i ls := by
  rw [v_app, vals_c, vals_c, vals_c, vals_c, vals_n, i0, i1, i2, i3, hl, List.getD_cons_zero, wb]
 simp only [treeFn, tr36, ST.get, v_cmp]
 rw [i1, i3]
 simp only [valCmp]
 by_cases c : x0 < q
 ·rw [decide_eq_true (show (x0 : Int) < (q : Int) by omega), cond_true]
  simp only [flatV, List.map, valC]
  rw [va, v_bin, v_bin, v_bin, v_lit, i0, i1, i2, i3, w1u, vb_sub, vb_sub, vb_sub, s1 c, s3]
 ·rw [decide_eq_false (show ¬ (x0 : Int) < (q : Int) by omega), cond_false]
  simp only [flatV, List.map, valC]
  rw [va, v_bin, v_bin, v_bin, v_lit, i0, i1, i2, i3, w0u, vb_sub, vb_sub, vb_sub, s2 c, s3]
theorem f36 (x1 x0 p q : Nat) (h1 : x1 < 18446744073709551616) (h0 : x0 < 18446744073709551616) (hp : p < 18446744073709551616) (hq : q < 18446744073709551616) :
  FT Tr6_T 36 [(x1 : Int), (x0 : Int), (p : Int), (q : Int)] = [((wrd 1 (val2 x1 x0 + 340282366920938463463374607431768211456 - val2 p q) : Nat) : Int), ((wrd 0 (val2 x1 x0 + 340282366920938463463374607431768211456 - val2 p q) : Nat) : Int), b2i (decide (val2 x1 x0 < val2 p q))] := by
 have g : FT Tr6_T 36 = treeFn tr36 (FT Tr6_T35) := by kernel_rfl
 have g35a : FT Tr6_T 35 = treeFn tr35 (FT Lm6_T) := by kernel_rfl
 have g35b : FT Tr6_T35 35 = treeFn tr35 (FT Lm6_T) := by kernel_rfl
 have g35 := g35a.trans g35b.symm
 have hs := sub_hi x1 x0 p q h1 h0 hp hq
 have hl := f35 x1 x0 p q h1 h0 hp hq
 rw [g35] at hl
 rw [g]
 exact f36_of x1 x0 p q _ _ _ h1 h0 hp hq hs.1 hs.2.1 hs.2.2 hl
def stD (o0 o1 o2 o3 r1 r0 p q a b c d : Nat) : List Int := [(o0 : Int), (o1 : Int), (o2 : Int), (o3 : Int), (r1 : Int), (r0 : Int), (p : Int), (q : Int), (a : Int), (b : Int), (c : Int), (d : Int)]
structure LtD (o0 o1 o2 o3 r1 r0 : Nat) : Prop where
 l0 : o0 < 18446744073709551616
 l1 : o1 < 18446744073709551616
 l2 : o2 < 18446744073709551616
 l3 : o3 < 18446744073709551616
 m1 : r1 < 18446744073709551616
 m0 : r0 < 18446744073709551616
theorem df_step {p q a b c d : Nat} (lp : p < 18446744073709551616) (lq : q < 18446744073709551616) (la : a < 18446744073709551616) (lb : b < 18446744073709551616) (lc : c < 18446744073709551616) (ld : d < 18446744073709551616) (hB : ¬ val2 p q = 0)
  {o0 o1 o2 o3 r1 r0 : Nat} (hl : LtD o0 o1 o2 o3 r1 r0) (k : Nat) (hk : k < 256) (D : DivNum (val4 a b c d) (val2 p q) (k + 1) (val2 r1 r0) (val4 o3 o2 o1 o0)) :
  ∃ y0 y1 y2 y3 z1 z0 : Nat, (dfT (255 - k)).get (envOf (FT Tr6_T) (stD o0 o1 o2 o3 r1 r0 p q a b c d)) = (none, stD y0 y1 y2 y3 z1 z0 p q a b c d) ∧ LtD y0 y1 y2 y3 z1 z0 ∧ DivNum (val4 a b c d) (val2 p q) k (val2 z1 z0) (val4 y3 y2 y1 y0) := by
 obtain ⟨e, he⟩ : ∃ e, val4 a b c d / 2 ^ k % 2 = e := ⟨_, rfl⟩
 have he2 : e < 2 := by rw [← he]; exact Nat.mod_lt _ (by decide)
 have vHi := dfHi_v (F := FT Tr6_T) (zs := stD o0 o1 o2 o3 r1 r0 p q a b c d) (r1 := r1) (r0 := r0) rfl rfl hl.m1 hl.m0
 have vLo := dfLo_v (F := FT Tr6_T) (zs := stD o0 o1 o2 o3 r1 r0 p q a b c d) (r0 := r0) (e := e) rfl rfl rfl rfl rfl hl.m0 la lb lc ld k hk he
 obtain ⟨lx1, lx0, hx⟩ := double_words r1 r0 e he2 hl.m1 hl.m0
 have hB2 : val2 p q < 340282366920938463463374607431768211456 := by unfold val2; omega
 generalize (r1 * 2 % 18446744073709551616 ||| r0 / 9223372036854775808) = x1 at *
 generalize (r0 * 2 % 18446744073709551616 ||| e) = x0 at *
 have i4 := iu_n (F := FT Tr6_T) (zs := stD o0 o1 o2 o3 r1 r0 p q a b c d) (j := 4) rfl hl.m1
 have i6 := iu_n (F := FT Tr6_T) (zs := stD o0 o1 o2 o3 r1 r0 p q a b c d) (j := 6) rfl lp
 have i7 := iu_n (F := FT Tr6_T) (zs := stD o0 o1 o2 o3 r1 r0 p q a b c d) (j := 7) rfl lq
 have i8 := iu_n (F := FT Tr6_T) (zs := stD o0 o1 o2 o3 r1 r0 p q a b c d) (j := 8) rfl la
 have i9 := iu_n (F := FT Tr6_T) (zs := stD o0 o1 o2 o3 r1 r0 p q a b c d) (j := 9) rfl lb
 have i10 := iu_n (F := FT Tr6_T) (zs := stD o0 o1 o2 o3 r1 r0 p q a b c d) (j := 10) rfl lc
 have i11 := iu_n (F := FT Tr6_T) (zs := stD o0 o1 o2 o3 r1 r0 p q a b c d) (j := 11) rfl ld
 have i0 := iu_n (F := FT Tr6_T) (zs := stD o0 o1 o2 o3 r1 r0 p q a b c d) (j := 0) rfl hl.l0
 have i1 := iu_n (F := FT Tr6_T) (zs := stD o0 o1 o2 o3 r1 r0 p q a b c d) (j := 1) rfl hl.l1
 have i2 := iu_n (F := FT Tr6_T) (zs := stD o0 o1 o2 o3 r1 r0 p q a b c d) (j := 2) rfl hl.l2
 have i3 := iu_n (F := FT Tr6_T) (zs := stD o0 o1 o2 o3 r1 r0 p q a b c d) (j := 3) rfl hl.l3
 have vA : (dfA k).vals (envOf (FT Tr6_T) (stD o0 o1 o2 o3 r1 r0 p q a b c d)) = [(x1 : Int), (x0 : Int), (p : Int), (q : Int)] := by
  unfold dfA; rw [vals_c, vals_c, vals_c, vals_c, vals_n, vHi, vLo, i6, i7]
 have q1 : ((SE.cmp .eql (.bin .shr .u64 (.ivar .u64 4) (.lit .u64 63)) (.lit .u64 1)).val (envOf (FT Tr6_T) (stD o0 o1 o2 o3 r1 r0 p q a b c d)) != 0) = decide (340282366920938463463374607431768211456 ≤ 2 * val2 r1 r0 + e) := by
  rw [v_cmp, v_bin, v_lit, v_lit, i4, w63u, w1u, vb_shr r1 63 (by omega) hl.m1]
  simp only [valCmp, Nat.reducePow]
  have h0 := hl.m0; have h1 := hl.m1
  rw [Bool.eq_iff_iff, beq_iff_eq, decide_eq_true_eq]
  unfold val2; omega
 have q2 : ((SE.not (.app 35 0 none (dfA k))).val (envOf (FT Tr6_T) (stD o0 o1 o2 o3 r1 r0 p q a b c d)) != 0) = !decide (val2 x1 x0 < val2 p q) := by
  rw [v_not, v_app, vA, f35 x1 x0 p q lx1 lx0 lp lq, List.getD_cons_zero]
  cases decide (val2 x1 x0 < val2 p q) <;> rfl
 have hs := f36 x1 x0 p q lx1 lx0 lp lq
 have ek : 255 - (255 - k) = k := by omega
 have eT : ∀ E : Env, (dfT (255 - k)).get E = bif (SE.cmp .eql (.bin .shr .u64 (.ivar .u64 4) (.lit .u64 63)) (.lit .u64 1)).val E != 0 then (dfSub k).get E else bif (SE.not (.app 35 0 none (dfA k))).val E != 0 then (dfSub k).get E else (dfKeep k).get E := fun E => by
  simp only [dfT, RT.get, ek]
 have sub : ∀ bb ls : Bool, bb = decide (340282366920938463463374607431768211456 ≤ 2 * val2 r1 r0 + e) → decide (val2 x1 x0 < val2 p q) = ls → (bb || !ls) = true →
   ∃ y0 y1 y2 y3 z1 z0 : Nat, (dfSub k).get (envOf (FT Tr6_T) (stD o0 o1 o2 o3 r1 r0 p q a b c d)) = (none, stD y0 y1 y2 y3 z1 z0 p q a b c d) ∧ LtD y0 y1 y2 y3 z1 z0 ∧ DivNum (val4 a b c d) (val2 p q) k (val2 z1 z0) (val4 y3 y2 y1 y0) := by
  intro bb ls hbb hls h
  obtain ⟨D', hz⟩ := div_in bb ls D hB hB2 he hx hbb hls h
  obtain ⟨y0, y1, y2, y3, v0, v1, v2, v3, ve, n0, n1, n2, n3⟩ := dfQ_v (F := FT Tr6_T) (zs := stD o0 o1 o2 o3 r1 r0 p q a b c d) (o0 := o0) (o1 := o1) (o2 := o2) (o3 := o3) rfl rfl rfl rfl hl.l0 hl.l1 hl.l2 hl.l3 k hk hz
  rw [← ve] at D'
  have w1 : wrd 1 (val2 x1 x0 + 340282366920938463463374607431768211456 - val2 p q) < 18446744073709551616 := by unfold wrd; exact Nat.mod_lt _ (by decide)
  have w0 : wrd 0 (val2 x1 x0 + 340282366920938463463374607431768211456 - val2 p q) < 18446744073709551616 := by unfold wrd; exact Nat.mod_lt _ (by decide)
  generalize wrd 1 (val2 x1 x0 + 340282366920938463463374607431768211456 - val2 p q) = z1 at *
  generalize wrd 0 (val2 x1 x0 + 340282366920938463463374607431768211456 - val2 p q) = z0 at *
  refine ⟨y0, y1, y2, y3, z1, z0, ?_, ⟨n0, n1, n2, n3, w1, w0⟩, D'⟩
  have a0 : (SE.app 36 0 (some .u64) (dfA k)).val (envOf (FT Tr6_T) (stD o0 o1 o2 o3 r1 r0 p q a b c d)) = (z1 : Int) := by
   rw [v_app, vA, hs, List.getD_cons_zero]; exact nat_w w1
  have a1 : (SE.app 36 1 (some .u64) (dfA k)).val (envOf (FT Tr6_T) (stD o0 o1 o2 o3 r1 r0 p q a b c d)) = (z0 : Int) := by
   rw [v_app, vA, hs, List.getD_cons_succ, List.getD_cons_zero]; exact nat_w w0
  simp only [dfSub, RT.get, uV, List.map]
  rw [v0, v1, v2, v3, a0, a1, i6, i7, i8, i9, i10, i11]; rfl
 rw [eT, q1, q2]
 cases hb : decide (340282366920938463463374607431768211456 ≤ 2 * val2 r1 r0 + e) with
 | true =>
  rw [cond_true]
  exact sub true _ hb.symm rfl (Bool.true_or _)
 | false =>
  rw [cond_false]
  cases hls : decide (val2 x1 x0 < val2 p q) with
  | true =>
   refine ⟨o0, o1, o2, o3, x1, x0, ?_, ⟨hl.l0, hl.l1, hl.l2, hl.l3, lx1, lx0⟩, div_out D hB he hx hb.symm hls⟩
   show (dfKeep k).get _ = _
   simp only [dfKeep, RT.get, uV, List.map]
   rw [vHi, vLo, i0, i1, i2, i3, i6, i7, i8, i9, i10, i11]; rfl
  | false =>
   exact sub false false hb.symm hls rfl
theorem df_run {p q a b c d : Nat} (lp : p < 18446744073709551616) (lq : q < 18446744073709551616) (la : a < 18446744073709551616) (lb : b < 18446744073709551616) (lc : c < 18446744073709551616) (ld : d < 18446744073709551616) (hB : ¬ val2 p q = 0) :
  ∀ (m : Nat) {o0 o1 o2 o3 r1 r0 : Nat}, m ≤ 256 → LtD o0 o1 o2 o3 r1 r0 → DivNum (val4 a b c d) (val2 p q) m (val2 r1 r0) (val4 o3 o2 o1 o0) →
  ∃ y0 y1 y2 y3 z1 z0 : Nat, runL dfTT (FT Tr6_T) (256 - m) (m + 1) (stD o0 o1 o2 o3 r1 r0 p q a b c d) = some (0, stD y0 y1 y2 y3 z1 z0 p q a b c d) ∧ LtD y0 y1 y2 y3 z1 z0 ∧ DivNum (val4 a b c d) (val2 p q) 0 (val2 z1 z0) (val4 y3 y2 y1 y0)
 | 0, o0, o1, o2, o3, r1, r0, _, hl, D => by
  refine ⟨o0, o1, o2, o3, r1, r0, ?_, hl, D⟩
  have e : dfTT 256 = .out 0 dfIds := rfl
  simp only [runL, Nat.sub_zero, e, RT.get, dfIds, uV, List.map]
  rw [iu_n (j := 0) rfl hl.l0, iu_n (j := 1) rfl hl.l1, iu_n (j := 2) rfl hl.l2, iu_n (j := 3) rfl hl.l3, iu_n (j := 4) rfl hl.m1, iu_n (j := 5) rfl hl.m0, iu_n (j := 6) rfl lp, iu_n (j := 7) rfl lq, iu_n (j := 8) rfl la, iu_n (j := 9) rfl lb, iu_n (j := 10) rfl lc, iu_n (j := 11) rfl ld]
  rfl
 | m + 1, o0, o1, o2, o3, r1, r0, hm, hl, D => by
  obtain ⟨y0, y1, y2, y3, z1, z0, h1, h2, h3⟩ := df_step lp lq la lb lc ld hB hl m (by omega) D
  obtain ⟨u0, u1, u2, u3, t1, t0, g1, g2, g3⟩ := df_run lp lq la lb lc ld hB m (by omega) h2 h3
  refine ⟨u0, u1, u2, u3, t1, t0, ?_, g2, g3⟩
  have e : dfTT (256 - (m + 1)) = dfT (255 - m) := by
   rw [show 256 - (m + 1) = 255 - m by omega]
   unfold dfTT
   rw [show Nat.blt (255 - m) 256 = true by rw [Nat.blt_eq]; omega, cond_true]
  have e2 : 256 - (m + 1) + 1 = 256 - m := by omega
  show (match (dfTT (256 - (m + 1))).get (envOf (FT Tr6_T) (stD o0 o1 o2 o3 r1 r0 p q a b c d)) with | (none, ys) => runL dfTT (FT Tr6_T) (256 - (m + 1) + 1) (m + 1) ys | (some e, ys) => some (e, ys)) = _
  rw [e, h1, e2]
  exact g1
theorem df_val {p q a b c d : Nat} (lp : p < 18446744073709551616) (lq : q < 18446744073709551616) (la : a < 18446744073709551616) (lb : b < 18446744073709551616) (lc : c < 18446744073709551616) (ld : d < 18446744073709551616) (hB : ¬ val2 p q = 0) :
  dfG (FT Tr6_T) (stD 0 0 0 0 0 0 p q a b c d) = 0 :: stD (wrd 0 (val4 a b c d / val2 p q)) (wrd 1 (val4 a b c d / val2 p q)) (wrd 2 (val4 a b c d / val2 p q)) (wrd 3 (val4 a b c d / val2 p q)) (wrd 1 (val4 a b c d % val2 p q)) (wrd 0 (val4 a b c d % val2 p q)) p q a b c d := by
 have hA : val4 a b c d < 2 ^ 256 := by unfold val4; simp only [Nat.reducePow]; omega
 have D0 : DivNum (val4 a b c d) (val2 p q) 256 (val2 0 0) (val4 0 0 0 0) := by
  have e : val4 a b c d / 2 ^ 256 = 0 := Nat.div_eq_of_lt hA
  exact ⟨Nat.le_refl _, by rw [e, Nat.zero_mod]; rfl, by rw [e, Nat.zero_div, Nat.zero_mul]; rfl⟩
 obtain ⟨y0, y1, y2, y3, z1, z0, h1, h2, h3⟩ := df_run lp lq la lb lc ld hB 256 (Nat.le_refl _) (o0 := 0) (o1 := 0) (o2 := 0) (o3 := 0) (r1 := 0) (r0 := 0) ⟨by decide, by decide, by decide, by decide, by decide, by decide⟩ D0
 obtain ⟨e3, e2, e1, e0, f1, f0⟩ := div_end h3 h2.m1 h2.m0 h2.l3 h2.l2 h2.l1 h2.l0
 have ei : dfIds.map (SE.val (envOf (FT Tr6_T) (stD 0 0 0 0 0 0 p q a b c d))) = stD 0 0 0 0 0 0 p q a b c d := by
  simp only [dfIds, uV, List.map]
  rw [iu_n (j := 0) (n := 0) rfl (by decide), iu_n (j := 1) (n := 0) rfl (by decide), iu_n (j := 2) (n := 0) rfl (by decide), iu_n (j := 3) (n := 0) rfl (by decide), iu_n (j := 4) (n := 0) rfl (by decide), iu_n (j := 5) (n := 0) rfl (by decide), iu_n (j := 6) rfl lp, iu_n (j := 7) rfl lq, iu_n (j := 8) rfl la, iu_n (j := 9) rfl lb, iu_n (j := 10) rfl lc, iu_n (j := 11) rfl ld]
  rfl
 unfold dfG lpFn
 rw [ei, h1, e3, e2, e1, e0, f1, f0]
 rfl
end Go.Proofs.Ytedfbamihjnhhaa.Own
end
section
namespace Go.Proofs.Ytedfbamihjnhhaa.Own
open Go Go.RowKit Go.Proofs
set_option linter.unusedVariables false
set_option maxRecDepth 100000
def tr147 : ST :=
 (.ask (.and (.cmp .eql (.ivar .u64 4) (.lit .u64 0)) (.and (.cmp .eql (.ivar .u64 5) (.lit .u64 0)) (.cmp .eql (.lit .i64 1) (.lit .i64 1)))) (.leaf (.agg [(.int .u64 0), (.int .u64 0), (.int .u64 0), (.int .u64 0), (.int .u64 0), (.int .u64 0), (.bool false)]))
  (.leaf (.agg [(.opq (.app 14706 4 (some .u64) (.cons (.lit .u64 0) (.cons (.lit .u64 0) (.cons (.lit .u64 0) (.cons (.lit .u64 0) (.cons (.lit .u64 0) (.cons (.lit .u64 0) (.cons (.ivar .u64 4) (.cons (.ivar .u64 5) (.cons (.ivar .u64 0) (.cons (.ivar .u64 1) (.cons (.ivar .u64 2) (.cons (.ivar .u64 3) .nil)))))))))))))), (.opq (.app 14706 3 (some .u64) (.cons (.lit .u64 0) (.cons (.lit .u64 0) (.cons (.lit .u64 0) (.cons (.lit .u64 0) (.cons (.lit .u64 0) (.cons (.lit .u64 0) (.cons (.ivar .u64 4) (.cons (.ivar .u64 5) (.cons (.ivar .u64 0) (.cons (.ivar .u64 1) (.cons (.ivar .u64 2) (.cons (.ivar .u64 3) .nil)))))))))))))), (.opq (.app 14706 2 (some .u64) (.cons (.lit .u64 0) (.cons (.lit .u64 0) (.cons (.lit .u64 0) (.cons (.lit .u64 0) (.cons (.lit .u64 0) (.cons (.lit .u64 0) (.cons (.ivar .u64 4) (.cons (.ivar .u64 5) (.cons (.ivar .u64 0) (.cons (.ivar .u64 1) (.cons (.ivar .u64 2) (.cons (.ivar .u64 3) .nil)))))))))))))), (.opq (.app 14706 1 (some .u64) (.cons (.lit .u64 0) (.cons (.lit .u64 0) (.cons (.lit .u64 0) (.cons (.lit .u64 0) (.cons (.lit .u64 0) (.cons (.lit .u64 0) (.cons (.ivar .u64 4) (.cons (.ivar .u64 5) (.cons (.ivar .u64 0) (.cons (.ivar .u64 1) (.cons (.ivar .u64 2) (.cons (.ivar .u64 3) .nil)))))))))))))), (.opq (.app 14706 5 (some .u64) (.cons (.lit .u64 0) (.cons (.lit .u64 0) (.cons (.lit .u64 0) (.cons (.lit .u64 0) (.cons (.lit .u64 0) (.cons (.lit .u64 0) (.cons (.ivar .u64 4) (.cons (.ivar .u64 5) (.cons (.ivar .u64 0) (.cons (.ivar .u64 1) (.cons (.ivar .u64 2) (.cons (.ivar .u64 3) .nil)))))))))))))), (.opq (.app 14706 6 (some .u64) (.cons (.lit .u64 0) (.cons (.lit .u64 0) (.cons (.lit .u64 0) (.cons (.lit .u64 0) (.cons (.lit .u64 0) (.cons (.lit .u64 0) (.cons (.ivar .u64 4) (.cons (.ivar .u64 5) (.cons (.ivar .u64 0) (.cons (.ivar .u64 1) (.cons (.ivar .u64 2) (.cons (.ivar .u64 3) .nil)))))))))))))), (.bool true)])))
noncomputable def Td6_T147 : List Ent := ⟨147, [.agg [some .u64, some .u64, some .u64, some .u64], .agg [some .u64, some .u64]], .one (.agg [some .u64, some .u64, some .u64, some .u64, some .u64, some .u64, none]), treeFn tr147, false⟩ :: Df6_T
set_option maxHeartbeats 4000000 in
theorem Td6_ok147 : TbOK Try.prog Td6_T147 := tb_tree (b := bW.loops Df6_L) (loops_ok bW_ok _) (lb_of Df6_lb) (d := 300) Df6_ok (fn rfl) (by kernel_rfl)
theorem Td6_lb147 : LBs Try.prog Df6_L Td6_T147 := lbs_cons Df6_lb (by kernel_rfl)
def Td6_L : List LEnt := Df6_L
noncomputable def Td6_T : List Ent := Td6_T147
theorem Td6_ok : TbOK Try.prog Td6_T := Td6_ok147
theorem Td6_lb : LBs Try.prog Df6_L Td6_T := Td6_lb147
end Go.Proofs.Ytedfbamihjnhhaa.Own
end
