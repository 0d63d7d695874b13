/- What the printed functions of the wide numbers come to. -/
import Derived.Test.YtlpdongckcaclaaBx
import Derived.Test.YtlpdongckcaclaaWide
import Derived.Laws.BitsAllLaws
namespace Go.Proofs.Ytlpdongckcaclaa.Nums
open Go.RowKit Go.Proofs.Ytlpdongckcaclaa.Plain Go.Proofs.Ytlpdongckcaclaa.Limb Go.Proofs.Ytlpdongckcaclaa.B Go.Proofs.YtlpdongckcaclaaW.PrintWords Go.Proofs.YtlpdongckcaclaaW.PrintLast Go.Proofs.YtlpdongckcaclaaW.PrintMore
set_option linter.unusedVariables false
set_option linter.unusedSimpArgs false
/-- not by rfl: simp is to put it as an equation, or the kernel compares the two sides by unfolding -/
theorem bs {α β : Type} (a : α) (f : α → Option β) : (some a).bind f = f a := by
  cases h : f a <;> exact (Option.bind_some a f).trans h
theorem u64_nat {x : Int} (h : (Lit.int .u64 x).wf = true) : ∃ n : Nat, x = (n : Int) ∧ n < 18446744073709551616 := by
  obtain ⟨h1, h2⟩ := bounds_u64 h
  exact ⟨x.toNat, by omega, by omega⟩
theorem addE (a b c d : Nat) (ha : a < 18446744073709551616) (hb : b < 18446744073709551616) (hc : c < 18446744073709551616) (hd : d < 18446744073709551616) :
    limb_Add.f a b c d = some (((wrd 1 (val2 a b + val2 c d) : Nat) : Int), ((wrd 0 (val2 a b + val2 c d) : Nat) : Int), decide (340282366920938463463374607431768211456 ≤ val2 a b + val2 c d)) := by
  unfold limb_Add.f
  rw [if_pos ⟨Wd.mk ha, Wd.mk hb, Wd.mk hc, Wd.mk hd⟩]
  simp only [n2, e2, Int.toNat_natCast]
  congr
theorem subE (a b c d : Nat) (ha : a < 18446744073709551616) (hb : b < 18446744073709551616) (hc : c < 18446744073709551616) (hd : d < 18446744073709551616) :
    limb_Sub.f a b c d = some (((wrd 1 (val2 a b + 340282366920938463463374607431768211456 - val2 c d) : Nat) : Int), ((wrd 0 (val2 a b + 340282366920938463463374607431768211456 - val2 c d) : Nat) : Int), decide (val2 a b < val2 c d)) := by
  unfold limb_Sub.f
  rw [if_pos ⟨Wd.mk ha, Wd.mk hb, Wd.mk hc, Wd.mk hd⟩]
  simp only [n2, e2, Int.toNat_natCast]
  congr
theorem mulE (a b c d : Nat) (ha : a < 18446744073709551616) (hb : b < 18446744073709551616) (hc : c < 18446744073709551616) (hd : d < 18446744073709551616) :
    limb_Mul.f a b c d = some (((wrd 3 (val2 a b * val2 c d) : Nat) : Int), ((wrd 2 (val2 a b * val2 c d) : Nat) : Int), ((wrd 1 (val2 a b * val2 c d) : Nat) : Int), ((wrd 0 (val2 a b * val2 c d) : Nat) : Int)) := by
  unfold limb_Mul.f
  rw [if_pos ⟨Wd.mk ha, Wd.mk hb, Wd.mk hc, Wd.mk hd⟩]
  simp only [n2, e4, Int.toNat_natCast]
theorem divE (a b c d p q : Nat) (ha : a < 18446744073709551616) (hb : b < 18446744073709551616) (hc : c < 18446744073709551616) (hd : d < 18446744073709551616) (hp : p < 18446744073709551616) (hq : q < 18446744073709551616) (h0 : ¬ val2 p q = 0) :
    limb_Div.f a b c d p q = some (((wrd 3 (val4 a b c d / val2 p q) : Nat) : Int), ((wrd 2 (val4 a b c d / val2 p q) : Nat) : Int), ((wrd 1 (val4 a b c d / val2 p q) : Nat) : Int), ((wrd 0 (val4 a b c d / val2 p q) : Nat) : Int), ((wrd 1 (val4 a b c d % val2 p q) : Nat) : Int), ((wrd 0 (val4 a b c d % val2 p q) : Nat) : Int), true) := by
  have e2p : n2 (p : Int) (q : Int) = val2 p q := by simp [n2]
  have e4p : n4 (a : Int) (b : Int) (c : Int) (d : Int) = val4 a b c d := by simp [n4]
  unfold limb_Div.f
  rw [if_pos ⟨Wd.mk ha, Wd.mk hb, Wd.mk hc, Wd.mk hd, Wd.mk hp, Wd.mk hq⟩, if_neg (by rw [e2p]; exact h0), e2p, e4p]
theorem divE0 (a b c d : Nat) (ha : a < 18446744073709551616) (hb : b < 18446744073709551616) (hc : c < 18446744073709551616) (hd : d < 18446744073709551616) :
    limb_Div.f a b c d 0 0 = some (0, 0, 0, 0, 0, 0, false) := by
  unfold limb_Div.f
  rw [if_pos ⟨Wd.mk ha, Wd.mk hb, Wd.mk hc, Wd.mk hd, by decide, by decide⟩, if_pos (by decide)]
theorem lenE (a b c d : Nat) (ha : a < 18446744073709551616) (hb : b < 18446744073709551616) (hc : c < 18446744073709551616) (hd : d < 18446744073709551616) :
    limb_Len.f a b c d = some ((blen (val4 a b c d) : Nat) : Int) := by
  unfold limb_Len.f
  rw [if_pos ⟨Wd.mk ha, Wd.mk hb, Wd.mk hc, Wd.mk hd⟩]
  simp only [n4, Int.toNat_natCast]
/-! ### order -/
/-- how two numbers stand -/
def cmpN (A B : Nat) : Int := if A < B then -1 else if A = B then 0 else 1
theorem compareE (x y : Int) : cmp_Compare_uint64.f x y = some (if x < y then -1 else if x = y then 0 else 1) := by
  unfold cmp_Compare_uint64.f cmp_isNaN_uint64.f
  simp only [Option.bind_some, bne_self_eq_false]
  rw [if_neg (by decide), if_neg (by decide)]
  by_cases h : x < y
  · rw [if_pos h, if_pos h]
  · rw [if_neg h, if_neg h]
    by_cases h2 : x = y
    · rw [if_neg (by omega), if_pos h2]
    · rw [if_pos (by omega), if_neg h2]
theorem orE (k : Nat) (a b c d : Int) : cmp_Or_int.f (k + 6) [a, b, c, d] = some (if a = 0 then (if b = 0 then (if c = 0 then d else c) else b) else a) := by
  unfold cmp_Or_int.f
  simp only [cmp_Or_int.l0, rd, List.length_cons, List.length_nil]
  by_cases h1 : a = 0 <;> by_cases h2 : b = 0 <;> by_cases h3 : c = 0 <;> by_cases h4 : d = 0 <;> simp [h1, h2, h3, h4, wrap64]
theorem cmpE (k a b c d a' b' c' d' : Nat) (hb : b < 18446744073709551616) (hc : c < 18446744073709551616) (hd : d < 18446744073709551616) (hb' : b' < 18446744073709551616) (hc' : c' < 18446744073709551616) (hd' : d' < 18446744073709551616) :
    limb_Cmp.f (k + 6) a b c d a' b' c' d' = some (cmpN (val4 a b c d) (val4 a' b' c' d')) := by
  unfold limb_Cmp.f
  simp only [compareE, Option.bind_some, orE]
  refine congrArg some ?_
  unfold cmpN val4
  by_cases h1 : a = a'
  · subst h1
    rw [if_neg (show ¬ (a : Int) < a by omega), if_pos (show (a : Int) = a from rfl), if_pos rfl]
    by_cases h2 : b = b'
    · subst h2
      rw [if_neg (show ¬ (b : Int) < b by omega), if_pos (show (b : Int) = b from rfl), if_pos rfl]
      by_cases h3 : c = c'
      · subst h3
        rw [if_neg (show ¬ (c : Int) < c by omega), if_pos (show (c : Int) = c from rfl), if_pos rfl]
        by_cases h4 : d < d'
        · rw [if_pos (show (d : Int) < d' by omega), if_pos (by omega)]
        · rw [if_neg (show ¬ (d : Int) < d' by omega)]
          by_cases h5 : d = d'
          · rw [if_pos (show (d : Int) = d' by omega), if_neg (by omega), if_pos (by omega)]
          · rw [if_neg (show ¬ (d : Int) = d' by omega), if_neg (by omega), if_neg (by omega)]
      · by_cases h4 : c < c'
        · rw [if_pos (show (c : Int) < c' by omega), if_neg (by decide), if_pos (by omega)]
        · rw [if_neg (show ¬ (c : Int) < c' by omega), if_neg (show ¬ (c : Int) = c' by omega), if_neg (by decide), if_neg (by omega), if_neg (by omega)]
    · by_cases h4 : b < b'
      · rw [if_pos (show (b : Int) < b' by omega), if_neg (by decide), if_pos (by omega)]
      · rw [if_neg (show ¬ (b : Int) < b' by omega), if_neg (show ¬ (b : Int) = b' by omega), if_neg (by decide), if_neg (by omega), if_neg (by omega)]
  · by_cases h4 : a < a'
    · rw [if_pos (show (a : Int) < a' by omega), if_neg (by decide), if_pos (by omega)]
    · rw [if_neg (show ¬ (a : Int) < a' by omega), if_neg (show ¬ (a : Int) = a' by omega), if_neg (by decide), if_neg (by omega), if_neg (by omega)]
/-! ### roots -/
/-- one step of a root: n bits are left -/
structure RootNum (A n S : Nat) : Prop where
  hm : S % 2 ^ n = 0
  hl : S * S ≤ A
  hu : A < (S + 2 ^ n) * (S + 2 ^ n)
  hb : S + 2 ^ n ≤ 340282366920938463463374607431768211456
theorem root_step {A n S : Nat} (h : RootNum A (n + 1) S) : ((S + 2 ^ n) * (S + 2 ^ n) ≤ A → RootNum A n (S + 2 ^ n)) ∧ (A < (S + 2 ^ n) * (S + 2 ^ n) → RootNum A n S) := by
  obtain ⟨hm, hl, hu, hb⟩ := h
  have hp : 2 ^ (n + 1) = 2 ^ n + 2 ^ n := by rw [Nat.pow_succ]; omega
  have hm2 : S % 2 ^ n = 0 := by
    have := Nat.mod_mul_right_mod S (2 ^ n) 2
    rw [← Nat.pow_succ, hm, Nat.zero_mod] at this
    exact this.symm
  refine ⟨fun g => ⟨by rw [Nat.add_mod_right]; exact hm2, g, by rw [show S + 2 ^ n + 2 ^ n = S + 2 ^ (n + 1) by omega]; exact hu, by omega⟩, fun g => ⟨hm2, hl, g, by omega⟩⟩
theorem root_words {n S : Nat} (hn : n < 128) (hm : S % 2 ^ (n + 1) = 0) (hb : S < 340282366920938463463374607431768211456) :
    (n < 64 → (wrd 0 S ||| 2 ^ n) < 18446744073709551616 ∧ val2 (wrd 1 S) (wrd 0 S ||| 2 ^ n) = S + 2 ^ n) ∧ (64 ≤ n → (wrd 1 S ||| 2 ^ (n - 64)) < 18446744073709551616 ∧ val2 (wrd 1 S ||| 2 ^ (n - 64)) (wrd 0 S) = S + 2 ^ n) := by
  have hv := val2_wrd S hb
  have e : val4 0 0 (wrd 1 S) (wrd 0 S) = S := (show val4 0 0 (wrd 1 S) (wrd 0 S) = val2 (wrd 1 S) (wrd 0 S) by unfold val4 val2; omega).trans hv
  refine ⟨fun h => ?_, fun h => ?_⟩
  · have z := (quot_bit 0 0 (wrd 1 S) (wrd 0 S) n n h (by decide) (by decide) (wrd_lt _ _) (wrd_lt _ _) (by rw [e]; exact hm)).1 rfl
    refine ⟨z.1, ?_⟩
    have := z.2
    rw [e] at this
    rw [← this]; unfold val4 val2; omega
  · have z := (quot_bit 0 0 (wrd 1 S) (wrd 0 S) n (n - 64) (by omega) (by decide) (by decide) (wrd_lt _ _) (wrd_lt _ _) (by rw [e]; exact hm)).2.1 (by omega)
    refine ⟨z.1, ?_⟩
    have := z.2
    rw [e] at this
    rw [← this]; unfold val4 val2; omega
theorem shl_one (n : Nat) (hn : n < 64) : shl .u64 1 (n : Int) = ((2 ^ n : Nat) : Int) := by
  have hp : 2 ^ n < 18446744073709551616 := Nat.pow_lt_pow_right (by decide) hn
  unfold shl
  rw [Int.toNat_natCast, show min n (IntKind.bits .u64) = n from Nat.min_eq_left (by show n ≤ 64; omega), IntKind.wrap_u64, Int.one_mul, show (2 : Int) ^ n = ((2 ^ n : Nat) : Int) by rw [Int.natCast_pow]; rfl]
  generalize 2 ^ n = P at *
  omega
theorem or_one (x n : Nat) (hn : n < 64) (hx : x < 18446744073709551616) : Go.bits .or .u64 (x : Int) (shl .u64 1 (n : Int)) = ((x ||| 2 ^ n : Nat) : Int) := by
  rw [shl_one n hn]
  exact u64_or_nat _ _ hx (Nat.pow_lt_pow_right (by decide) hn)
theorem sq_lt {x : Nat} (h : x < 340282366920938463463374607431768211456) : x * x < 115792089237316195423570985008687907853269984665640564039457584007913129639936 := by
  have := Nat.mul_lt_mul'' h h
  simpa only [Nat.reduceMul] using this
theorem cmp_le (A B : Nat) : cmpN A B ≤ 0 ↔ A ≤ B := by unfold cmpN; split <;> (try split) <;> omega
theorem mulX (a b c d : Nat) (ha : a < 18446744073709551616) (hb : b < 18446744073709551616) (hc : c < 18446744073709551616) (hd : d < 18446744073709551616) :
    ∃ m3 m2 m1 m0 : Nat, limb_Mul.f a b c d = some ((m3 : Int), (m2 : Int), (m1 : Int), (m0 : Int)) ∧ val4 m3 m2 m1 m0 = val2 a b * val2 c d ∧ m3 < 18446744073709551616 ∧ m2 < 18446744073709551616 ∧ m1 < 18446744073709551616 ∧ m0 < 18446744073709551616 := by
  have hP : val2 a b * val2 c d < 115792089237316195423570985008687907853269984665640564039457584007913129639936 := by
    have := Nat.mul_lt_mul'' (val2_lt ha hb) (val2_lt hc hd)
    simpa only [Nat.reduceMul] using this
  exact ⟨_, _, _, _, mulE a b c d ha hb hc hd, val4_wrd _ hP, wrd_lt _ _, wrd_lt _ _, wrd_lt _ _, wrd_lt _ _⟩
theorem addX (a b c d : Nat) (ha : a < 18446744073709551616) (hb : b < 18446744073709551616) (hc : c < 18446744073709551616) (hd : d < 18446744073709551616) :
    ∃ (s1 s0 : Nat) (o : Bool), limb_Add.f a b c d = some ((s1 : Int), (s0 : Int), o) ∧ (o = true → val2 s1 s0 + 340282366920938463463374607431768211456 = val2 a b + val2 c d) ∧ (o = false → val2 s1 s0 = val2 a b + val2 c d) ∧ s1 < 18446744073709551616 ∧ s0 < 18446744073709551616 := by
  have la := val2_lt ha hb
  have lc := val2_lt hc hd
  refine ⟨_, _, _, addE a b c d ha hb hc hd, fun h => ?_, fun h => ?_, wrd_lt _ _, wrd_lt _ _⟩
  · have h := of_decide_eq_true h
    generalize val2 a b = A at *
    generalize val2 c d = B at *
    unfold val2 wrd
    simp only [Nat.reducePow, Nat.pow_zero, Nat.div_one]
    omega
  · have h := of_decide_eq_false h
    exact val2_wrd _ (by omega)
theorem subX (a b c d : Nat) (ha : a < 18446744073709551616) (hb : b < 18446744073709551616) (hc : c < 18446744073709551616) (hd : d < 18446744073709551616) :
    ∃ (s1 s0 : Nat) (o : Bool), limb_Sub.f a b c d = some ((s1 : Int), (s0 : Int), o) ∧ (o = true → val2 a b < val2 c d ∧ val2 s1 s0 + val2 c d = val2 a b + 340282366920938463463374607431768211456) ∧ (o = false → val2 s1 s0 + val2 c d = val2 a b) ∧ s1 < 18446744073709551616 ∧ s0 < 18446744073709551616 := by
  have la := val2_lt ha hb
  have lc := val2_lt hc hd
  refine ⟨_, _, _, subE a b c d ha hb hc hd, fun h => ?_, fun h => ?_, wrd_lt _ _, wrd_lt _ _⟩
  · have h := of_decide_eq_true h
    refine ⟨h, ?_⟩
    generalize val2 a b = A at *
    generalize val2 c d = B at *
    unfold val2 wrd
    simp only [Nat.reducePow, Nat.pow_zero, Nat.div_one]
    omega
  · have h := of_decide_eq_false h
    generalize val2 a b = A at *
    generalize val2 c d = B at *
    unfold val2 wrd
    simp only [Nat.reducePow, Nat.pow_zero, Nat.div_one]
    omega
theorem val2_injN {a b c d : Nat} (hb : b < 18446744073709551616) (hd : d < 18446744073709551616) (h : val2 a b = val2 c d) : a = c ∧ b = d := by
  unfold val2 at h
  omega
theorem divX (a b c d p q : Nat) (ha : a < 18446744073709551616) (hb : b < 18446744073709551616) (hc : c < 18446744073709551616) (hd : d < 18446744073709551616) (hp : p < 18446744073709551616) (hq : q < 18446744073709551616) (h0 : ¬ val2 p q = 0) :
    ∃ q3 q2 q1 q0 r1 r0 : Nat, limb_Div.f a b c d p q = some ((q3 : Int), (q2 : Int), (q1 : Int), (q0 : Int), (r1 : Int), (r0 : Int), true) ∧ val4 q3 q2 q1 q0 = val4 a b c d / val2 p q ∧ val2 r1 r0 = val4 a b c d % val2 p q ∧
      q3 < 18446744073709551616 ∧ q2 < 18446744073709551616 ∧ q1 < 18446744073709551616 ∧ q0 < 18446744073709551616 ∧ r1 < 18446744073709551616 ∧ r0 < 18446744073709551616 := by
  have h1 := val4_lt ha hb hc hd
  have h2 := val2_lt hp hq
  have h3 : val4 a b c d / val2 p q < 115792089237316195423570985008687907853269984665640564039457584007913129639936 := Nat.lt_of_le_of_lt (Nat.div_le_self _ _) h1
  have h4 : val4 a b c d % val2 p q < 340282366920938463463374607431768211456 := Nat.lt_trans (Nat.mod_lt _ (by omega)) h2
  exact ⟨_, _, _, _, _, _, divE a b c d p q ha hb hc hd hp hq h0, val4_wrd _ h3, val2_wrd _ h4, wrd_lt _ _, wrd_lt _ _, wrd_lt _ _, wrd_lt _ _, wrd_lt _ _, wrd_lt _ _⟩
theorem sqrt_j1 (k n a b c d s1 s0 x1 x0 : Nat) (hn : n < 128) (hb : b < 18446744073709551616) (hc : c < 18446744073709551616) (hd : d < 18446744073709551616) (l1 : x1 < 18446744073709551616) (l0 : x0 < 18446744073709551616) :
    limb_Sqrt.j1 (k + 7) ((n + 1 : Nat) : Int) a b c d s1 s0 x1 x0 = if val2 x1 x0 * val2 x1 x0 ≤ val4 a b c d then limb_Sqrt.l0 (k + 6) (n : Int) a b c d x1 x0 else limb_Sqrt.l0 (k + 6) (n : Int) a b c d s1 s0 := by
  have e1 : wrap64 (((n + 1 : Nat) : Int) - 1) = (n : Int) := by unfold wrap64; omega
  obtain ⟨m3, m2, m1, m0, hm, hv, _, h2, h1, h0⟩ := mulX x1 x0 x1 x0 l1 l0 l1 l0
  rw [limb_Sqrt.j1, hm, Option.bind_some, cmpE k _ _ _ _ a b c d h2 h1 h0 hb hc hd, Option.bind_some, hv, e1]
  by_cases g : val2 x1 x0 * val2 x1 x0 ≤ val4 a b c d
  · rw [if_pos g, if_pos ((cmp_le _ _).2 g)]
  · rw [if_neg g, if_neg (fun q => g ((cmp_le _ _).1 q))]
theorem sqrt_loop (a b c d : Nat) (ha : a < 18446744073709551616) (hb : b < 18446744073709551616) (hc : c < 18446744073709551616) (hd : d < 18446744073709551616) (n : Nat) : ∀ (k S : Nat), n ≤ 128 → 2 * n + 10 < k → RootNum (val4 a b c d) n S →
    ∃ R, limb_Sqrt.l0 k (n : Int) a b c d (wrd 1 S : Nat) (wrd 0 S : Nat) = some (((wrd 1 R : Nat) : Int), ((wrd 0 R : Nat) : Int)) ∧ RootNum (val4 a b c d) 0 R := by
  induction n with
  | zero =>
    intro k S _ hk h
    obtain ⟨k, rfl⟩ : ∃ m, k = m + 1 := ⟨k - 1, by omega⟩
    exact ⟨S, by simp only [limb_Sqrt.l0]; rw [if_neg (by omega)], h⟩
  | succ n ih =>
    intro k S hn hk h
    obtain ⟨k, rfl⟩ : ∃ m, k = m + 8 := ⟨k - 8, by omega⟩
    have hSb : S + 2 ^ n < 340282366920938463463374607431768211456 := by
      have := h.hb
      have hp : 2 ^ (n + 1) = 2 ^ n + 2 ^ n := by rw [Nat.pow_succ]; omega
      have := Nat.pow_pos (n := n) (show 0 < 2 by decide)
      omega
    have hSs : S < 340282366920938463463374607431768211456 := Nat.lt_of_le_of_lt (Nat.le_add_right _ _) hSb
    obtain ⟨w0, w1⟩ := root_words (n := n) (S := S) (by omega) h.hm hSs
    obtain ⟨s1, s2⟩ := root_step h
    have next : ∀ (x1 x0 : Nat), x1 < 18446744073709551616 → x0 < 18446744073709551616 → val2 x1 x0 = S + 2 ^ n →
        ∃ R, limb_Sqrt.j1 (k + 7) ((n + 1 : Nat) : Int) a b c d (wrd 1 S : Nat) (wrd 0 S : Nat) (x1 : Int) (x0 : Int) = some (((wrd 1 R : Nat) : Int), ((wrd 0 R : Nat) : Int)) ∧ RootNum (val4 a b c d) 0 R := by
      intro x1 x0 l1 l0 hx
      rw [sqrt_j1 k n a b c d _ _ x1 x0 (by omega) hb hc hd l1 l0, hx]
      by_cases g : (S + 2 ^ n) * (S + 2 ^ n) ≤ val4 a b c d
      · rw [if_pos g]
        obtain ⟨v1, v2⟩ := words_of2 l1 l0 hx
        rw [← v1, ← v2]
        exact ih (k + 6) (S + 2 ^ n) (by omega) (by omega) (s1 g)
      · rw [if_neg g]
        exact ih (k + 6) S (by omega) (by omega) (s2 (by omega))
    simp only [limb_Sqrt.l0]
    rw [if_pos (by omega)]
    have e1 : wrap64 (((n + 1 : Nat) : Int) - 1) = (n : Int) := by unfold wrap64; omega
    rw [e1]
    by_cases h64 : n < 64
    · rw [if_pos (by omega), if_pos (by omega), or_one _ n h64 (wrd_lt _ _)]
      exact next _ _ (wrd_lt _ _) (w0 h64).1 (w0 h64).2
    · have e2 : wrap64 ((n : Int) - 64) = ((n - 64 : Nat) : Int) := by unfold wrap64; omega
      rw [if_neg (by omega), e2, if_pos (by omega), or_one _ (n - 64) (by omega) (wrd_lt _ _)]
      exact next _ _ (w1 (by omega)).1 (wrd_lt _ _) (w1 (by omega)).2
theorem sqrtE (a b c d : Nat) (ha : a < 18446744073709551616) (hb : b < 18446744073709551616) (hc : c < 18446744073709551616) (hd : d < 18446744073709551616) (k : Nat) (hk : 300 ≤ k) :
    ∃ R, limb_Sqrt.f k a b c d = some (((wrd 1 R : Nat) : Int), ((wrd 0 R : Nat) : Int)) ∧ RootNum (val4 a b c d) 0 R := by
  unfold limb_Sqrt.f
  rw [lenE a b c d ha hb hc hd]
  simp only [Option.bind_some]
  have hl : blen (val4 a b c d) ≤ 256 := (blen_le _ 256).2 (val4_lt ha hb hc hd)
  have e : wrap64 (Int.tdiv (wrap64 ((blen (val4 a b c d) : Nat) + 1)) 2) = (((blen (val4 a b c d) + 1) / 2 : Nat) : Int) := by
    have e1 : wrap64 (((blen (val4 a b c d) : Nat) : Int) + 1) = ((blen (val4 a b c d) + 1 : Nat) : Int) := by unfold wrap64; omega
    rw [e1, Int.tdiv_eq_ediv_of_nonneg (by omega)]
    unfold wrap64; omega
  rw [e]
  have hlt := blen_lt (val4 a b c d)
  generalize hn : (blen (val4 a b c d) + 1) / 2 = n
  have h := sqrt_loop a b c d ha hb hc hd n k 0 (by omega) (by omega) ⟨by simp, by simp, ?_, ?_⟩
  · exact h
  · rw [Nat.zero_add, ← Nat.pow_add]
    exact Nat.lt_of_lt_of_le hlt (Nat.pow_le_pow_right (by decide) (by omega))
  · rw [Nat.zero_add]
    exact Nat.le_trans (Nat.pow_le_pow_right (by decide) (show n ≤ 128 by omega)) (by decide)
theorem root_unique {A R S : Nat} (h : RootNum A 0 R) (g : RootNum A 0 S) : R = S := by
  have h1 := h.hl
  have h2 := h.hu
  have g1 := g.hl
  have g2 := g.hu
  rw [Nat.pow_zero] at h2 g2
  rcases Nat.lt_trichotomy R S with q | q | q
  · have := Nat.mul_le_mul (show R + 1 ≤ S from q) (show R + 1 ≤ S from q); omega
  · exact q
  · have := Nat.mul_le_mul (show S + 1 ≤ R from q) (show S + 1 ≤ R from q); omega
theorem awakeE (k : Nat) (hk : 300 ≤ k) : perigeelaw1_awake.f k = some true := at_rounds (g := fun k => perigeelaw1_awake.f k) (fun k => perigeelaw1_awake.mono k) hk (show perigeelaw1_awake.f 300 = some true from by decide +kernel)

/-! ### a quotient times its divisor -/
theorem val4_split (a b c d : Nat) : val4 a b c d = val2 a b * 340282366920938463463374607431768211456 + val2 c d := by
  unfold val4 val2; omega
theorem val2_0 (x : Nat) : val2 0 x = x := by unfold val2; omega
theorem rest_sum {A V qh ql : Nat} (h : qh * 340282366920938463463374607431768211456 + ql = A / V) : qh * V * 340282366920938463463374607431768211456 + ql * V + A % V = A := by
  have e := Nat.div_add_mod A V
  rw [← h, Nat.mul_add, ← Nat.mul_assoc, Nat.mul_comm V qh, Nat.mul_comm V ql] at e
  exact e
end Go.Proofs.Ytlpdongckcaclaa.Nums
