/- The document's division and quotient: what the code computes. -/
import Derived.Test.YtedfbamihjnhhaaTd6
namespace Go.Proofs.Ytedfbamihjnhhaa.Own
open Go Go.RowKit Go.Proofs Go.Proofs.Ytedfbamihjnhhaa.Plain
open Go.Proofs.Ytedfbamihjnhhaa.Limb (n2 n4 double_words)
set_option linter.unusedVariables false
set_option linter.unusedSimpArgs false
set_option maxRecDepth 100000
theorem v_and {a b : SE} {e : Env} : ((SE.and a b).val e != 0) = ((a.val e != 0) && (b.val e != 0)) := by simp only [SE.val, b2i_ne]
theorem dfour_nat {p q a b c d : Nat} (lp : p < 18446744073709551616) (lq : q < 18446744073709551616) (la : a < 18446744073709551616) (lb : b < 18446744073709551616) (lc : c < 18446744073709551616) (ld : d < 18446744073709551616) (hB : ¬ val2 p q = 0) (Q R : Nat) (hQ : val4 a b c d / val2 p q = Q) (hR : val4 a b c d % val2 p q = R) :
  FT Td6_T 147 [(a : Int), (b : Int), (c : Int), (d : Int), (p : Int), (q : Int)] = [((wrd 3 Q : Nat) : Int), ((wrd 2 Q : Nat) : Int), ((wrd 1 Q : Nat) : Int), ((wrd 0 Q : Nat) : Int), ((wrd 1 R : Nat) : Int), ((wrd 0 R : Nat) : Int), 1] := by
 have g : FT Td6_T 147 = treeFn tr147 (FT Df6_T) := by kernel_rfl
 have gl : FT Df6_T 14706 = dfG (FT Tr6_T) := by kernel_rfl
 have hv := df_val lp lq la lb lc ld hB
 rw [hQ, hR] at hv
 have w3 := wrd_lt 3 Q; have w2 := wrd_lt 2 Q; have w1 := wrd_lt 1 Q; have w0 := wrd_lt 0 Q; have z1 := wrd_lt 1 R; have z0 := wrd_lt 0 R
 generalize wrd 3 Q = Q3 at *
 generalize wrd 2 Q = Q2 at *
 generalize wrd 1 Q = Q1 at *
 generalize wrd 0 Q = Q0 at *
 generalize wrd 1 R = R1 at *
 generalize wrd 0 R = R0 at *
 rw [g]
 have i0 := iu_n (F := FT Df6_T) (zs := [(a : Int), (b : Int), (c : Int), (d : Int), (p : Int), (q : Int)]) (j := 0) rfl la
 have i1 := iu_n (F := FT Df6_T) (zs := [(a : Int), (b : Int), (c : Int), (d : Int), (p : Int), (q : Int)]) (j := 1) rfl lb
 have i2 := iu_n (F := FT Df6_T) (zs := [(a : Int), (b : Int), (c : Int), (d : Int), (p : Int), (q : Int)]) (j := 2) rfl lc
 have i3 := iu_n (F := FT Df6_T) (zs := [(a : Int), (b : Int), (c : Int), (d : Int), (p : Int), (q : Int)]) (j := 3) rfl ld
 have i4 := iu_n (F := FT Df6_T) (zs := [(a : Int), (b : Int), (c : Int), (d : Int), (p : Int), (q : Int)]) (j := 4) rfl lp
 have i5 := iu_n (F := FT Df6_T) (zs := [(a : Int), (b : Int), (c : Int), (d : Int), (p : Int), (q : Int)]) (j := 5) rfl lq
 have hz : ((SE.and (.cmp .eql (.ivar .u64 4) (.lit .u64 0)) (.and (.cmp .eql (.ivar .u64 5) (.lit .u64 0)) (.cmp .eql (.lit .i64 1) (.lit .i64 1)))).val (envOf (FT Df6_T) [(a : Int), (b : Int), (c : Int), (d : Int), (p : Int), (q : Int)]) != 0) = false := by
  rw [v_and, v_and, v_cmp, v_cmp, i4, i5, v_lit, w0u]
  simp only [valCmp]
  by_cases h : p = 0
  ·have : ¬ q = 0 := fun h2 => hB (by subst h h2; rfl)
   rw [show ((q : Int) == 0) = false by rw [beq_eq_false_iff_ne]; omega]; simp
  ·rw [show ((p : Int) == 0) = false by rw [beq_eq_false_iff_ne]; omega]; simp
 have ap : ∀ (i n : Nat), ((0 : Int) :: stD Q0 Q1 Q2 Q3 R1 R0 p q a b c d).getD i 0 = (n : Int) → n < 18446744073709551616 → (SE.app 14706 i (some .u64) (.cons (.lit .u64 0) (.cons (.lit .u64 0) (.cons (.lit .u64 0) (.cons (.lit .u64 0) (.cons (.lit .u64 0) (.cons (.lit .u64 0) (.cons (.ivar .u64 4) (.cons (.ivar .u64 5) (.cons (.ivar .u64 0) (.cons (.ivar .u64 1) (.cons (.ivar .u64 2) (.cons (.ivar .u64 3) .nil))))))))))))).val (envOf (FT Df6_T) [(a : Int), (b : Int), (c : Int), (d : Int), (p : Int), (q : Int)]) = (n : Int) := by
  intro i n h hn
  rw [v_app]
  simp only [vals_c, vals_n, i0, i1, i2, i3, i4, i5, v_lit, w0u]
  rw [gl]
  have e : [(0 : Int), 0, 0, 0, 0, 0, (p : Int), (q : Int), (a : Int), (b : Int), (c : Int), (d : Int)] = stD 0 0 0 0 0 0 p q a b c d := rfl
  rw [e, hv, h]
  exact nat_w hn
 simp only [treeFn, tr147, ST.get]
 rw [hz, cond_false]
 simp only [flatV, List.map, valC]
 rw [ap 4 Q3 rfl w3, ap 3 Q2 rfl w2, ap 2 Q1 rfl w1, ap 1 Q0 rfl w0, ap 5 R1 rfl z1, ap 6 R0 rfl z0]
 rfl
theorem inK_nat {n : Nat} (h : n < 18446744073709551616) : inK (some .u64) (n : Int) := nat_w h
theorem dfour_pure (A : Four) (B : Two) (hB : B.n ≠ 0) : Pure Try.prog 147 #[A.v, B.v] (.agg #[.int .u64 (Four.of (A.n / B.n)).hi.hi, .int .u64 (Four.of (A.n / B.n)).hi.lo, .int .u64 (Four.of (A.n / B.n)).lo.hi, .int .u64 (Four.of (A.n / B.n)).lo.lo, .int .u64 (Two.of (A.n % B.n)).hi, .int .u64 (Two.of (A.n % B.n)).lo, .bool true]) := by
 obtain ⟨⟨x3, x2, hx⟩, ⟨x1, x0, hx'⟩⟩ := A
 obtain ⟨y1, y0, hy⟩ := B
 obtain ⟨a3, rfl⟩ := Int.eq_ofNat_of_zero_le hx.1
 obtain ⟨a2, rfl⟩ := Int.eq_ofNat_of_zero_le hx.2.2.1
 obtain ⟨a1, rfl⟩ := Int.eq_ofNat_of_zero_le hx'.1
 obtain ⟨a0, rfl⟩ := Int.eq_ofNat_of_zero_le hx'.2.2.1
 obtain ⟨b1, rfl⟩ := Int.eq_ofNat_of_zero_le hy.1
 obtain ⟨b0, rfl⟩ := Int.eq_ofNat_of_zero_le hy.2.2.1
 have hne : ¬ val2 b1 b0 = 0 := hB
 obtain ⟨Q, hQ⟩ : ∃ Q, val4 a3 a2 a1 a0 / val2 b1 b0 = Q := ⟨_, rfl⟩
 obtain ⟨R, hR⟩ : ∃ R, val4 a3 a2 a1 a0 % val2 b1 b0 = R := ⟨_, rfl⟩
 have hv := dfour_nat (p := b1) (q := b0) (a := a3) (b := a2) (c := a1) (d := a0) (by omega) (by omega) (by omega) (by omega) (by omega) (by omega) hne Q R hQ hR
 have hc := ((Td6_ok 147 [.agg [some .u64, some .u64, some .u64, some .u64], .agg [some .u64, some .u64]] (.one (.agg [some .u64, some .u64, some .u64, some .u64, some .u64, some .u64, none])) rfl).2 [(a3 : Int), (a2 : Int), (a1 : Int), (a0 : Int), (b1 : Int), (b0 : Int)] ⟨inK_nat (by omega), inK_nat (by omega), inK_nat (by omega), inK_nat (by omega), inK_nat (by omega), inK_nat (by omega), trivial⟩).2
 rw [hv] at hc
 have e1 : (⟨⟨(a3 : Int), (a2 : Int), hx⟩, ⟨(a1 : Int), (a0 : Int), hx'⟩⟩ : Four).n / (⟨(b1 : Int), (b0 : Int), hy⟩ : Two).n = Q := hQ
 have e2 : (⟨⟨(a3 : Int), (a2 : Int), hx⟩, ⟨(a1 : Int), (a0 : Int), hx'⟩⟩ : Four).n % (⟨(b1 : Int), (b0 : Int), hy⟩ : Two).n = R := hR
 rw [e1, e2]
 exact hc
theorem s65_run : (evF (cfT bW [] []) 300 146 [.agg [.int .u64 0, .int .u64 0, .opq (.ivar .u64 0), .opq (.ivar .u64 1)], .one (.int .i64 65)] [] [] 0).map (·.1) = some (.agg [.opq (.bin .or .u64 (.lit .u64 0) (.bin .shr .u64 (.ivar .u64 0) (.lit .i64 63))), .opq (.bin .or .u64 (.bin .shl .u64 (.ivar .u64 0) (.lit .i64 1)) (.bin .shr .u64 (.ivar .u64 1) (.lit .i64 63))), .opq (.bin .shl .u64 (.ivar .u64 1) (.lit .i64 1)), .int .u64 0]) := by kernel_rfl
theorem w63i : IntKind.i64.wrap 63 = ((63 : Nat) : Int) := rfl
theorem w1i : IntKind.i64.wrap 1 = 1 := rfl
theorem vb_or (a b : Int) : valBin .or .u64 a b = IntKind.u64.wrap (bits .or .u64 a b) := by unfold valBin; rfl
theorem sh2 (n : Nat) : IntKind.u64.wrap ((n : Int) * 2) = ((n * 2 % 18446744073709551616 : Nat) : Int) := by rw [IntKind.wrap_u64]; omega
theorem shl65_words (h l : Nat) (hh : h < 18446744073709551616) (hl : l < 18446744073709551616) : Pure Try.prog 146 #[.agg #[.int .u64 0, .int .u64 0, .int .u64 (h : Int), .int .u64 (l : Int)], .int .i64 65] (.agg #[.int .u64 ((h / 9223372036854775808 : Nat) : Int), .int .u64 ((h * 2 % 18446744073709551616 ||| l / 9223372036854775808 : Nat) : Int), .int .u64 ((l * 2 % 18446744073709551616 : Nat) : Int), .int .u64 0]) := by
 have i0 := iu_n (F := FT []) (zs := [(h : Int), (l : Int)]) (j := 0) rfl hh
 have i1 := iu_n (F := FT []) (zs := [(h : Int), (l : Int)]) (j := 1) rfl hl
 have p63 : ∀ n : Nat, n / 2 ^ 63 = n / 9223372036854775808 := fun n => by simp only [Nat.reducePow]
 have b1 : h / 9223372036854775808 < 18446744073709551616 := by omega
 have v1 : (SE.bin .or .u64 (.lit .u64 0) (.bin .shr .u64 (.ivar .u64 0) (.lit .i64 63))).val (envOf (FT []) [(h : Int), (l : Int)]) = ((h / 9223372036854775808 : Nat) : Int) := by
  rw [v_bin, v_bin, v_lit, v_lit, i0, w63i, w0u, vb_shr h 63 (by omega) hh, p63, vb_or]
  have := u64_or_nat 0 (h / 9223372036854775808) (by decide) b1
  rw [Nat.zero_or] at this
  have h' : bits .or .u64 0 ((h / 9223372036854775808 : Nat) : Int) = ((h / 9223372036854775808 : Nat) : Int) := this
  rw [h']; exact nat_w b1
 have v2 : (SE.bin .or .u64 (.bin .shl .u64 (.ivar .u64 0) (.lit .i64 1)) (.bin .shr .u64 (.ivar .u64 1) (.lit .i64 63))).val (envOf (FT []) [(h : Int), (l : Int)]) = ((h * 2 % 18446744073709551616 ||| l / 9223372036854775808 : Nat) : Int) := by
  rw [v_bin, v_bin, v_bin, v_lit, v_lit, i0, i1, w63i, w1i, vb_shr l 63 (by omega) hl, p63, vb_shl1, vb_or, sh2, u64_or_nat _ _ (Nat.mod_lt _ (by decide)) (by omega)]
  exact nat_w (double_words h l 0 (by omega) hh hl).1
 have v3 : (SE.bin .shl .u64 (.ivar .u64 1) (.lit .i64 1)).val (envOf (FT []) [(h : Int), (l : Int)]) = ((l * 2 % 18446744073709551616 : Nat) : Int) := by
  rw [v_bin, v_lit, i1, w1i, vb_shl1, sh2]
 exact pure_ev (c := cfT bW [] []) (d := 300) (vs := [.agg [.int .u64 0, .int .u64 0, .opq (.ivar .u64 0), .opq (.ivar .u64 1)], .one (.int .i64 65)]) (okT bW_ok bW_l tb_nil rfl .nil) s65_run
  (.cons (.agg (.cons .int (.cons .int (.cons (rel_at rfl i0) (.cons (rel_at rfl i1) .nil))))) (.cons (.one .int) .nil))
  (.agg (.cons (rel_at rfl v1) (.cons (rel_at rfl v2) (.cons (rel_at rfl v3) (.cons .int .nil)))))
theorem val4_65a (h l x : Nat) (hh : h < 18446744073709551616) (hl : l < 18446744073709551616) (d : val2 x (l * 2 % 18446744073709551616) = (2 * val2 h l + 0) % 340282366920938463463374607431768211456) : val4 (h / 9223372036854775808) x (l * 2 % 18446744073709551616) 0 = val2 h l * 36893488147419103232 := by
 have q1 : (2 * val2 h l + 0) / 340282366920938463463374607431768211456 = h / 9223372036854775808 := by unfold val2; omega
 have q2 := Nat.div_add_mod (2 * val2 h l + 0) 340282366920938463463374607431768211456
 rw [q1, ← d] at q2
 clear d q1
 generalize l * 2 % 18446744073709551616 = t0 at *
 generalize h / 9223372036854775808 = t2 at *
 unfold val2 at q2
 unfold val4 val2
 omega
theorem val4_65 (h l : Nat) (hh : h < 18446744073709551616) (hl : l < 18446744073709551616) : val4 (h / 9223372036854775808) (h * 2 % 18446744073709551616 ||| l / 9223372036854775808) (l * 2 % 18446744073709551616) 0 = val2 h l * 36893488147419103232 := by
 have d := (double_words h l 0 (by omega) hh hl).2.2
 have e0 : (l * 2 % 18446744073709551616 ||| 0) = l * 2 % 18446744073709551616 := Nat.or_zero _
 rw [e0] at d
 generalize (h * 2 % 18446744073709551616 ||| l / 9223372036854775808) = x at *
 exact val4_65a h l x hh hl d
theorem shl65_pure (t : Two) : Pure Try.prog 146 #[.agg #[.int .u64 0, .int .u64 0, .int .u64 t.hi, .int .u64 t.lo], .int .i64 65] (Four.of (t.n * 36893488147419103232)).v := by
 obtain ⟨y1, y0, hy⟩ := t
 obtain ⟨h, rfl⟩ := Int.eq_ofNat_of_zero_le hy.1
 obtain ⟨l, rfl⟩ := Int.eq_ofNat_of_zero_le hy.2.2.1
 have hh : h < 18446744073709551616 := by omega
 have hl : l < 18446744073709551616 := by omega
 have hp := shl65_words h l hh hl
 have hv := val4_65 h l hh hl
 have hb := (double_words h l 0 (by omega) hh hl).1
 have key : ∀ F : Four, F.n = val2 h l * 36893488147419103232 → F = Four.of (val2 h l * 36893488147419103232) := fun F h => by rw [← h, Four.n_of]
 have e : (⟨(h : Int), (l : Int), hy⟩ : Two).n = val2 h l := rfl
 rw [e, ← key ⟨⟨((h / 9223372036854775808 : Nat) : Int), ((h * 2 % 18446744073709551616 ||| l / 9223372036854775808 : Nat) : Int), by omega⟩, ⟨((l * 2 % 18446744073709551616 : Nat) : Int), 0, by omega⟩⟩ hv]
 exact hp
/-! the quotient -/
def rdivN (x y : Nat) : Nat := (x * 36893488147419103232 + y) / (2 * y % 340282366920938463463374607431768211456)
def rdiv (a b : Fx) : Fx × Int := if b.n = 0 then (Fx.of 0, 2) else told (Four.of (rdivN a.mag.n b.mag.n)) (!(a.below == b.below))
theorem dfour0_pure (A : Four) : Pure Try.prog 147 #[A.v, .agg #[.int .u64 0, .int .u64 0]] (.agg #[.int .u64 0, .int .u64 0, .int .u64 0, .int .u64 0, .int .u64 0, .int .u64 0, .bool false]) := by
 obtain ⟨⟨x3, x2, hx⟩, ⟨x1, x0, hx'⟩⟩ := A
 have g : FT Td6_T 147 = treeFn tr147 (FT Df6_T) := by kernel_rfl
 have ok : ∀ x : Int, 0 ≤ x ∧ x < 18446744073709551616 → inK (some .u64) x := fun x h => by show IntKind.u64.wrap x = x; rw [IntKind.wrap_u64]; omega
 have hc := ((Td6_ok 147 [.agg [some .u64, some .u64, some .u64, some .u64], .agg [some .u64, some .u64]] (.one (.agg [some .u64, some .u64, some .u64, some .u64, some .u64, some .u64, none])) rfl).2 [x3, x2, x1, x0, 0, 0] ⟨ok _ ⟨hx.1, hx.2.1⟩, ok _ hx.2.2, ok _ ⟨hx'.1, hx'.2.1⟩, ok _ hx'.2.2, rfl, rfl, trivial⟩).2
 have hv : FT Td6_T 147 [x3, x2, x1, x0, 0, 0] = [0, 0, 0, 0, 0, 0, 0] := by
  rw [g]
  have hz : ((SE.and (.cmp .eql (.ivar .u64 4) (.lit .u64 0)) (.and (.cmp .eql (.ivar .u64 5) (.lit .u64 0)) (.cmp .eql (.lit .i64 1) (.lit .i64 1)))).val (envOf (FT Df6_T) [x3, x2, x1, x0, 0, 0]) != 0) = true := by
   rw [v_and, v_and, v_cmp, v_cmp, v_cmp, iu_n (n := 0) rfl (by decide), iu_n (n := 0) rfl (by decide), v_lit, v_lit, w0u, w1i]; rfl
  simp only [treeFn, tr147, ST.get]
  rw [hz, cond_true]; rfl
 rw [hv] at hc
 exact hc
theorem four_add (F : Four) (y : Two) (N : Nat) (hN : F.n + y.n = N) (hlt : N < 115792089237316195423570985008687907853269984665640564039457584007913129639936) :
  (340282366920938463463374607431768211456 ≤ F.lo.n + y.n → (⟨Two.of (F.hi.n + 1), Two.of (F.lo.n + y.n)⟩ : Four).n = N) ∧ (¬ 340282366920938463463374607431768211456 ≤ F.lo.n + y.n → (⟨F.hi, Two.of (F.lo.n + y.n)⟩ : Four).n = N) := by
 have h0 := F.n_eq
 have hl := F.lo.lt
 have hh := F.hi.lt
 have hy := y.lt
 have s := Two.of_n (F.lo.n + y.n)
 have u := Two.of_n (F.hi.n + 1)
 refine ⟨fun h => ?_, fun h => ?_⟩
 ·rw [Four.n_eq ⟨_, _⟩]; show (Two.of (F.hi.n + 1)).n * _ + (Two.of (F.lo.n + y.n)).n = _; rw [s, u]; omega
 ·rw [Four.n_eq ⟨_, _⟩]; show F.hi.n * _ + (Two.of (F.lo.n + y.n)).n = _; rw [s]; omega
theorem two_zero {t : Two} (h : t.n = 0) : t.v = .agg #[.int .u64 0, .int .u64 0] := by
 have := t.n_int; have := t.b
 have h1 : t.hi = 0 := by omega
 have h2 : t.lo = 0 := by omega
 show Value.agg #[.int .u64 t.hi, .int .u64 t.lo] = _
 rw [h1, h2]
theorem dfour_any (A : Four) (B : Two) : ∃ r1 r0 : Int, ∃ ok : Bool, Pure Try.prog 147 #[A.v, B.v] (.agg #[.int .u64 (Four.of (A.n / B.n)).hi.hi, .int .u64 (Four.of (A.n / B.n)).hi.lo, .int .u64 (Four.of (A.n / B.n)).lo.hi, .int .u64 (Four.of (A.n / B.n)).lo.lo, .int .u64 r1, .int .u64 r0, .bool ok]) := by
 by_cases h : B.n = 0
 ·refine ⟨0, 0, false, ?_⟩
  have hp := dfour0_pure A
  rw [h, Nat.div_zero, two_zero h]
  exact hp
 ·exact ⟨_, _, _, dfour_pure A B h⟩
theorem rd_lt (x y : Nat) (hx : x < 340282366920938463463374607431768211456) (hy : y < 340282366920938463463374607431768211456) : x * 36893488147419103232 + y < 115792089237316195423570985008687907853269984665640564039457584007913129639936 := by omega
theorem rd_four (x : Nat) (hx : x < 340282366920938463463374607431768211456) : (Four.of (x * 36893488147419103232)).n = x * 36893488147419103232 := by
 rw [Four.of_n]; exact Nat.mod_eq_of_lt (by omega)
theorem dbl_two (y : Nat) : (Two.of (y + y)).n = 2 * y % 340282366920938463463374607431768211456 := by rw [Two.of_n]; congr 1; omega
theorem fx_zero_iff (b : Fx) : b.n = 0 ↔ (b.hi = 0 ∧ b.lo = 0) := by have := b.b; unfold Fx.n; omega
set_option maxHeartbeats 8000000 in
theorem rdiv_pure (a b : Fx) : Pure Try.prog 140 #[a.v, b.v] (.agg #[.int .i64 (rdiv a b).1.hi, .int .u64 (rdiv a b).1.lo, .int .i64 (rdiv a b).2]) := by
 have o1 := mag_pure a
 have o2 := mag_pure b
 have s1 := shl65_pure a.mag
 have ea : decide (a.hi < 0) = a.below := rfl
 have eb : decide (b.hi < 0) = b.below := rfl
 have c1 : arith .lss .i64 a.hi 0 = some (.bool a.below) := by simp only [arith, ea]
 have c2 : arith .lss .i64 b.hi 0 = some (.bool b.below) := by simp only [arith, eb]
 have hzi := fx_zero_iff b
 have tt : true = true := rfl; have ff : false = false := rfl; have nt : (!true) = false := rfl; have nf : (!false) = true := rfl
 by_cases hz : b.n = 0
 ·have hr : rdiv a b = (Fx.of 0, 2) := by unfold rdiv; rw [if_pos hz]
  rw [hr]
  obtain ⟨bh, bl, hb⟩ := b
  obtain ⟨h1, h2⟩ := hzi.1 hz
  have h1 : bh = 0 := h1
  have h2 : bl = 0 := h2
  subst h1 h2
  clear hr hz hzi o2 c2 eb
  have hz3 : ((⟨0, 0, hb⟩ : Fx).hi == 0 && ((⟨0, 0, hb⟩ : Fx).lo == 0 && true)) = true := rfl
  refine pure_q Try.func140 rfl Try.ntmps140 rfl rfl (fun w0 Q hQ => ?_)
  repeat' (
   first
    | refine j_seq_k (fun N hN => ?_)
    | refine j_text ?_
    | refine j_draw (id := 3) [] (by kernel_rfl) (by kernel_rfl) ?_
    | refine j_draw (id := 8) [] (by kernel_rfl) (by kernel_rfl) ?_
    | refine j_block ?_
    | refine j_skip ?_
    | refine j_ret ?_
    | refine j_exit ?_
    | refine s_nil (show X _ _ _ _ _ from ?_)
    | (refine x_next hN ?_; clear hN N)
    | (refine x_then_ret ?_; clear hN N)
    | (refine x_then_exit ?_; clear hN N)
    | refine x_block ?_
    | refine x_block_ret ?_
    | refine x_block_hit ?_
    | refine x_block_miss (by eq_refl) ?_
    | refine k_skip (h := ?_)
    | refine k_fieldAddr (h := ?_)
    | refine k_load_one (h := ?_)
    | refine k_load_agg (h := ?_)
    | refine k_bin (h := ?_)
    | refine k_move (h := ?_)
    | refine k_assign (h := ?_)
    | refine k_extract (h := ?_)
    | refine k_call (hp := o1) (h := ?_)
    | refine k_call (hp := s1) (h := ?_)
    | (refine k_box (h := ?_); intro g)
    | (refine k_alloc (h := ?_); intro g)
    | refine k_store (h := ?_)
    | refine k_field_agg (h := ?_)
    | refine k_build (h := ?_)
    | refine k_conv (h := ?_)
    | refine k_not (h := ?_)
    | refine k_eqb (h := ?_)
    | refine k_neb (h := ?_)
    | refine k_eqs (h := ?_)
    | refine k_nes (h := ?_)
    | refine k_pick_t (h := ?_)
    | refine k_pick_f (h := ?_)
    | refine k_shl (h := ?_)
    | refine k_shr (h := ?_)
    | refine k_len_slice (h := ?_)
    | refine k_quo (h := ?_)
    | refine k_rem (h := ?_)
    | (refine k_buildSlice (h := ?_); intro g)
    | refine k_indexAddr_arr (h := ?_)
    | refine c_true (h := ?_)
    | refine c_false (h := ?_)
    | (refine s_ask (by eq_refl) (by eq_refl) (evO_eq (by eq_refl)) (fun hask => ?_) (fun hask => ?_))
    | (refine c_split (by eq_refl) (fun hif => ?_) (fun hif => ?_))
   )
  all_goals refine hQ _ _ (ret1 rfl (by (first | exact v_tmp | exact v_agg)) ?_)
  all_goals rfl
 ·have hr : rdiv a b = told (Four.of (rdivN a.mag.n b.mag.n)) (!(a.below == b.below)) := by unfold rdiv; rw [if_neg hz]
  rw [hr]
  have sg := signed_pure (!(a.below == b.below)) (Four.of (rdivN a.mag.n b.mag.n))
  unfold rdivN at sg ⊢
  obtain ⟨k1, k0⟩ := four_add (Four.of (a.mag.n * 36893488147419103232)) b.mag _ rfl (by rw [rd_four _ a.mag.lt]; exact rd_lt _ _ a.mag.lt b.mag.lt)
  rw [rd_four _ a.mag.lt] at k1 k0
  have a1 := addtwo_pure (Four.of (a.mag.n * 36893488147419103232)).lo b.mag
  have a2 := addtwo_pure (Four.of (a.mag.n * 36893488147419103232)).hi ⟨0, 1, by decide⟩
  have z1 : (⟨0, 1, by decide⟩ : Two).n = 1 := by kernel_rfl
  rw [z1] at a2
  have a3 := addtwo_pure b.mag b.mag
  obtain ⟨r1, r0, ok, d1⟩ := dfour_any ⟨Two.of ((Four.of (a.mag.n * 36893488147419103232)).hi.n + 1), Two.of ((Four.of (a.mag.n * 36893488147419103232)).lo.n + b.mag.n)⟩ (Two.of (b.mag.n + b.mag.n))
  obtain ⟨t1, t0, ok', d0⟩ := dfour_any ⟨(Four.of (a.mag.n * 36893488147419103232)).hi, Two.of ((Four.of (a.mag.n * 36893488147419103232)).lo.n + b.mag.n)⟩ (Two.of (b.mag.n + b.mag.n))
  rw [dbl_two] at d1 d0
  generalize hc : decide (340282366920938463463374607431768211456 ≤ (Four.of (a.mag.n * 36893488147419103232)).lo.n + b.mag.n) = c at *
  have hcc : (340282366920938463463374607431768211456 ≤ (Four.of (a.mag.n * 36893488147419103232)).lo.n + b.mag.n) ↔ c = true := by rw [← hc]; exact decide_eq_true_iff.symm
  rw [hcc] at k1 k0
  clear hcc hc hr ea eb
  generalize decide (340282366920938463463374607431768211456 ≤ (Four.of (a.mag.n * 36893488147419103232)).hi.n + 1) = c' at *
  generalize decide (340282366920938463463374607431768211456 ≤ b.mag.n + b.mag.n) = c'' at *
  generalize Two.of ((Four.of (a.mag.n * 36893488147419103232)).lo.n + b.mag.n) = S at *
  generalize Two.of ((Four.of (a.mag.n * 36893488147419103232)).hi.n + 1) = U at *
  generalize Four.of (a.mag.n * 36893488147419103232) = FF at *
  generalize Two.of (b.mag.n + b.mag.n) = B2 at *
  generalize 2 * b.mag.n % 340282366920938463463374607431768211456 = D2 at *
  generalize a.mag.n * 36893488147419103232 + b.mag.n = NN at *
  have hz3 : (b.hi == 0 && (b.lo == 0 && true)) = false := by
   rw [Bool.eq_false_iff]; intro h; simp at h; exact hz (hzi.2 h)
  clear hz hzi
  cases c with
  | true =>
   rw [k1 rfl] at d1
   have d1' : Pure Try.prog 147 #[.agg #[.int .u64 U.hi, .int .u64 U.lo, .int .u64 S.hi, .int .u64 S.lo], B2.v] _ := d1
   clear d0 d1 k0 k1
   generalize Four.of (NN / D2) = QQ at *
   generalize told QQ (!(a.below == b.below)) = TT at *
   refine pure_q Try.func140 rfl Try.ntmps140 rfl rfl (fun w0 Q hQ => ?_)
   repeat' (
    first
     | refine j_seq_k (fun N hN => ?_)
     | refine j_text ?_
     | refine j_draw (id := 3) [] (by kernel_rfl) (by kernel_rfl) ?_
     | refine j_draw (id := 8) [] (by kernel_rfl) (by kernel_rfl) ?_
     | refine j_block ?_
     | refine j_skip ?_
     | refine j_ret ?_
     | refine j_exit ?_
     | refine s_nil (show X _ _ _ _ _ from ?_)
     | (refine x_next hN ?_; clear hN N)
     | (refine x_then_ret ?_; clear hN N)
     | (refine x_then_exit ?_; clear hN N)
     | refine x_block ?_
     | refine x_block_ret ?_
     | refine x_block_hit ?_
     | refine x_block_miss (by eq_refl) ?_
     | refine k_skip (h := ?_)
     | refine k_fieldAddr (h := ?_)
     | refine k_load_one (h := ?_)
     | refine k_load_agg (h := ?_)
     | refine k_bin (h := ?_)
     | refine k_move (h := ?_)
     | refine k_assign (h := ?_)
     | refine k_extract (h := ?_)
     | refine k_call (hp := o1) (h := ?_)
     | refine k_call (hp := o2) (h := ?_)
     | refine k_call (hp := s1) (h := ?_)
     | refine k_call (hp := a1) (h := ?_)
     | refine k_call (hp := a2) (h := ?_)
     | refine k_call (hp := a3) (h := ?_)
     | refine k_call (hp := d1') (h := ?_)
     | refine k_call (hp := sg) (h := ?_)
     | (refine k_box (h := ?_); intro g)
     | (refine k_alloc (h := ?_); intro g)
     | refine k_store (h := ?_)
     | refine k_field_agg (h := ?_)
     | refine k_build (h := ?_)
     | refine k_conv (h := ?_)
     | refine k_not (h := ?_)
     | refine k_eqb (h := ?_)
     | refine k_neb (h := ?_)
     | refine k_eqs (h := ?_)
     | refine k_nes (h := ?_)
     | refine k_pick_t (h := ?_)
     | refine k_pick_f (h := ?_)
     | refine k_shl (h := ?_)
     | refine k_shr (h := ?_)
     | refine k_len_slice (h := ?_)
     | refine k_quo (h := ?_)
     | refine k_rem (h := ?_)
     | (refine k_buildSlice (h := ?_); intro g)
     | refine k_indexAddr_arr (h := ?_)
     | refine c_true (h := ?_)
     | refine c_false (h := ?_)
     | (refine s_ask (by eq_refl) (by eq_refl) (evO_eq (by eq_refl)) (fun hask => ?_) (fun hask => ?_))
     | (refine c_split (by eq_refl) (fun hif => ?_) (fun hif => ?_))
    )
   all_goals refine hQ _ _ (ret1 rfl (by (first | exact v_tmp | exact v_agg)) ?_)
   all_goals rfl
  | false =>
   rw [k0 (by decide)] at d0
   have d0' : Pure Try.prog 147 #[.agg #[.int .u64 FF.hi.hi, .int .u64 FF.hi.lo, .int .u64 S.hi, .int .u64 S.lo], B2.v] _ := d0
   clear d0 d1 k0 k1
   generalize Four.of (NN / D2) = QQ at *
   generalize told QQ (!(a.below == b.below)) = TT at *
   refine pure_q Try.func140 rfl Try.ntmps140 rfl rfl (fun w0 Q hQ => ?_)
   repeat' (
    first
     | refine j_seq_k (fun N hN => ?_)
     | refine j_text ?_
     | refine j_draw (id := 3) [] (by kernel_rfl) (by kernel_rfl) ?_
     | refine j_draw (id := 8) [] (by kernel_rfl) (by kernel_rfl) ?_
     | refine j_block ?_
     | refine j_skip ?_
     | refine j_ret ?_
     | refine j_exit ?_
     | refine s_nil (show X _ _ _ _ _ from ?_)
     | (refine x_next hN ?_; clear hN N)
     | (refine x_then_ret ?_; clear hN N)
     | (refine x_then_exit ?_; clear hN N)
     | refine x_block ?_
     | refine x_block_ret ?_
     | refine x_block_hit ?_
     | refine x_block_miss (by eq_refl) ?_
     | refine k_skip (h := ?_)
     | refine k_fieldAddr (h := ?_)
     | refine k_load_one (h := ?_)
     | refine k_load_agg (h := ?_)
     | refine k_bin (h := ?_)
     | refine k_move (h := ?_)
     | refine k_assign (h := ?_)
     | refine k_extract (h := ?_)
     | refine k_call (hp := o1) (h := ?_)
     | refine k_call (hp := o2) (h := ?_)
     | refine k_call (hp := s1) (h := ?_)
     | refine k_call (hp := a1) (h := ?_)
     | refine k_call (hp := a2) (h := ?_)
     | refine k_call (hp := a3) (h := ?_)
     | refine k_call (hp := d0') (h := ?_)
     | refine k_call (hp := sg) (h := ?_)
     | (refine k_box (h := ?_); intro g)
     | (refine k_alloc (h := ?_); intro g)
     | refine k_store (h := ?_)
     | refine k_field_agg (h := ?_)
     | refine k_build (h := ?_)
     | refine k_conv (h := ?_)
     | refine k_not (h := ?_)
     | refine k_eqb (h := ?_)
     | refine k_neb (h := ?_)
     | refine k_eqs (h := ?_)
     | refine k_nes (h := ?_)
     | refine k_pick_t (h := ?_)
     | refine k_pick_f (h := ?_)
     | refine k_shl (h := ?_)
     | refine k_shr (h := ?_)
     | refine k_len_slice (h := ?_)
     | refine k_quo (h := ?_)
     | refine k_rem (h := ?_)
     | (refine k_buildSlice (h := ?_); intro g)
     | refine k_indexAddr_arr (h := ?_)
     | refine c_true (h := ?_)
     | refine c_false (h := ?_)
     | (refine s_ask (by eq_refl) (by eq_refl) (evO_eq (by eq_refl)) (fun hask => ?_) (fun hask => ?_))
     | (refine c_split (by eq_refl) (fun hif => ?_) (fun hif => ?_))
    )
   all_goals refine hQ _ _ (ret1 rfl (by (first | exact v_tmp | exact v_agg)) ?_)
   all_goals rfl
end Go.Proofs.Ytedfbamihjnhhaa.Own
