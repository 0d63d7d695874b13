/- Plain laws of wide numbers: words, sums, products, shifts, lengths. -/
namespace Go.Proofs.Ytedfbamihjnhhaa.Plain
/-- four words as one number, the highest first -/
def val4 (a b c d : Nat) : Nat := ((a * 18446744073709551616 + b) * 18446744073709551616 + c) * 18446744073709551616 + d
def val2 (a b : Nat) : Nat := a * 18446744073709551616 + b
/-- word i of a number -/
def wrd (i N : Nat) : Nat := N / 18446744073709551616 ^ i % 18446744073709551616
theorem wrd_lt (i N : Nat) : wrd i N < 18446744073709551616 := Nat.mod_lt _ (by decide)
theorem val4_lt {a b c d : Nat} (ha : a < 18446744073709551616) (hb : b < 18446744073709551616) (hc : c < 18446744073709551616) (hd : d < 18446744073709551616) : val4 a b c d < 115792089237316195423570985008687907853269984665640564039457584007913129639936 := by
  unfold val4; omega
theorem val2_lt {a b : Nat} (ha : a < 18446744073709551616) (hb : b < 18446744073709551616) : val2 a b < 340282366920938463463374607431768211456 := by
  unfold val2; omega
theorem words_of4 {a b c d N : Nat} (ha : a < 18446744073709551616) (hb : b < 18446744073709551616) (hc : c < 18446744073709551616) (hd : d < 18446744073709551616) (h : val4 a b c d = N) :
    wrd 3 N = a ∧ wrd 2 N = b ∧ wrd 1 N = c ∧ wrd 0 N = d := by
  subst h; unfold val4 wrd
  simp only [Nat.reducePow]
  omega
theorem words_of2 {a b N : Nat} (ha : a < 18446744073709551616) (hb : b < 18446744073709551616) (h : val2 a b = N) :
    wrd 1 N = a ∧ wrd 0 N = b := by
  subst h; unfold val2 wrd
  simp only [Nat.reducePow]
  omega
theorem val4_wrd (N : Nat) (h : N < 115792089237316195423570985008687907853269984665640564039457584007913129639936) : val4 (wrd 3 N) (wrd 2 N) (wrd 1 N) (wrd 0 N) = N := by
  unfold val4 wrd
  simp only [Nat.reducePow]
  omega
theorem val2_wrd (N : Nat) (h : N < 340282366920938463463374607431768211456) : val2 (wrd 1 N) (wrd 0 N) = N := by
  unfold val2 wrd
  simp only [Nat.reducePow]
  omega
theorem val4_inj {a b c d a' b' c' d' : Nat} (hb : b < 18446744073709551616) (hc : c < 18446744073709551616) (hd : d < 18446744073709551616) (hb' : b' < 18446744073709551616) (hc' : c' < 18446744073709551616) (hd' : d' < 18446744073709551616)
    (h : val4 a b c d = val4 a' b' c' d') : a = a' ∧ b = b' ∧ c = c' ∧ d = d' := by
  unfold val4 at h; omega
/-- the parts of a shifted word -/
theorem or_add (k a b : Nat) (hb : b < 2 ^ k) : (2 ^ k * a) ||| b = 2 ^ k * a + b := (Nat.two_pow_add_eq_or_of_lt hb a).symm
theorem pq (s : Nat) (hs : s < 64) : 2 ^ s * 2 ^ (64 - s) = 18446744073709551616 := by
  rw [← Nat.pow_add, show s + (64 - s) = 64 by omega]
theorem shl_word (s w v : Nat) (hs : s < 64) (hv : v < 18446744073709551616) :
    (w * 2 ^ s % 18446744073709551616) ||| (v / 2 / 2 ^ (63 - s)) = 2 ^ s * (w % 2 ^ (64 - s)) + v / 2 ^ (64 - s) ∧ v / 2 ^ (64 - s) < 2 ^ s := by
  have e := pq s hs
  have hlt : v / 2 ^ (64 - s) < 2 ^ s := Nat.div_lt_of_lt_mul (by rw [Nat.mul_comm, e]; exact hv)
  have e1 : w * 2 ^ s % 18446744073709551616 = 2 ^ s * (w % 2 ^ (64 - s)) := by rw [← e, Nat.mul_comm w, Nat.mul_mod_mul_left]
  have e2 : v / 2 / 2 ^ (63 - s) = v / 2 ^ (64 - s) := by rw [Nat.div_div_eq_div_mul, ← Nat.pow_succ', show (63 - s).succ = 64 - s by omega]
  rw [e1, e2]
  exact ⟨or_add _ _ _ hlt, hlt⟩
theorem shl_first (s w : Nat) (hs : s < 64) : w * 2 ^ s % 18446744073709551616 = 2 ^ s * (w % 2 ^ (64 - s)) := by
  rw [← pq s hs, Nat.mul_comm w, Nat.mul_mod_mul_left]
/-- a word shifted: what stays, and what goes up -/
theorem word_parts (s w : Nat) (hs : s < 64) : w * 2 ^ s = 18446744073709551616 * (w / 2 ^ (64 - s)) + 2 ^ s * (w % 2 ^ (64 - s)) ∧ 2 ^ s * (w % 2 ^ (64 - s)) + 2 ^ s ≤ 18446744073709551616 := by
  have e := pq s hs
  have d := Nat.div_add_mod w (2 ^ (64 - s))
  have h1 : 2 ^ s * (2 ^ (64 - s) * (w / 2 ^ (64 - s)) + w % 2 ^ (64 - s)) = 18446744073709551616 * (w / 2 ^ (64 - s)) + 2 ^ s * (w % 2 ^ (64 - s)) := by rw [Nat.mul_add, ← Nat.mul_assoc, e]
  have h2 : 2 ^ s * (w % 2 ^ (64 - s)) + 2 ^ s ≤ 18446744073709551616 := by
    rw [← e, ← Nat.mul_succ]
    exact Nat.mul_le_mul_left _ (Nat.mod_lt _ (Nat.pow_pos (by decide)))
  rw [d] at h1
  exact ⟨by rw [Nat.mul_comm]; exact h1, h2⟩
theorem shl_parts (s a b c d : Nat) (hs : s < 64) (hb : b < 18446744073709551616) (hc : c < 18446744073709551616) (hd : d < 18446744073709551616) :
    val4 (a * 2 ^ s % 18446744073709551616 ||| b / 2 / 2 ^ (63 - s)) (b * 2 ^ s % 18446744073709551616 ||| c / 2 / 2 ^ (63 - s)) (c * 2 ^ s % 18446744073709551616 ||| d / 2 / 2 ^ (63 - s)) (d * 2 ^ s % 18446744073709551616) = val4 a b c d * 2 ^ s % 115792089237316195423570985008687907853269984665640564039457584007913129639936 := by
  obtain ⟨e1, l1⟩ := shl_word s a b hs hb
  obtain ⟨e2, l2⟩ := shl_word s b c hs hc
  obtain ⟨e3, l3⟩ := shl_word s c d hs hd
  have e4 := shl_first s d hs
  obtain ⟨p1, q1⟩ := word_parts s a hs
  obtain ⟨p2, q2⟩ := word_parts s b hs
  obtain ⟨p3, q3⟩ := word_parts s c hs
  obtain ⟨p4, q4⟩ := word_parts s d hs
  rw [e1, e2, e3, e4]
  unfold val4
  simp only [Nat.add_mul, Nat.mul_right_comm _ 18446744073709551616, p1, p2, p3, p4]
  have hP : 0 < 2 ^ s := Nat.pow_pos (by decide)
  generalize 2 ^ s * (a % 2 ^ (64 - s)) = pa at *
  generalize 2 ^ s * (b % 2 ^ (64 - s)) = pb at *
  generalize 2 ^ s * (c % 2 ^ (64 - s)) = pc at *
  generalize 2 ^ s * (d % 2 ^ (64 - s)) = pd at *
  generalize a / 2 ^ (64 - s) = ga at *
  generalize b / 2 ^ (64 - s) = gb at *
  generalize c / 2 ^ (64 - s) = gc at *
  generalize d / 2 ^ (64 - s) = gd at *
  generalize 2 ^ s = P at *
  clear p1 p2 p3 p4 e1 e2 e3 e4 hb hc hd hs
  omega

theorem shl_mod (N s k : Nat) (h : k ≤ 256) : (N % 2 ^ 256) * 2 ^ s % 2 ^ 256 = N * 2 ^ s % 2 ^ 256 ∧ k ≤ 256 := ⟨by rw [Nat.mod_mul_mod], h⟩
/-- n places to the left -/
def shlN (N n : Nat) : Nat := N * 2 ^ n % 115792089237316195423570985008687907853269984665640564039457584007913129639936
theorem shlN_0 (a b c d s n : Nat) (hn : n = s) (hs : s < 64) (hb : b < 18446744073709551616) (hc : c < 18446744073709551616) (hd : d < 18446744073709551616) :
    val4 (a * 2 ^ s % 18446744073709551616 ||| b / 2 / 2 ^ (63 - s)) (b * 2 ^ s % 18446744073709551616 ||| c / 2 / 2 ^ (63 - s)) (c * 2 ^ s % 18446744073709551616 ||| d / 2 / 2 ^ (63 - s)) (d * 2 ^ s % 18446744073709551616) = shlN (val4 a b c d) n := by
  subst hn; exact shl_parts n a b c d hs hb hc hd
theorem shlN_move {N M s t n : Nat} (hn : n = t + s) (hM : N * 2 ^ t % 115792089237316195423570985008687907853269984665640564039457584007913129639936 = M) : M * 2 ^ s % 115792089237316195423570985008687907853269984665640564039457584007913129639936 = shlN N n := by
  subst hM hn
  unfold shlN
  rw [Nat.mod_mul_mod, Nat.pow_add, ← Nat.mul_assoc]
theorem zero_or_shr (x k : Nat) : x ||| 0 / 2 / 2 ^ k = x := by simp
theorem shlN_1 (a b c d s n : Nat) (hn : n = 64 + s) (hs : s < 64) (hb : b < 18446744073709551616) (hc : c < 18446744073709551616) (hd : d < 18446744073709551616) :
    val4 (b * 2 ^ s % 18446744073709551616 ||| c / 2 / 2 ^ (63 - s)) (c * 2 ^ s % 18446744073709551616 ||| d / 2 / 2 ^ (63 - s)) (d * 2 ^ s % 18446744073709551616) 0 = shlN (val4 a b c d) n := by
  have h := shl_parts s b c d 0 hs hc hd (by decide)
  simp only [zero_or_shr, Nat.zero_mul, Nat.zero_mod] at h
  rw [h]
  refine shlN_move hn ?_
  unfold val4
  simp only [Nat.reducePow]
  omega
theorem shlN_2 (a b c d s n : Nat) (hn : n = 128 + s) (hs : s < 64) (hc : c < 18446744073709551616) (hd : d < 18446744073709551616) :
    val4 (c * 2 ^ s % 18446744073709551616 ||| d / 2 / 2 ^ (63 - s)) (d * 2 ^ s % 18446744073709551616) 0 0 = shlN (val4 a b c d) n := by
  have h := shl_parts s c d 0 0 hs hd (by decide) (by decide)
  simp only [zero_or_shr, Nat.zero_mul, Nat.zero_mod] at h
  rw [h]
  refine shlN_move hn ?_
  unfold val4
  simp only [Nat.reducePow]
  omega
theorem shlN_3 (a b c d s n : Nat) (hn : n = 192 + s) (hs : s < 64) (hd : d < 18446744073709551616) :
    val4 (d * 2 ^ s % 18446744073709551616) 0 0 0 = shlN (val4 a b c d) n := by
  have h := shl_parts s d 0 0 0 hs (by decide) (by decide) (by decide)
  simp only [zero_or_shr, Nat.zero_mul, Nat.zero_mod] at h
  rw [h]
  refine shlN_move hn ?_
  unfold val4
  simp only [Nat.reducePow]
  omega
theorem shlN_big (N n : Nat) (h : 256 ≤ n) : shlN N n = 0 := by
  unfold shlN
  obtain ⟨m, rfl⟩ : ∃ m, n = m + 256 := ⟨n - 256, by omega⟩
  rw [Nat.pow_add, ← Nat.mul_assoc]
  exact Nat.mul_mod_left _ _
theorem shr_word (s w v : Nat) (hs : s < 64) (hw : w < 18446744073709551616) :
    (w / 2 ^ s) ||| (v * 2 % 18446744073709551616 * 2 ^ (63 - s) % 18446744073709551616) = w / 2 ^ s + 2 ^ (64 - s) * (v % 2 ^ s) := by
  have e := pq s hs
  have hlt : w / 2 ^ s < 2 ^ (64 - s) := Nat.div_lt_of_lt_mul (by rw [e]; exact hw)
  have e1 : v * 2 % 18446744073709551616 * 2 ^ (63 - s) % 18446744073709551616 = 2 ^ (64 - s) * (v % 2 ^ s) := by
    rw [Nat.mod_mul_mod, Nat.mul_assoc, ← Nat.pow_succ', show (63 - s).succ = 64 - s by omega, ← e, Nat.mul_comm v, Nat.mul_comm (2 ^ s), Nat.mul_mod_mul_left]
  rw [e1, Nat.or_comm, or_add _ _ _ hlt, Nat.add_comm]
theorem shr_parts (s a b c d : Nat) (hs : s < 64) (hb : b < 18446744073709551616) (hc : c < 18446744073709551616) (hd : d < 18446744073709551616) :
    val4 (a / 2 ^ s) (b / 2 ^ s ||| a * 2 % 18446744073709551616 * 2 ^ (63 - s) % 18446744073709551616) (c / 2 ^ s ||| b * 2 % 18446744073709551616 * 2 ^ (63 - s) % 18446744073709551616) (d / 2 ^ s ||| c * 2 % 18446744073709551616 * 2 ^ (63 - s) % 18446744073709551616) = val4 a b c d / 2 ^ s := by
  rw [shr_word s b a hs hb, shr_word s c b hs hc, shr_word s d c hs hd]
  have e := pq s hs
  have hP : 0 < 2 ^ s := Nat.pow_pos (by decide)
  have da := Nat.div_add_mod a (2 ^ s)
  have db := Nat.div_add_mod b (2 ^ s)
  have dc := Nat.div_add_mod c (2 ^ s)
  have dd := Nat.div_add_mod d (2 ^ s)
  have ld := Nat.mod_lt d hP
  have key : val4 a b c d = d % 2 ^ s + 2 ^ s * val4 (a / 2 ^ s) (b / 2 ^ s + 2 ^ (64 - s) * (a % 2 ^ s)) (c / 2 ^ s + 2 ^ (64 - s) * (b % 2 ^ s)) (d / 2 ^ s + 2 ^ (64 - s) * (c % 2 ^ s)) := by
    unfold val4
    have m : ∀ x y : Nat, 2 ^ s * (x * 18446744073709551616 + y) = (2 ^ s * x) * 18446744073709551616 + 2 ^ s * y := fun x y => by rw [Nat.mul_add, Nat.mul_assoc]
    have m2 : ∀ x y : Nat, 2 ^ s * (x + 2 ^ (64 - s) * y) = 2 ^ s * x + 18446744073709551616 * y := fun x y => by rw [Nat.mul_add, ← Nat.mul_assoc, e]
    simp only [m, m2]
    generalize 2 ^ s * (a / 2 ^ s) = pa at *
    generalize 2 ^ s * (b / 2 ^ s) = pb at *
    generalize 2 ^ s * (c / 2 ^ s) = pc at *
    generalize 2 ^ s * (d / 2 ^ s) = pd at *
    generalize a % 2 ^ s = ra at *
    generalize b % 2 ^ s = rb at *
    generalize c % 2 ^ s = rc at *
    generalize d % 2 ^ s = rd at *
    clear e m m2 hb hc hd
    omega
  rw [key, Nat.add_mul_div_left _ _ hP, Nat.div_eq_of_lt ld, Nat.zero_add]
def shrN (N n : Nat) : Nat := N / 2 ^ n
theorem shrN_0 (a b c d s n : Nat) (hn : n = s) (hs : s < 64) (hb : b < 18446744073709551616) (hc : c < 18446744073709551616) (hd : d < 18446744073709551616) :
    val4 (a / 2 ^ s) (b / 2 ^ s ||| a * 2 % 18446744073709551616 * 2 ^ (63 - s) % 18446744073709551616) (c / 2 ^ s ||| b * 2 % 18446744073709551616 * 2 ^ (63 - s) % 18446744073709551616) (d / 2 ^ s ||| c * 2 % 18446744073709551616 * 2 ^ (63 - s) % 18446744073709551616) = shrN (val4 a b c d) n := by
  subst hn; exact shr_parts n a b c d hs hb hc hd
theorem shrN_move {N M s t n : Nat} (hn : n = t + s) (hM : N / 2 ^ t = M) : M / 2 ^ s = shrN N n := by
  subst hM hn
  unfold shrN
  rw [Nat.div_div_eq_div_mul, Nat.pow_add]
theorem or_zero_shl (x k : Nat) : x ||| 0 * 2 % 18446744073709551616 * 2 ^ k % 18446744073709551616 = x := by simp
theorem shrN_1 (a b c d s n : Nat) (hn : n = 64 + s) (hs : s < 64) (ha : a < 18446744073709551616) (hb : b < 18446744073709551616) (hc : c < 18446744073709551616) (hd : d < 18446744073709551616) :
    val4 0 (a / 2 ^ s) (b / 2 ^ s ||| a * 2 % 18446744073709551616 * 2 ^ (63 - s) % 18446744073709551616) (c / 2 ^ s ||| b * 2 % 18446744073709551616 * 2 ^ (63 - s) % 18446744073709551616) = shrN (val4 a b c d) n := by
  have h := shr_parts s 0 a b c hs ha hb hc
  simp only [or_zero_shl, Nat.zero_div] at h
  rw [h]
  refine shrN_move hn ?_
  unfold val4
  simp only [Nat.reducePow]
  omega
theorem shrN_2 (a b c d s n : Nat) (hn : n = 128 + s) (hs : s < 64) (ha : a < 18446744073709551616) (hb : b < 18446744073709551616) (hc : c < 18446744073709551616) (hd : d < 18446744073709551616) :
    val4 0 0 (a / 2 ^ s) (b / 2 ^ s ||| a * 2 % 18446744073709551616 * 2 ^ (63 - s) % 18446744073709551616) = shrN (val4 a b c d) n := by
  have h := shr_parts s 0 0 a b hs (by decide) ha hb
  simp only [or_zero_shl, Nat.zero_div] at h
  rw [h]
  refine shrN_move hn ?_
  unfold val4
  simp only [Nat.reducePow]
  omega
theorem shrN_3 (a b c d s n : Nat) (hn : n = 192 + s) (hs : s < 64) (ha : a < 18446744073709551616) (hb : b < 18446744073709551616) (hc : c < 18446744073709551616) (hd : d < 18446744073709551616) :
    val4 0 0 0 (a / 2 ^ s) = shrN (val4 a b c d) n := by
  have h := shr_parts s 0 0 0 a hs (by decide) (by decide) ha
  simp only [or_zero_shl, Nat.zero_div] at h
  rw [h]
  refine shrN_move hn ?_
  unfold val4
  simp only [Nat.reducePow]
  omega
theorem shrN_big (N n : Nat) (hN : N < 115792089237316195423570985008687907853269984665640564039457584007913129639936) (h : 256 ≤ n) : shrN N n = 0 := by
  unfold shrN
  have : 2 ^ 256 ≤ 2 ^ n := Nat.pow_le_pow_right (by decide) h
  exact Nat.div_eq_of_lt (Nat.lt_of_lt_of_le hN this)
/-- how many bits a number has -/
def blen (N : Nat) : Nat := if N = 0 then 0 else N.log2 + 1
theorem blen_le (N k : Nat) : blen N ≤ k ↔ N < 2 ^ k := by
  unfold blen
  split
  · rename_i h; subst h; simp [Nat.pow_pos]
  · rename_i h; rw [Nat.succ_le_iff]; exact Nat.log2_lt h
theorem blen_eq {N k : Nat} (h1 : 2 ^ k ≤ N) (h2 : N < 2 ^ (k + 1)) : blen N = k + 1 := by
  have a := (blen_le N (k + 1)).2 h2
  have b : ¬ blen N ≤ k := fun h => by have := (blen_le N k).1 h; omega
  omega
theorem blen_pow (N : Nat) (h : N ≠ 0) : 2 ^ (blen N - 1) ≤ N := by
  rcases Nat.lt_or_ge N (2 ^ (blen N - 1)) with h1 | h1
  · have := (blen_le N (blen N - 1)).2 h1
    have h0 : blen N ≠ 0 := by unfold blen; simp [h]
    omega
  · exact h1
theorem blen_lt (N : Nat) : N < 2 ^ blen N := (blen_le N _).1 (Nat.le_refl _)
theorem blen_up (N M t : Nat) (h : N ≠ 0) (hM : M < 2 ^ t) : blen (N * 2 ^ t + M) = t + blen N := by
  have h0 : blen N ≠ 0 := by unfold blen; simp [h]
  have h1 := blen_pow N h
  have h2 := blen_lt N
  have e : t + blen N = (t + (blen N - 1)) + 1 := by omega
  rw [e]
  refine blen_eq ?_ ?_
  · rw [Nat.add_comm t, Nat.pow_add]
    have := Nat.mul_le_mul_right (2 ^ t) h1
    omega
  · rw [show t + (blen N - 1) + 1 = blen N + t by omega, Nat.pow_add]
    have := Nat.mul_le_mul_right (2 ^ t) (show N + 1 ≤ 2 ^ blen N from h2)
    rw [Nat.succ_mul] at this
    omega
theorem blen_3 (a b c d : Nat) (ha : a ≠ 0) (hb : b < 18446744073709551616) (hc : c < 18446744073709551616) (hd : d < 18446744073709551616) : blen (val4 a b c d) = 192 + blen a := by
  have e : val4 a b c d = a * 2 ^ 192 + val4 0 b c d := by unfold val4; simp only [Nat.reducePow]; omega
  rw [e]
  exact blen_up _ _ _ ha (by unfold val4; simp only [Nat.reducePow]; omega)
theorem blen_2 (b c d : Nat) (hb : b ≠ 0) (hc : c < 18446744073709551616) (hd : d < 18446744073709551616) : blen (val4 0 b c d) = 128 + blen b := by
  have e : val4 0 b c d = b * 2 ^ 128 + val4 0 0 c d := by unfold val4; simp only [Nat.reducePow]; omega
  rw [e]
  exact blen_up _ _ _ hb (by unfold val4; simp only [Nat.reducePow]; omega)
theorem blen_1 (c d : Nat) (hc : c ≠ 0) (hd : d < 18446744073709551616) : blen (val4 0 0 c d) = 64 + blen c := by
  have e : val4 0 0 c d = c * 2 ^ 64 + d := by unfold val4; simp only [Nat.reducePow]; omega
  rw [e]
  exact blen_up _ _ _ hc (by simp only [Nat.reducePow]; omega)
theorem blen_0 (d : Nat) : blen (val4 0 0 0 d) = blen d := by
  have e : val4 0 0 0 d = d := by unfold val4; omega
  rw [e]
/-- one step of a product -/
theorem mul_step (p k o : Nat) (hp : p ≤ 340282366920938463426481119284349108225) (hk : k < 18446744073709551616) (ho : o < 18446744073709551616) :
    (o + (p % 18446744073709551616 + k) % 18446744073709551616) % 18446744073709551616 = (p + k + o) % 18446744073709551616 ∧
    ((p / 18446744073709551616 + (p % 18446744073709551616 + k) / 18446744073709551616) % 18446744073709551616 + (o + (p % 18446744073709551616 + k) % 18446744073709551616) / 18446744073709551616) % 18446744073709551616 = (p + k + o) / 18446744073709551616 ∧ (p + k + o) / 18446744073709551616 < 18446744073709551616 := by
  omega
theorem prod_le {x y : Nat} (hx : x < 18446744073709551616) (hy : y < 18446744073709551616) : x * y ≤ 340282366920938463426481119284349108225 := by
  have := Nat.mul_le_mul (show x ≤ 18446744073709551615 by omega) (show y ≤ 18446744073709551615 by omega)
  omega
theorem val2_mul (a b c d : Nat) : val2 a b * val2 c d = (a * c) * 340282366920938463463374607431768211456 + (a * d + b * c) * 18446744073709551616 + b * d := by
  unfold val2
  rw [Nat.add_mul, Nat.mul_add, Nat.mul_add]
  have h1 : a * 18446744073709551616 * (c * 18446744073709551616) = (a * c) * 340282366920938463463374607431768211456 := by
    rw [Nat.mul_mul_mul_comm]
  have h2 : a * 18446744073709551616 * d = (a * d) * 18446744073709551616 := Nat.mul_right_comm _ _ _
  have h3 : b * (c * 18446744073709551616) = (b * c) * 18446744073709551616 := (Nat.mul_assoc _ _ _).symm
  rw [h1, h2, h3]
  omega
/-- a bit of a number -/
theorem bit_of (a b c d n : Nat) (hd : d < 18446744073709551616) (hc : c < 18446744073709551616) (hb : b < 18446744073709551616) :
    (n < 64 → d / 2 ^ n % 2 = val4 a b c d / 2 ^ n % 2) ∧ (n < 64 → c / 2 ^ n % 2 = val4 a b c d / 2 ^ (64 + n) % 2) ∧ (n < 64 → b / 2 ^ n % 2 = val4 a b c d / 2 ^ (128 + n) % 2) ∧ (n < 64 → a / 2 ^ n % 2 = val4 a b c d / 2 ^ (192 + n) % 2) := by
  have low : ∀ (N m : Nat), m < 64 → (N % 18446744073709551616) / 2 ^ m % 2 = N / 2 ^ m % 2 := by
    intro N m hm
    have e := pq m hm
    rw [← e, Nat.mod_mul_right_div_self, show 64 - m = (63 - m) + 1 by omega, Nat.pow_succ', Nat.mod_mul_right_mod]
  have e0 : val4 a b c d % 18446744073709551616 = d := by unfold val4; omega
  have e1 : val4 a b c d / 2 ^ 64 % 18446744073709551616 = c := by unfold val4; simp only [Nat.reducePow]; omega
  have e2 : val4 a b c d / 2 ^ 128 % 18446744073709551616 = b := by unfold val4; simp only [Nat.reducePow]; omega
  have e3 : val4 a b c d / 2 ^ 192 = a := by unfold val4; simp only [Nat.reducePow]; omega
  refine ⟨fun h => ?_, fun h => ?_, fun h => ?_, fun h => ?_⟩
  · have z := low (val4 a b c d) n h
    rw [e0] at z
    exact z
  · have z := low (val4 a b c d / 2 ^ 64) n h
    rw [e1, Nat.div_div_eq_div_mul, ← Nat.pow_add] at z
    exact z
  · have z := low (val4 a b c d / 2 ^ 128) n h
    rw [e2, Nat.div_div_eq_div_mul, ← Nat.pow_add] at z
    exact z
  · rw [Nat.pow_add, ← Nat.div_div_eq_div_mul, e3]

end Go.Proofs.Ytedfbamihjnhhaa.Plain
