/- Plain laws of keys of places: bits spread and gathered, as sums of powers of four. -/
namespace Go.Proofs.Ytlkehngobhmhbaa.Plain
/-- or-linear -/
def OrLin (f : Nat → Nat) : Prop := ∀ a b, f (a ||| b) = f a ||| f b
theorem OrLin.ext {f g : Nat → Nat} (hf : OrLin f) (hg : OrLin g) (h0 : f 0 = g 0) (n : Nat) (h : ∀ i, i < n → f (2 ^ i) = g (2 ^ i)) : ∀ x, x < 2 ^ n → f x = g x := by
  induction n with
  | zero => intro x hx; obtain rfl : x = 0 := by simpa using hx
            exact h0
  | succ n ih =>
    intro x hx
    have ih := ih (fun i hi => h i (by omega))
    by_cases hlt : x < 2 ^ n
    · exact ih x hlt
    · have e : x = 2 ^ n ||| (x - 2 ^ n) := by
        have := Nat.two_pow_add_eq_or_of_lt (i := n) (b := x - 2 ^ n) (by rw [Nat.pow_succ] at hx; omega) 1
        rw [Nat.mul_one] at this
        rw [← this]; omega
      rw [e, hf, hg, h n (by omega), ih _ (by rw [Nat.pow_succ] at hx; omega)]
theorem OrLin.comp {f g : Nat → Nat} (hf : OrLin f) (hg : OrLin g) : OrLin (fun x => f (g x)) := fun a b => by simp only [hg a b]; exact hf _ _
theorem OrLin.or {f g : Nat → Nat} (hf : OrLin f) (hg : OrLin g) : OrLin (fun x => f x ||| g x) := fun a b => by
  simp only [hf a b, hg a b]; apply Nat.eq_of_testBit_eq; intro i; simp only [Nat.testBit_or]; cases (f a).testBit i <;> cases (f b).testBit i <;> cases (g a).testBit i <;> rfl
theorem orLin_id : OrLin (fun x => x) := fun _ _ => rfl
theorem orLin_and (m : Nat) : OrLin (fun x => x &&& m) := fun a b => by
  apply Nat.eq_of_testBit_eq; intro i; simp only [Nat.testBit_or, Nat.testBit_and]; cases a.testBit i <;> cases b.testBit i <;> cases m.testBit i <;> rfl
theorem orLin_shl (k : Nat) : OrLin (fun x => x * 2 ^ k) := fun a b => by
  simp only [← Nat.shiftLeft_eq, Nat.shiftLeft_or_distrib]
theorem orLin_shr (k : Nat) : OrLin (fun x => x / 2 ^ k) := fun a b => by
  simp only [← Nat.shiftRight_eq_div_pow, Nat.shiftRight_or_distrib]
theorem orLin_mod (k : Nat) : OrLin (fun x => x % 2 ^ k) := fun a b => by simp only [Nat.or_mod_two_pow]
theorem join2 (a b : Nat) (k : Nat) (h : a < 2 ^ k) : a + 2 ^ k * b = a ||| b * 2 ^ k := by
  rw [Nat.add_comm, Nat.two_pow_add_eq_or_of_lt h, Nat.or_comm, Nat.mul_comm]
/-- spread bits of two numbers -/
def ky : Nat → Nat → Nat → Nat
  | 0, _, _ => 0
  | n + 1, x, y => (x % 2 + 2 * (y % 2)) + 4 * ky n (x / 2) (y / 2)
/-- each other bit -/
def ga : Nat → Nat → Nat
  | 0, _ => 0
  | n + 1, x => x % 2 + 2 * ga n (x / 4)
theorem sp_lin (n : Nat) : OrLin (fun x => ky n x 0) := by
  induction n with
  | zero => intro a b; simp [ky]
  | succ n ih =>
    have e : (fun x => ky (n + 1) x 0) = fun x => x % 2 ^ 1 ||| ky n (x / 2 ^ 1) 0 * 2 ^ 2 := by
      funext x
      have h := join2 (x % 2) (ky n (x / 2) 0) 2 (by omega)
      show _ = x % 2 ||| ky n (x / 2) 0 * 2 ^ 2
      rw [← h]; simp [ky]
    rw [e]
    exact (orLin_mod 1).or ((orLin_shl 2).comp (ih.comp (orLin_shr 1)))
theorem ga_lin (n : Nat) : OrLin (ga n) := by
  induction n with
  | zero => intro a b; simp [ga]
  | succ n ih =>
    have e : ga (n + 1) = fun x => x % 2 ^ 1 ||| ga n (x / 2 ^ 2) * 2 ^ 1 := by
      funext x
      have h := join2 (x % 2) (ga n (x / 4)) 1 (by omega)
      show _ = x % 2 ||| ga n (x / 4) * 2 ^ 1
      rw [← h]; simp [ga]
    rw [e]
    exact (orLin_mod 1).or ((orLin_shl 1).comp (ih.comp (orLin_shr 2)))
def stepL (s m : Nat) (x : Nat) : Nat := (x ||| x * 2 ^ s) &&& m
def stepR (s m : Nat) (x : Nat) : Nat := (x ||| x / 2 ^ s) &&& m
theorem stepL_lin (s m : Nat) : OrLin (stepL s m) := (orLin_and m).comp (orLin_id.or (orLin_shl s))
theorem stepR_lin (s m : Nat) : OrLin (stepR s m) := (orLin_and m).comp (orLin_id.or (orLin_shr s))
def spr (x : Nat) : Nat := stepL 1 0x5555555555555555 (stepL 2 0x3333333333333333 (stepL 4 0x0f0f0f0f0f0f0f0f (stepL 8 0x00ff00ff00ff00ff (stepL 16 0x0000ffff0000ffff x))))
def gat (x : Nat) : Nat := stepR 16 0xffffffff (stepR 8 0x0000ffff0000ffff (stepR 4 0x00ff00ff00ff00ff (stepR 2 0x0f0f0f0f0f0f0f0f (stepR 1 0x3333333333333333 (x &&& 0x5555555555555555)))))
theorem spr_eq (x : Nat) (h : x < 2 ^ 32) : spr x = ky 32 x 0 := by
  refine OrLin.ext (f := spr) (g := fun x => ky 32 x 0) ?_ (sp_lin 32) (by decide) 32 (by decide) x h
  exact ((stepL_lin _ _).comp ((stepL_lin _ _).comp ((stepL_lin _ _).comp ((stepL_lin _ _).comp (stepL_lin _ _)))))
theorem gat_eq (x : Nat) (h : x < 2 ^ 64) : gat x = ga 32 x := by
  refine OrLin.ext (f := gat) (g := ga 32) ?_ (ga_lin 32) (by decide) 64 (by decide) x h
  exact ((stepR_lin _ _).comp ((stepR_lin _ _).comp ((stepR_lin _ _).comp ((stepR_lin _ _).comp ((stepR_lin _ _).comp (orLin_and _))))))
theorem ky_or (n x y : Nat) : ky n x 0 ||| ky n y 0 * 2 = ky n x y := by
  induction n generalizing x y with
  | zero => simp [ky]
  | succ n ih =>
    have h1 := join2 (x % 2) (ky n (x / 2) 0) 2 (by omega)
    have h2 := join2 (y % 2) (ky n (y / 2) 0) 2 (by omega)
    have e1 : ky (n + 1) x 0 = x % 2 ||| ky n (x / 2) 0 * 2 ^ 2 := by rw [← h1]; simp [ky]
    have e2 : ky (n + 1) y 0 * 2 = (y % 2) * 2 ||| ky n (y / 2) 0 * 2 * 2 ^ 2 := by
      have : ky (n + 1) y 0 = y % 2 ||| ky n (y / 2) 0 * 2 ^ 2 := by rw [← h2]; simp [ky]
      rw [this]
      have h3 := orLin_shl 1 (y % 2) (ky n (y / 2) 0 * 2 ^ 2)
      simp only [Nat.pow_one] at h3
      rw [h3, Nat.mul_right_comm]
    have h4 := join2 (x % 2 + 2 * (y % 2)) (ky n (x / 2) (y / 2)) 2 (by omega)
    have h5 := join2 (x % 2) (y % 2) 1 (by omega)
    rw [Nat.pow_one] at h5
    have e3 : ky (n + 1) x y = (x % 2 ||| y % 2 * 2) ||| ky n (x / 2) (y / 2) * 2 ^ 2 := by
      rw [← h5, ← h4]; simp [ky]
    have h6 := orLin_shl 2 (ky n (x / 2) 0) (ky n (y / 2) 0 * 2)
    simp only at h6
    rw [e1, e2, e3, ← ih (x / 2) (y / 2), h6]
    ac_rfl
theorem ky_lt (n x y : Nat) : ky n x y < 4 ^ n := by
  induction n generalizing x y with
  | zero => simp [ky]
  | succ n ih => have := ih (x / 2) (y / 2); simp only [ky, Nat.pow_succ]; omega
theorem ky_inj_lt (n : Nat) : ∀ x y z, x < 2 ^ n → y < 2 ^ n → ((ky n x z < ky n y z ↔ x < y) ∧ (ky n z x < ky n z y ↔ x < y) ∧ (ky n x z = ky n y z ↔ x = y) ∧ (ky n z x = ky n z y ↔ x = y)) := by
  induction n with
  | zero => intro x y z hx hy; obtain rfl : x = 0 := by simpa using hx
            obtain rfl : y = 0 := by simpa using hy
            simp [ky]
  | succ n ih =>
    intro x y z hx hy
    rw [Nat.pow_succ] at hx hy
    have := ih (x / 2) (y / 2) (z / 2) (by omega) (by omega)
    simp only [ky]
    omega
theorem ky_ga (n : Nat) : ∀ k, k < 4 ^ n → ky n (ga n k) (ga n (k / 2)) = k := by
  induction n with
  | zero => intro k hk; simp only [ky, Nat.pow_zero] at *; omega
  | succ n ih =>
    intro k hk
    rw [Nat.pow_succ] at hk
    have := ih (k / 4) (by omega)
    simp only [ky, ga]
    rw [show (k % 2 + 2 * ga n (k / 4)) / 2 = ga n (k / 4) by omega, show (k / 2 % 2 + 2 * ga n (k / 2 / 4)) / 2 = ga n (k / 2 / 4) by omega, show k / 2 / 4 = k / 4 / 2 by omega, this]
    omega
theorem ga_ky (n : Nat) : ∀ x y, x < 2 ^ n → y < 2 ^ n → ga n (ky n x y) = x ∧ ga n (ky n x y / 2) = y := by
  induction n with
  | zero => intro x y hx hy; simp only [ga, Nat.pow_zero] at *; omega
  | succ n ih =>
    intro x y hx hy
    rw [Nat.pow_succ] at hx hy
    have := ih (x / 2) (y / 2) (by omega) (by omega)
    simp only [ky, ga]
    rw [show (x % 2 + 2 * (y % 2) + 4 * ky n (x / 2) (y / 2)) / 4 = ky n (x / 2) (y / 2) by omega, show (x % 2 + 2 * (y % 2) + 4 * ky n (x / 2) (y / 2)) / 2 / 4 = ky n (x / 2) (y / 2) / 2 by omega]
    omega
theorem ky_succ (n : Nat) : ∀ x y, ky (n + 1) x y = ky n x y + 4 ^ n * (x / 2 ^ n % 2 + 2 * (y / 2 ^ n % 2)) := by
  induction n with
  | zero => intro x y; simp [ky]
  | succ n ih =>
    intro x y
    rw [ky, ih (x / 2) (y / 2)]
    conv => rhs; rw [ky]
    rw [Nat.div_div_eq_div_mul, Nat.div_div_eq_div_mul, show 2 * 2 ^ n = 2 ^ (n + 1) by rw [Nat.pow_succ, Nat.mul_comm], Nat.pow_succ 4]
    generalize x / 2 ^ (n + 1) % 2 + 2 * (y / 2 ^ (n + 1) % 2) = c
    rw [Nat.mul_add, ← Nat.mul_assoc, Nat.mul_comm 4 (4 ^ n), ← Nat.add_assoc]
theorem ky_div (n k : Nat) : ∀ x y, ky (k + n) x y / 4 ^ k = ky n (x / 2 ^ k) (y / 2 ^ k) := by
  induction k with
  | zero => intro x y; simp
  | succ k ih =>
    intro x y
    rw [show k + 1 + n = (k + n) + 1 by omega, ky, Nat.pow_succ', ← Nat.div_div_eq_div_mul, show (x % 2 + 2 * (y % 2) + 4 * ky (k + n) (x / 2) (y / 2)) / 4 = ky (k + n) (x / 2) (y / 2) by omega, ih, Nat.div_div_eq_div_mul, Nat.div_div_eq_div_mul, Nat.pow_succ', ]
theorem ky_small (n m : Nat) : ∀ x y, x < 2 ^ n → y < 2 ^ n → ky (n + m) x y = ky n x y := by
  induction n with
  | zero =>
    intro x y hx hy
    have : x = 0 := by simpa using hx
    have : y = 0 := by simpa using hy
    subst x y
    induction m with
    | zero => rfl
    | succ m ih =>
      rw [Nat.zero_add] at ih ⊢
      have e : ky (m + 1) 0 0 = 4 * ky m 0 0 := by simp [ky]
      rw [e, ih]; rfl
  | succ n ih =>
    intro x y hx hy
    rw [Nat.pow_succ] at hx hy
    rw [show n + 1 + m = (n + m) + 1 by omega, ky, ih _ _ (by omega) (by omega)]; rfl
theorem ky_mod4 (n x y : Nat) (h : 0 < n) : ky n x y % 4 = x % 2 + 2 * (y % 2) := by
  obtain ⟨m, rfl⟩ : ∃ m, n = m + 1 := ⟨n - 1, by omega⟩
  simp only [ky]; omega
theorem ky_pow_x : ∀ i, i < 32 → ky 32 (2 ^ i) 0 = 2 ^ (2 * i) := by decide
theorem ky_pow_y : ∀ i, i < 32 → ky 32 0 (2 ^ i) = 2 * 2 ^ (2 * i) := by decide

end Go.Proofs.Ytlkehngobhmhbaa.Plain
