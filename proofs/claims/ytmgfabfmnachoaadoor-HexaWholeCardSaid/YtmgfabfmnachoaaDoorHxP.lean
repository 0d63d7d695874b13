/- Numbers as text: the plain law. -/
namespace Go.Proofs.YtmgfabfmnachoaaDoor.Hx
set_option linter.unusedVariables false
set_option linter.unusedSimpArgs false

/-- a digit -/
def dg (d : Nat) : UInt8 := UInt8.ofNat (if d < 10 then 48 + d else 87 + d)
/-- what a byte is worth -/
def dv (c : UInt8) : Nat := if 48 ≤ c.toNat ∧ c.toNat ≤ 57 then c.toNat - 48 else if 97 ≤ c.toNat ∧ c.toNat ≤ 102 then c.toNat - 87 else 0
/-- is it a digit? -/
def isd (c : UInt8) : Bool := decide (48 ≤ c.toNat ∧ c.toNat ≤ 57) || decide (97 ≤ c.toNat ∧ c.toNat ≤ 102)
/-- so many digits -/
def hexL : Nat → Nat → List UInt8
  | 0, _ => []
  | k + 1, n => hexL k (n / 16) ++ [dg (n % 16)]
/-- as many as there are -/
def hexS (n : Nat) : List UInt8 := if n < 16 then [dg n] else hexS (n / 16) ++ [dg (n % 16)]
termination_by n
decreasing_by omega

theorem dg_nat {d : Nat} (h : d < 16) : (dg d).toNat = if d < 10 then 48 + d else 87 + d := by
  unfold dg; rw [UInt8.toNat_ofNat']; split <;> omega
theorem dv_dg {d : Nat} (h : d < 16) : dv (dg d) = d := by
  unfold dv; rw [dg_nat h]; split <;> split <;> (try split) <;> omega
theorem isd_dg {d : Nat} (h : d < 16) : isd (dg d) = true := by
  unfold isd; rw [dg_nat h]; simp only [Bool.or_eq_true, decide_eq_true_eq]; split <;> omega
theorem dg_zero {d : Nat} (h : d < 16) : dg d = 48 ↔ d = 0 := by
  constructor
  · intro e; have := dg_nat h; rw [e] at this; simp at this; split at this <;> omega
  · rintro rfl; decide

theorem hexS_eq (n : Nat) : hexS n = if n < 16 then [dg n] else hexS (n / 16) ++ [dg (n % 16)] := by rw [hexS]
theorem hexL_len (k n : Nat) : (hexL k n).length = k := by
  induction k generalizing n with
  | zero => rfl
  | succ k ih => simp [hexL, ih]
theorem hexL_isd (k n : Nat) : ∀ c ∈ hexL k n, isd c = true := by
  induction k generalizing n with
  | zero => simp [hexL]
  | succ k ih =>
    intro c hc
    rw [hexL, List.mem_append, List.mem_singleton] at hc
    rcases hc with h | rfl
    · exact ih _ c h
    · exact isd_dg (Nat.mod_lt _ (by decide))
theorem hexS_isd (n : Nat) : ∀ c ∈ hexS n, isd c = true := by
  induction n using Nat.strongRecOn with
  | ind n ih =>
    intro c hc
    rw [hexS] at hc
    split at hc
    · rw [List.mem_singleton] at hc; subst hc; exact isd_dg (by assumption)
    · rw [List.mem_append, List.mem_singleton] at hc
      rcases hc with h | rfl
      · exact ih (n / 16) (by omega) c h
      · exact isd_dg (Nat.mod_lt _ (by decide))
theorem hexS_ne (n : Nat) : hexS n ≠ [] := by rw [hexS]; split <;> simp
/-- nought stands ahead of nothing -/
theorem hexS_head (n : Nat) : hexS n = [48] ∨ ∃ c r, hexS n = c :: r ∧ c ≠ 48 := by
  induction n using Nat.strongRecOn with
  | ind n ih =>
    rw [hexS]
    split
    · by_cases h0 : n = 0
      · subst h0; left; decide
      · right; exact ⟨_, _, rfl, fun e => h0 ((dg_zero (by assumption)).1 e)⟩
    · right
      rcases ih (n / 16) (by omega) with h | ⟨c, r, h, hc⟩
      · exfalso
        have : n / 16 = 0 := by
          rw [hexS] at h
          split at h
          · exact (dg_zero (by assumption)).1 (by simpa using h)
          · have := congrArg List.length h
            have hl := hexS_ne (n / 16 / 16)
            simp at this
            exact absurd this hl
        omega
      · exact ⟨c, r ++ [dg (n % 16)], by rw [h]; rfl, hc⟩
/-- what is worth nothing falls -/
theorem drop_snoc (l : List UInt8) (x : UInt8) : (l ++ [x]).dropWhile (· == 48) = if l.dropWhile (· == 48) = [] then [x].dropWhile (· == 48) else l.dropWhile (· == 48) ++ [x] := by
  induction l with
  | nil => simp
  | cons c l ih =>
    by_cases h : c = 48
    · subst h; simpa using ih
    · have e : (c == 48) = false := by simpa using h
      simp [List.dropWhile_cons, e]
theorem hexL_drop (k n : Nat) (h : n < 16 ^ k) : (hexL k n).dropWhile (· == 48) = if n = 0 then [] else hexS n := by
  induction k generalizing n with
  | zero => have : n = 0 := by simpa using h
            subst this; rfl
  | succ k ih =>
    have h' : n / 16 < 16 ^ k := by rw [Nat.pow_succ] at h; omega
    rw [hexL, drop_snoc, ih _ h']
    by_cases h0 : n = 0
    · subst h0; rfl
    · rw [if_neg h0, hexS_eq n]
      by_cases h1 : n / 16 = 0
      · have h2 : n < 16 := by omega
        have h3 : n % 16 = n := by omega
        have h4 : (dg n == 48) = false := by simpa using fun e => h0 ((dg_zero h2).1 e)
        rw [if_pos h1, if_pos h2, h3]
        simp [List.dropWhile_cons, h4]
      · have h2 : ¬ n < 16 := by omega
        rw [if_neg h1, if_neg h2, if_neg (hexS_ne _)]
theorem hexL_hexS (k n : Nat) (hk : n < 16 ^ (k + 1)) (hl : k = 0 ∨ 16 ^ k ≤ n) : hexL (k + 1) n = hexS n := by
  induction k generalizing n with
  | zero => rw [hexS_eq n, if_pos (by simpa using hk)]; simp only [hexL, List.nil_append]; congr 2; simp at hk; omega
  | succ k ih =>
    have hl' : 16 ^ (k + 1) ≤ n := by
      rcases hl with h | h
      · omega
      · exact h
    have p : 16 ^ (k + 1) = 16 ^ k * 16 := Nat.pow_succ _ _
    have pp : 0 < 16 ^ k := Nat.pow_pos (by decide)
    rw [hexS_eq n, if_neg (by omega), hexL, ih (n / 16) (by rw [Nat.pow_succ] at hk; omega) (by right; omega)]

/-- digits as a number -/
def numL (M : Nat) (l : List UInt8) (n : Nat) : Nat := l.foldl (fun n c => (n * 16 + dv c) % M) n
theorem numL_app (M : Nat) (a b : List UInt8) (n : Nat) : numL M (a ++ b) n = numL M b (numL M a n) := List.foldl_append
theorem mod_step (M a d : Nat) : (a % M * 16 + d) % M = (a * 16 + d) % M := by
  rw [Nat.add_mod, Nat.mod_mul_mod, ← Nat.add_mod]
theorem numL_hexL (M k n s : Nat) : numL M (hexL k n) (s % M) = (s * 16 ^ k + n % 16 ^ k) % M := by
  induction k generalizing n with
  | zero => simp [hexL, numL, Nat.mod_one]
  | succ k ih =>
    rw [hexL, numL_app, ih]
    show ((s * 16 ^ k + n / 16 % 16 ^ k) % M * 16 + dv (dg (n % 16))) % M = _
    rw [dv_dg (Nat.mod_lt _ (by decide)), mod_step, Nat.pow_succ]
    congr 1
    have h1 : n % (16 ^ k * 16) = (n / 16 % 16 ^ k) * 16 + n % 16 := by
      rw [Nat.mul_comm (16 ^ k) 16, Nat.mod_mul]; omega
    rw [h1, Nat.add_mul, Nat.mul_assoc]; omega
theorem numL_hexS (M n : Nat) : numL M (hexS n) 0 = n % M := by
  induction n using Nat.strongRecOn with
  | ind n ih =>
    rw [hexS]
    split
    · show (0 * 16 + dv (dg n)) % M = _
      rw [dv_dg (by assumption), Nat.zero_mul, Nat.zero_add]
    · rw [numL_app, ih _ (by omega)]
      show (n / 16 % M * 16 + dv (dg (n % 16))) % M = _
      rw [dv_dg (Nat.mod_lt _ (by decide)), mod_step]
      congr 1; omega
/-- what says nothing is passed over -/
def numD (M : Nat) (l : List UInt8) (n : Nat) : Nat := l.foldl (fun n c => if isd c = true then (n * 16 + dv c) % M else n) n
theorem numD_app (M : Nat) (a b : List UInt8) (n : Nat) : numD M (a ++ b) n = numD M b (numD M a n) := List.foldl_append
theorem numD_cons (M : Nat) (c : UInt8) (l : List UInt8) (n : Nat) : numD M (c :: l) n = numD M l (if isd c = true then (n * 16 + dv c) % M else n) := rfl
theorem numD_eq (M : Nat) (l : List UInt8) (n : Nat) (h : ∀ c ∈ l, isd c = true) : numD M l n = numL M l n := by
  induction l generalizing n with
  | nil => rfl
  | cons c l ih =>
    show numD M l (if isd c = true then _ else n) = _
    rw [if_pos (h c (List.mem_cons_self ..)), ih _ (fun x hx => h x (List.mem_cons_of_mem _ hx))]; rfl

/-- the text of a number: its sign, what is whole of it, what is not -/
def txt (neg : Bool) (W F : Nat) : List UInt8 := (if neg then [45] else []) ++ (hexS W ++ (46 :: hexL 16 F))
theorem hexS_dot (n : Nat) : ∀ c ∈ hexS n, (c == 46) = false := by
  intro c hc; have := hexS_isd n c hc
  apply beq_eq_false_iff_ne.2; rintro rfl; exact absurd this (by decide)
theorem hexL_dot (k n : Nat) : ∀ c ∈ hexL k n, (c == 46) = false := by
  intro c hc; have := hexL_isd k n c hc
  apply beq_eq_false_iff_ne.2; rintro rfl; exact absurd this (by decide)
theorem hexS_sign (n : Nat) : ∃ c r, hexS n = c :: r ∧ c ≠ 45 ∧ c ≠ 46 := by
  cases h : hexS n with
  | nil => exact absurd h (hexS_ne n)
  | cons c r =>
    have := hexS_isd n c (by rw [h]; exact List.mem_cons_self ..)
    exact ⟨c, r, rfl, by rintro rfl; exact absurd this (by decide), by rintro rfl; exact absurd this (by decide)⟩

/-- ahead of the first point, and behind it -/
def cutDot : List UInt8 → List UInt8 × List UInt8
  | [] => ([], [])
  | c :: r => if c == 46 then ([], r) else (c :: (cutDot r).1, (cutDot r).2)
theorem cutDot_app (a b : List UInt8) (h : ∀ c ∈ a, (c == 46) = false) : cutDot (a ++ 46 :: b) = (a, b) := by
  induction a with
  | nil => rfl
  | cons c a ih =>
    have e := h c (List.mem_cons_self ..)
    rw [List.cons_append, cutDot, e, ih (fun x hx => h x (List.mem_cons_of_mem _ hx))]; rfl
/-- a sign ahead -/
def cutSign : List UInt8 → Bool × List UInt8
  | [] => (false, [])
  | c :: r => if c == 45 then (true, r) else (false, c :: r)
/-- what a text is taken for: sign, whole, rest -/
def cand (s : List UInt8) : Bool × Nat × Nat := ((cutSign s).1, numL 18446744073709551616 (cutDot (cutSign s).2).1 0, numL 18446744073709551616 (cutDot (cutSign s).2).2 0)
theorem cut_txt (neg : Bool) (W F : Nat) : cutSign (txt neg W F) = (neg, hexS W ++ 46 :: hexL 16 F) := by
  unfold txt
  obtain ⟨c, r, h, h1, h2⟩ := hexS_sign W
  cases neg
  · rw [h]
    show (if c == 45 then _ else _) = _
    rw [if_neg (by simpa using h1)]; rfl
  · rfl
theorem numL_16 (m F : Nat) (hm : 16 ^ 16 = m) (hF : F < m) : numL m (hexL 16 F) 0 = F := by
  have e2 := numL_hexL m 16 F 0
  rw [Nat.zero_mod, Nat.zero_mul, Nat.zero_add, hm, Nat.mod_mod, Nat.mod_eq_of_lt hF] at e2
  exact e2
theorem cand_txt (neg : Bool) (W F : Nat) (hW : W < 18446744073709551616) (hF : F < 18446744073709551616) : cand (txt neg W F) = (neg, W, F) := by
  unfold cand
  rw [cut_txt, cutDot_app _ _ (hexS_dot W)]
  simp only
  rw [numL_hexS, Nat.mod_eq_of_lt hW, numL_16 _ F (by decide) hF]
/-- all digits, the point left out -/
theorem numD_gen (m : Nat) (hm : 16 ^ 16 = m) (neg : Bool) (W F : Nat) (hW : W < m) (hF : F < m) : numD (m * m) (txt neg W F) 0 = W * m + F := by
  have hp : 0 < m := Nat.lt_of_le_of_lt (Nat.zero_le _) hW
  have hb : W * m + F < m * m := by
    have h1 : (W + 1) * m ≤ m * m := Nat.mul_le_mul_right _ hW
    rw [Nat.add_mul, Nat.one_mul] at h1; clear hm; omega
  have h46 : isd 46 = false := by decide
  have h45 : isd 45 = false := by decide
  have hl := hexL_isd 16 F
  have hn := numL_hexL (m * m) 16 F W
  have hW2 : W < m * m := by
    have h1 : m * 1 ≤ m * m := Nat.mul_le_mul_left _ hp
    clear hm; omega
  rw [hm, Nat.mod_eq_of_lt hF, Nat.mod_eq_of_lt hb, Nat.mod_eq_of_lt hW2] at hn
  have h : numD (m * m) (hexS W ++ 46 :: hexL 16 F) 0 = W * m + F := by
    clear hm
    generalize hexL 16 F = q at *
    rw [numD_app, numD_eq _ _ _ (hexS_isd W), numL_hexS, numD_cons, h46, if_neg (by decide), numD_eq _ _ _ hl, Nat.mod_eq_of_lt hW2, hn]
  unfold txt
  clear hm
  generalize hexS W ++ 46 :: hexL 16 F = q at *
  cases neg
  · exact h
  · show numD (m * m) (45 :: q) 0 = _
    rw [numD_cons, h45, if_neg (by decide)]; exact h

/-! ### the form of a text -/
theorem hexL_le (k n : Nat) : n < 16 ^ k → (hexS n).length ≤ max k 1 := by
  induction k generalizing n with
  | zero => intro h; have : n = 0 := by simpa using h
            subst this; rw [hexS_eq 0]; decide
  | succ k ih =>
    intro h
    rw [hexS]
    split
    · simp
    · have := ih (n / 16) (by rw [Nat.pow_succ] at h; omega)
      have h2 : 1 ≤ k := by
        rcases k with _ | k
        · simp at h; omega
        · omega
      simp; omega
theorem txt_len (neg : Bool) (W F : Nat) : (txt neg W F).length = (if neg then 1 else 0) + (hexS W).length + 17 := by
  unfold txt; cases neg <;> simp [hexL_len] <;> omega
theorem txt_len_le (neg : Bool) (W F : Nat) (hW : W < 18446744073709551616) : 18 ≤ (txt neg W F).length ∧ (txt neg W F).length ≤ 34 := by
  rw [txt_len]
  have h1 := hexL_le 16 W (by rw [show (16 : Nat) ^ 16 = 18446744073709551616 by decide]; exact hW)
  have h2 : 1 ≤ (hexS W).length := List.length_pos_iff.2 (hexS_ne W)
  have h3 : max 16 1 = 16 := rfl
  cases neg <;> simp <;> omega
/-- the bytes that a text may hold -/
def okc (c : UInt8) : Bool := isd c || c == 45 || c == 46
theorem txt_ok (neg : Bool) (W F : Nat) : ∀ c ∈ txt neg W F, okc c = true := by
  intro c hc
  unfold txt at hc
  rw [List.mem_append, List.mem_append, List.mem_cons] at hc
  unfold okc
  rcases hc with h | h | h | h
  · cases neg
    · simp at h
    · simp at h; subst h; rfl
  · rw [hexS_isd W c h]; rfl
  · subst h; rfl
  · rw [hexL_isd 16 F c h]; rfl
/-- where the point stands -/
theorem txt_split (neg : Bool) (W F : Nat) : txt neg W F = ((if neg then [45] else []) ++ hexS W) ++ 46 :: hexL 16 F := by unfold txt; rw [List.append_assoc]
theorem split_at_end {a b c d : List UInt8} (h : a ++ b = c ++ d) (hl : b.length = d.length) : a = c ∧ b = d := by
  have := congrArg List.length h
  simp at this
  exact List.append_inj h (by omega)
/-- a nought ahead of a text is no text -/
theorem no_zero (neg neg' : Bool) (W F W' F' : Nat) : 48 :: txt neg W F ≠ txt neg' W' F' := by
  intro h
  rw [txt_split, txt_split, ← List.cons_append] at h
  obtain ⟨h1, -⟩ := split_at_end h (by simp [hexL_len])
  obtain ⟨c, r, hc, -⟩ := hexS_sign W
  cases neg'
  · rw [show (if false = true then ([45] : List UInt8) else []) ++ hexS W' = hexS W' from rfl] at h1
    rcases hexS_head W' with e | ⟨d, r', e, hd⟩
    · rw [e, hc] at h1; cases neg <;> simp at h1
    · rw [e] at h1; injection h1 with h1 h2; exact hd h1.symm
  · simp at h1
/-- a nought behind a text is no text -/
theorem no_more (neg neg' : Bool) (W F W' F' : Nat) : txt neg W F ++ [48] ≠ txt neg' W' F' := by
  intro h
  have e : hexL 16 F = hexL 15 (F / 16) ++ [dg (F % 16)] := rfl
  rw [txt_split, txt_split, List.append_assoc] at h
  have hl : (hexL 16 F).length = 16 := hexL_len _ _
  match hx : hexL 16 F, hl with
  | c :: r, hl =>
    have hc := hexL_dot 16 F c (by rw [hx]; exact List.mem_cons_self ..)
    rw [hx] at h
    have h' : (((if neg then [45] else []) ++ hexS W) ++ [46]) ++ (c :: (r ++ [48])) = ((if neg' then [45] else []) ++ hexS W') ++ 46 :: hexL 16 F' := by
      rw [← h]; simp
    obtain ⟨-, h2⟩ := split_at_end h' (by simp [hexL_len] at hl ⊢; omega)
    injection h2 with h2
    rw [h2] at hc; exact absurd hc (by decide)
/-- a text cut short is no text -/
theorem no_less (neg neg' : Bool) (W F W' F' : Nat) : (txt neg W F).take ((txt neg W F).length - 1) ≠ txt neg' W' F' := by
  intro h
  have e : hexL 16 F = hexL 15 (F / 16) ++ [dg (F % 16)] := rfl
  have h1 : (txt neg W F).take ((txt neg W F).length - 1) = ((if neg then [45] else []) ++ hexS W) ++ 46 :: hexL 15 (F / 16) := by
    rw [txt_split, e, show ((if neg then [45] else []) ++ hexS W) ++ 46 :: (hexL 15 (F / 16) ++ [dg (F % 16)]) = (((if neg then [45] else []) ++ hexS W) ++ 46 :: hexL 15 (F / 16)) ++ [dg (F % 16)] by simp]
    rw [List.take_left' (by simp; omega)]
  have h2 : ∃ q c, (if neg then [45] else []) ++ hexS W = q ++ [c] ∧ (c == 46) = false := by
    have hne := hexS_ne W
    refine ⟨(if neg then [45] else []) ++ (hexS W).dropLast, (hexS W).getLast hne, ?_, hexS_dot W _ (List.getLast_mem hne)⟩
    rw [List.append_assoc, List.dropLast_concat_getLast]
  obtain ⟨q, c, hq, hc⟩ := h2
  rw [h1, txt_split, hq, show (q ++ [c]) ++ 46 :: hexL 15 (F / 16) = q ++ (c :: 46 :: hexL 15 (F / 16)) by simp] at h
  obtain ⟨-, h3⟩ := split_at_end h (by simp [hexL_len])
  injection h3 with h3
  rw [h3] at hc; exact absurd hc (by decide)
/-- without the point -/
theorem no_point (l : List UInt8) (neg : Bool) (W F : Nat) (h : ∀ c ∈ l, (c == 46) = false) : l ≠ txt neg W F := by
  rintro rfl
  have := h 46 (by rw [txt_split]; simp)
  exact absurd this (by decide)
theorem no_bad (l : List UInt8) (neg : Bool) (W F : Nat) (h : ∃ c ∈ l, okc c = false) : l ≠ txt neg W F := by
  rintro rfl
  obtain ⟨c, hc, hb⟩ := h
  rw [txt_ok neg W F c hc] at hb; cases hb
end Go.Proofs.YtmgfabfmnachoaaDoor.Hx
