/- Sums of bodies by numbers: the hook is what the program does. -/
import Derived.Test.YtedfbamihjnhhaaSumD
import Derived.Test.YtedfbamihjnhhaaFixX
namespace Go.Proofs.Ytedfbamihjnhhaa.Own
open Go Go.RowKit Go.Proofs Go.Proofs.Ytedfbamihjnhhaa.Plain
set_option linter.unusedVariables false
set_option linter.unusedSimpArgs false
set_option maxRecDepth 100000
theorem insS_sum (v : Nat → Int) (i : Nat) : ∀ A : List Nat, ((insS i A).map v).sum = v i + (A.map v).sum
  | [] => by simp [insS]
  | j :: r => by
    simp only [insS]
    cases Nat.ble i j with
    | true => simp
    | false => simp only [cond_false, List.map_cons, List.sum_cons, insS_sum v i r]; omega
theorem merS_sum (v : Nat → Int) : ∀ A B : List Nat, ((merS A B).map v).sum = (A.map v).sum + (B.map v).sum
  | [], B => by simp [merS]
  | i :: A, B => by simp only [merS, insS_sum, merS_sum v A B, List.map_cons, List.sum_cons]; omega
theorem sum_small {v : Nat → Int} (hv : ∀ i, -18889465931478580854784 ≤ v i ∧ v i ≤ 18889465931478580854784) : ∀ A : List Nat, -(18889465931478580854784 * (A.length : Int)) ≤ (A.map v).sum ∧ (A.map v).sum ≤ 18889465931478580854784 * (A.length : Int)
  | [] => by simp
  | i :: A => by
    have := hv i
    have := sum_small hv A
    simp only [List.map_cons, List.sum_cons, List.length_cons]
    omega
structure SumE where
  iv : Nat → Int
  len : Int
  pv : Nat → Value
  pv1 : ∀ i, oneC (pv i) = true
def SumE.base (q : SumE) : Env := ⟨fun i => if i = 202 then q.len else q.iv i, fun _ => false, fun _ _ _ => 0, q.pv, q.pv1⟩
def vAt (q : SumE) (n i : Nat) : Int := match (ats n)[i]? with
  | some p => valC q.base p.1 * 18446744073709551616 + valC q.base p.2
  | none => 0
def SumE.env (q : SumE) (n : Nat) : Env := { q.base with F := fun f i js => if f = 900 then (if i = 0 then (Fx.of ((js.map fun j => vAt q n j.toNat).sum)).hi else (Fx.of ((js.map fun j => vAt q n j.toNat).sum)).lo) else 0 }
theorem fadd_small {a b : Fx} (ha : -18889465931478580854784 * 17 ≤ a.n ∧ a.n ≤ 18889465931478580854784 * 17) (hb : -18889465931478580854784 * 17 ≤ b.n ∧ b.n ≤ 18889465931478580854784 * 17) : fadd a b = (Fx.of (a.n + b.n), 0) := by
  unfold fadd
  by_cases h : a.below = b.below
  · rw [if_pos h]
    have ma := a.mag_n
    have mb := b.mag_n
    have z0 : (⟨0, 0, by decide⟩ : Two).n = 0 := by kernel_rfl
    unfold told
    rw [if_neg (by rw [Four.n_low z0, Two.of_n]; omega)]
    have na := a.neg_iff
    have nb := b.neg_iff
    have es : sgn a.below (Two.of (a.mag.n + b.mag.n)).n = a.n + b.n := by
      rw [Two.of_n, ma, mb]
      unfold Fx.below at h ⊢
      have et : ∀ n, sgn true n = -(n : Int) := fun n => rfl
      have ef : ∀ n, sgn false n = (n : Int) := fun n => rfl
      by_cases h1 : a.hi < 0
      · have h2 : b.hi < 0 := by by_cases q : b.hi < 0; exact q; simp [h1, q] at h
        rw [decide_eq_true h1, et]; have := na.1 h1; have := nb.1 h2; omega
      · have h2 : ¬ b.hi < 0 := by by_cases q : b.hi < 0; simp [h1, q] at h; exact q
        rw [decide_eq_false h1, ef]
        have : ¬ a.n < 0 := fun q => h1 (na.2 q)
        have : ¬ b.n < 0 := fun q => h2 (nb.2 q)
        omega
    show (Fx.of (sgn a.below (Two.of (a.mag.n + b.mag.n)).n), (0 : Int)) = _
    rw [es]
  · rw [if_neg h]
theorem i64_in (n : Int) (h : -9223372036854775808 ≤ n ∧ n ≤ 9223372036854775807) : IntKind.i64.wrap n = n := by rw [IntKind.wrap_i64]; omega
theorem u8r (x : Int) : 0 ≤ IntKind.u8.wrap x ∧ IntKind.u8.wrap x ≤ 255 := by rw [IntKind.wrap_u8']; omega
theorem bM (x : Int) : -255 ≤ IntKind.i64.wrap (bif decide (IntKind.i64.wrap (-9223372036854775807) > IntKind.i64.wrap (IntKind.i64.wrap 1 + IntKind.i64.wrap ((IntKind.i64.wrap (IntKind.u8.wrap x)).tmod (IntKind.i64.wrap 9)))) then IntKind.i64.wrap (-9223372036854775807) else IntKind.i64.wrap (IntKind.i64.wrap 1 + IntKind.i64.wrap ((IntKind.i64.wrap (IntKind.u8.wrap x)).tmod (IntKind.i64.wrap 9)))) ∧
    IntKind.i64.wrap (bif decide (IntKind.i64.wrap (-9223372036854775807) > IntKind.i64.wrap (IntKind.i64.wrap 1 + IntKind.i64.wrap ((IntKind.i64.wrap (IntKind.u8.wrap x)).tmod (IntKind.i64.wrap 9)))) then IntKind.i64.wrap (-9223372036854775807) else IntKind.i64.wrap (IntKind.i64.wrap 1 + IntKind.i64.wrap ((IntKind.i64.wrap (IntKind.u8.wrap x)).tmod (IntKind.i64.wrap 9)))) ≤ 255 := by
  have hu := u8r x
  generalize IntKind.u8.wrap x = c at *
  rw [i64_in c (by omega), i64_in 9 (by omega), Int.tmod_eq_emod_of_nonneg hu.1, i64_in (c % 9) (by omega), i64_in 1 (by omega), i64_in (1 + c % 9) (by omega), i64_in (-9223372036854775807) (by omega), decide_eq_false (by omega), cond_false, i64_in (1 + c % 9) (by omega)]
  omega
theorem bS (x k : Int) (hk : 0 ≤ k ∧ k ≤ 255) : -255 ≤ IntKind.i64.wrap (IntKind.i64.wrap (IntKind.u8.wrap x) - IntKind.i64.wrap k) ∧ IntKind.i64.wrap (IntKind.i64.wrap (IntKind.u8.wrap x) - IntKind.i64.wrap k) ≤ 255 := by
  have hu := u8r x
  generalize IntKind.u8.wrap x = c at *
  rw [i64_in c (by omega), i64_in k (by omega), i64_in (c - k) (by omega)]
  omega
theorem ats_ok (q : SumE) : ∀ n p, p ∈ ats n → cellOK (some .i64) p.1 = true ∧ cellOK (some .u64) p.2 = true ∧ -255 ≤ valC q.base p.1 ∧ valC q.base p.1 ≤ 255
  | 0, p, h => by cases h
  | n + 1, p, h => by
    simp only [ats, List.mem_append, List.mem_cons, List.not_mem_nil, or_false] at h
    rcases h with h | rfl | rfl | rfl
    · exact ats_ok q n p h
    · refine ⟨rfl, rfl, ?_⟩
      have := bM (q.base.iv (4 * n + 2))
      simp only [atM, valC, SE.val, valBin]
      exact this
    · refine ⟨rfl, rfl, ?_⟩
      have := bS ((IntKind.u8.wrap (q.base.iv (4 * n + 3))).tmod (IntKind.u8.wrap 7)) 3 (by omega)
      simp only [atX, valC, SE.val, valBin]
      exact this
    · refine ⟨rfl, rfl, ?_⟩
      have := bS ((IntKind.u8.wrap (q.base.iv (4 * n + 2))).tmod (IntKind.u8.wrap 5)) 2 (by omega)
      simp only [atY, valC, SE.val, valBin]
      exact this
theorem inK_i64 {x : Int} (h : inK (some .i64) x) : -9223372036854775808 ≤ x ∧ x < 9223372036854775808 := by
  have h : IntKind.i64.wrap x = x := h
  rw [← h]; exact i64_range x
theorem inK_u64 {x : Int} (h : inK (some .u64) x) : 0 ≤ x ∧ x < 18446744073709551616 := by
  have h : IntKind.u64.wrap x = x := h
  rw [← h]; exact u64_range x
theorem vAt_small (q : SumE) (n i : Nat) : -18889465931478580854784 ≤ vAt q n i ∧ vAt q n i ≤ 18889465931478580854784 := by
  unfold vAt
  split
  · rename_i p hp
    obtain ⟨h1, h2, h3⟩ := ats_ok q n p (List.mem_of_getElem? hp)
    have h4 := inK_u64 (cellOK_rel (E := q.base) (σ := []) h2).2
    omega
  · omega
/-- the same cells, with the sums' meaning -/
theorem ats_env (q : SumE) (n : Nat) : ∀ m p, p ∈ ats m → valC (q.env n) p.1 = valC q.base p.1 ∧ valC (q.env n) p.2 = valC q.base p.2
  | 0, p, h => by cases h
  | m + 1, p, h => by
    simp only [ats, List.mem_append, List.mem_cons, List.not_mem_nil, or_false] at h
    rcases h with h | rfl | rfl | rfl
    · exact ats_env q n m p h
    · exact ⟨rfl, rfl⟩
    · exact ⟨rfl, rfl⟩
    · exact ⟨rfl, rfl⟩
theorem findAt_get : ∀ {L : List (C × C)} {h l : C} {k i : Nat}, findAt L h l k = some i → k ≤ i ∧ L[i - k]? = some (h, l)
  | [], _, _, _, _, hq => by cases hq
  | (a, b) :: r, h, l, k, i, hq => by
    simp only [findAt] at hq
    cases hb : (eqcB a h && eqcB b l) with
    | true =>
      rw [hb, cond_true] at hq; cases hq
      simp only [Bool.and_eq_true] at hb
      rw [eqcB_eq hb.1, eqcB_eq hb.2]
      exact ⟨Nat.le_refl _, by simp⟩
    | false =>
      rw [hb, cond_false] at hq
      obtain ⟨h1, h2⟩ := findAt_get hq
      refine ⟨by omega, ?_⟩
      rw [show i - k = (i - (k + 1)) + 1 from by omega]
      simpa using h2
theorem enco_vals {E : Env} : ∀ {A : List Nat}, A.all (fun i => Nat.ble i 1000) = true → (enco A).vals E = A.map Int.ofNat
  | [], _ => by simp [enco, SE.vals]
  | i :: A, h => by
    simp only [List.all_cons, Bool.and_eq_true] at h
    have hi := Nat.le_of_ble_eq_true h.1
    simp only [enco, SE.vals, SE.val, List.map_cons, enco_vals h.2]
    rw [i64_in _ (by show -9223372036854775808 ≤ (i : Int) ∧ (i : Int) ≤ _; omega)]
theorem deco_enco : ∀ {L : SE} {A : List Nat}, deco L = some A → L = enco A
  | .nil, A, h => by cases h; rfl
  | .cons (.lit .i64 (.ofNat i)) r, A, h => by
    simp only [deco] at h
    split at h
    · rename_i l hl; cases h; rw [deco_enco hl]; rfl
    · cases h
end Go.Proofs.Ytedfbamihjnhhaa.Own
