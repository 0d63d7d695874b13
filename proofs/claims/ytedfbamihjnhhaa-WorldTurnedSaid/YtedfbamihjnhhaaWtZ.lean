/- A world turned: the law. -/
/- A walk by reckoning: an argument of a struct type opened into numbers and lists. -/
/- A world turned: the arguments. -/
import Derived.Test.YtedfbamihjnhhaaWtD
import Derived.Test.YtedfbamihjnhhaaFvO
section
namespace Go.Proofs.Ytedfbamihjnhhaa.Own
open Go Go.RowKit Go.Proofs Go.Proofs.Ytedfbamihjnhhaa.Plain
set_option linter.unusedVariables false
set_option linter.unusedSectionVars false
set_option linter.unusedSimpArgs false
set_option maxRecDepth 100000
noncomputable def wtWhich (xs : List Int) : Int := IntKind.u8.wrap (xs.getD 5 0)
theorem which_in (xs : List Int) : 0 ≤ wtWhich xs ∧ wtWhich xs < 256 := by unfold wtWhich; rw [IntKind.wrap_u8]; omega
theorem wtW_val (xs : List Int) (n : Nat) (hn : n < 16) : ((wtW (n : Int)).val (wtEnv xs) != 0) = decide (wtWhich xs % 16 = (n : Int)) := by
  have h := which_in xs
  unfold wtW
  rw [eql_at]
  have e1 : (SE.bin .rem .u8 (.ivar .u8 5) (.lit .u8 16)).val (wtEnv xs) = wtWhich xs % 16 := by
    have v : (SE.bin .rem .u8 (.ivar .u8 5) (.lit .u8 16)).val (wtEnv xs) = IntKind.u8.wrap ((wtWhich xs).tmod (IntKind.u8.wrap 16)) := by
      unfold wtWhich wtEnv; simp only [SE.val, valBin, envOf_iv]
    rw [v, show IntKind.u8.wrap 16 = 16 from rfl, Int.tmod_eq_emod_of_nonneg h.1, IntKind.wrap_u8]; omega
  have e2 : (SE.lit .u8 (n : Int)).val (wtEnv xs) = (n : Int) := by simp only [SE.val]; rw [IntKind.wrap_u8]; omega
  rw [e1, e2, Bool.eq_iff_iff]; simp
theorem wtWs_ok {xs : List Int} : ∀ (n : Nat), n ≤ 14 → (∀ i : Nat, i < n → wtWhich xs % 16 ≠ (i : Int)) → AllK xs (wtWs n)
  | 0, _, _ => trivial
  | n + 1, hn, h => ⟨⟨rfl, by rw [wtW_val xs n (by omega)]; exact decide_eq_false (h n (by omega))⟩, wtWs_ok n (by omega) fun i hi => h i (by omega)⟩
theorem wtHead_ok {xs : List Int} (hl : WtLen xs) {a b : Bool} (ha : decide (0 < (dec (wtL0.val (wtEnv xs))).length) = a) (hb : decide (128 ≤ wtHow xs) = b) {r : List (SE × Bool)} (h : AllK xs r) : AllK xs ((wtN0, a) :: (wtN1, !a) :: (wtH0, b) :: r) := by
  have hn := n_in hl
  refine ⟨⟨rfl, ?_⟩, ⟨rfl, ?_⟩, ⟨rfl, ?_⟩, h⟩
  · have v : ∀ a b : SE, ((SE.cmp .gtr a b).val (wtEnv xs) != 0) = decide (a.val (wtEnv xs) > b.val (wtEnv xs)) := fun a b => by simp only [SE.val, b2i_ne, valCmp]
    show (wtN0.val (wtEnv xs) != 0) = a
    unfold wtN0
    rw [v, len_v rfl (by omega), l_i0, ← ha, decide_eq_decide]; omega
  · show (wtN1.val (wtEnv xs) != 0) = !a
    unfold wtN1
    rw [eql_at, len_v rfl (by omega), l_i0, ← ha, Bool.eq_iff_iff]; simp
  · have v : ∀ a b : SE, ((SE.cmp .geq a b).val (wtEnv xs) != 0) = decide (a.val (wtEnv xs) ≥ b.val (wtEnv xs)) := fun a b => by simp only [SE.val, b2i_ne, valCmp]
    show (wtH0.val (wtEnv xs) != 0) = b
    unfold wtH0
    have e1 : (SE.ivar .u8 4).val (wtEnv xs) = wtHow xs := by unfold wtHow wtEnv; rw [iu_at]
    have e2 : (SE.lit .u8 128).val (wtEnv xs) = 128 := by simp only [SE.val]; rfl
    rw [v, e1, e2, ← hb]
theorem wtCase_ok {xs : List Int} (hl : WtLen xs) (j : Nat) {a b : Bool} (hj : j < 16) (hw : wtWhich xs % 16 = (j : Int)) (ha : decide (0 < (dec (wtL0.val (wtEnv xs))).length) = a) (hb : decide (128 ≤ wtHow xs) = b) : AllK xs (wtCase j a b) := by
  unfold wtCase
  refine wtHead_ok hl ha hb ?_
  cases hc : Nat.blt j 14 with
  | true =>
    have : j < 14 := by simpa [Nat.blt_eq] using hc
    exact ⟨⟨rfl, by rw [wtW_val xs j hj]; exact decide_eq_true hw⟩, wtWs_ok j (by omega) fun i hi => by omega⟩
  | false =>
    have : ¬ j < 14 := fun h => by rw [show Nat.blt j 14 = true by simpa [Nat.blt_eq] using h] at hc; cases hc
    refine ⟨⟨rfl, ?_⟩, wtWs_ok 14 (by omega) fun i hi => by omega⟩
    have e : ((wtW (14 : Int)).val (wtEnv xs) != 0) = decide (wtWhich xs % 16 = ((14 : Nat) : Int)) := wtW_val xs 14 (by omega)
    show ((wtW (14 : Int)).val (wtEnv xs) != 0) = Nat.beq j 14
    rw [e, Bool.eq_iff_iff, decide_eq_true_eq, Nat.beq_eq]; omega
section
variable {xs : List Int} {σ : List (Nat × Nat × Nat)} {us : List Value} {w : World} (hl : WtLen xs) (hn : σ.length = 4) (hus : RelVs (eV (wtEnv xs)) σ wtA us) (hF : FR (bW.loops Lm6_L).P (eV (wtEnv xs)) σ [wtM] w)
include hl hn hus hF
theorem wt_go {T : LT} {D r : List (SE × Bool)} (h : wtRun T (D ++ r) = true) (ht : T.asks = true) (hD : AllK xs D) (hr : AllK xs r) : Calls Try.prog 8 (List.toArray us) w fun en w' => en = .returned (.bool true) ∧ Below w.heap.size w w' :=
  law_soundK (b := bW.loops Lm6_L) (Tb := Lm6_T) (K := wtK) (loops_ok bW_ok _) wtK_ok (lb_of Lm6_lb) Lm6_ok (E := wtEnv xs) rfl hn hus hF T (D ++ r) h (hD.app hr).knows (LT.asks_ok ht)
theorem wt_j0 (hw : wtWhich xs % 16 = (0 : Nat)) : Calls Try.prog 8 (List.toArray us) w fun en w' => en = .returned (.bool true) ∧ Below w.heap.size w w' := by
  cases ha : decide (0 < (dec (wtL0.val (wtEnv xs))).length) with
  | true =>
    have h0 := of_decide_eq_true ha
    cases hb : decide (128 ≤ wtHow xs) with
    | true =>
      exact wt_go hl hn hus hF wtC0_tt rfl (d0_tt hl) (wtCase_ok hl 0 (by omega) hw ha hb)
    | false =>
      exact wt_go hl hn hus hF wtC0_tf rfl (d0_tf hl) (wtCase_ok hl 0 (by omega) hw ha hb)
  | false =>
    cases hb : decide (128 ≤ wtHow xs) with
    | true =>
      exact wt_go hl hn hus hF wtC0_ft rfl (d0_ft hl) (wtCase_ok hl 0 (by omega) hw ha hb)
    | false =>
      exact wt_go hl hn hus hF wtC0_ff rfl (d0_ff hl) (wtCase_ok hl 0 (by omega) hw ha hb)
theorem wt_j1 (hw : wtWhich xs % 16 = (1 : Nat)) : Calls Try.prog 8 (List.toArray us) w fun en w' => en = .returned (.bool true) ∧ Below w.heap.size w w' := by
  cases ha : decide (0 < (dec (wtL0.val (wtEnv xs))).length) with
  | true =>
    have h0 := of_decide_eq_true ha
    cases hb : decide (128 ≤ wtHow xs) with
    | true =>
      exact wt_go hl hn hus hF wtC1_tt rfl (d1_tt hl) (wtCase_ok hl 1 (by omega) hw ha hb)
    | false =>
      exact wt_go hl hn hus hF wtC1_tf rfl (d1_tf hl) (wtCase_ok hl 1 (by omega) hw ha hb)
  | false =>
    cases hb : decide (128 ≤ wtHow xs) with
    | true =>
      exact wt_go hl hn hus hF wtC1_ft rfl (d1_ft hl) (wtCase_ok hl 1 (by omega) hw ha hb)
    | false =>
      exact wt_go hl hn hus hF wtC1_ff rfl (d1_ff hl) (wtCase_ok hl 1 (by omega) hw ha hb)
theorem wt_j2 (hw : wtWhich xs % 16 = (2 : Nat)) : Calls Try.prog 8 (List.toArray us) w fun en w' => en = .returned (.bool true) ∧ Below w.heap.size w w' := by
  cases ha : decide (0 < (dec (wtL0.val (wtEnv xs))).length) with
  | true =>
    have h0 := of_decide_eq_true ha
    cases hb : decide (128 ≤ wtHow xs) with
    | true =>
      exact wt_go hl hn hus hF wtC2_tt rfl (d2_tt hl) (wtCase_ok hl 2 (by omega) hw ha hb)
    | false =>
      exact wt_go hl hn hus hF wtC2_tf rfl (d2_tf hl) (wtCase_ok hl 2 (by omega) hw ha hb)
  | false =>
    cases hb : decide (128 ≤ wtHow xs) with
    | true =>
      exact wt_go hl hn hus hF wtC2_ft rfl (d2_ft hl) (wtCase_ok hl 2 (by omega) hw ha hb)
    | false =>
      exact wt_go hl hn hus hF wtC2_ff rfl (d2_ff hl) (wtCase_ok hl 2 (by omega) hw ha hb)
theorem wt_j3 (hw : wtWhich xs % 16 = (3 : Nat)) : Calls Try.prog 8 (List.toArray us) w fun en w' => en = .returned (.bool true) ∧ Below w.heap.size w w' := by
  cases ha : decide (0 < (dec (wtL0.val (wtEnv xs))).length) with
  | true =>
    have h0 := of_decide_eq_true ha
    cases hb : decide (128 ≤ wtHow xs) with
    | true =>
      exact wt_go hl hn hus hF wtC3_tt rfl (d3_tt hl) (wtCase_ok hl 3 (by omega) hw ha hb)
    | false =>
      exact wt_go hl hn hus hF wtC3_tf rfl (d3_tf hl) (wtCase_ok hl 3 (by omega) hw ha hb)
  | false =>
    cases hb : decide (128 ≤ wtHow xs) with
    | true =>
      exact wt_go hl hn hus hF wtC3_ft rfl (d3_ft hl) (wtCase_ok hl 3 (by omega) hw ha hb)
    | false =>
      exact wt_go hl hn hus hF wtC3_ff rfl (d3_ff hl) (wtCase_ok hl 3 (by omega) hw ha hb)
theorem wt_j4 (hw : wtWhich xs % 16 = (4 : Nat)) : Calls Try.prog 8 (List.toArray us) w fun en w' => en = .returned (.bool true) ∧ Below w.heap.size w w' := by
  cases ha : decide (0 < (dec (wtL0.val (wtEnv xs))).length) with
  | true =>
    have h0 := of_decide_eq_true ha
    cases hb : decide (128 ≤ wtHow xs) with
    | true =>
      exact wt_go hl hn hus hF wtC4_tt rfl (d4_tt hl) (wtCase_ok hl 4 (by omega) hw ha hb)
    | false =>
      exact wt_go hl hn hus hF wtC4_tf rfl (d4_tf hl) (wtCase_ok hl 4 (by omega) hw ha hb)
  | false =>
    cases hb : decide (128 ≤ wtHow xs) with
    | true =>
      exact wt_go hl hn hus hF wtC4_ft rfl (d4_ft hl) (wtCase_ok hl 4 (by omega) hw ha hb)
    | false =>
      exact wt_go hl hn hus hF wtC4_ff rfl (d4_ff hl) (wtCase_ok hl 4 (by omega) hw ha hb)
theorem wt_j5 (hw : wtWhich xs % 16 = (5 : Nat)) : Calls Try.prog 8 (List.toArray us) w fun en w' => en = .returned (.bool true) ∧ Below w.heap.size w w' := by
  cases ha : decide (0 < (dec (wtL0.val (wtEnv xs))).length) with
  | true =>
    have h0 := of_decide_eq_true ha
    cases hb : decide (128 ≤ wtHow xs) with
    | true =>
      exact wt_go hl hn hus hF wtC5_tt rfl (d5_tt hl) (wtCase_ok hl 5 (by omega) hw ha hb)
    | false =>
      exact wt_go hl hn hus hF wtC5_tf rfl (d5_tf hl) (wtCase_ok hl 5 (by omega) hw ha hb)
  | false =>
    cases hb : decide (128 ≤ wtHow xs) with
    | true =>
      exact wt_go hl hn hus hF wtC5_ft rfl (d5_ft hl) (wtCase_ok hl 5 (by omega) hw ha hb)
    | false =>
      exact wt_go hl hn hus hF wtC5_ff rfl (d5_ff hl) (wtCase_ok hl 5 (by omega) hw ha hb)
theorem wt_j6 (hw : wtWhich xs % 16 = (6 : Nat)) : Calls Try.prog 8 (List.toArray us) w fun en w' => en = .returned (.bool true) ∧ Below w.heap.size w w' := by
  cases ha : decide (0 < (dec (wtL0.val (wtEnv xs))).length) with
  | true =>
    have h0 := of_decide_eq_true ha
    cases hb : decide (128 ≤ wtHow xs) with
    | true =>
      exact wt_go hl hn hus hF wtC6_tt rfl (d6_tt hl) (wtCase_ok hl 6 (by omega) hw ha hb)
    | false =>
      exact wt_go hl hn hus hF wtC6_tf rfl (d6_tf hl) (wtCase_ok hl 6 (by omega) hw ha hb)
  | false =>
    cases hb : decide (128 ≤ wtHow xs) with
    | true =>
      exact wt_go hl hn hus hF wtC6_ft rfl (d6_ft hl) (wtCase_ok hl 6 (by omega) hw ha hb)
    | false =>
      exact wt_go hl hn hus hF wtC6_ff rfl (d6_ff hl) (wtCase_ok hl 6 (by omega) hw ha hb)
theorem wt_j7 (hw : wtWhich xs % 16 = (7 : Nat)) : Calls Try.prog 8 (List.toArray us) w fun en w' => en = .returned (.bool true) ∧ Below w.heap.size w w' := by
  cases ha : decide (0 < (dec (wtL0.val (wtEnv xs))).length) with
  | true =>
    have h0 := of_decide_eq_true ha
    cases hb : decide (128 ≤ wtHow xs) with
    | true =>
      exact wt_go hl hn hus hF wtC7_tt rfl (d7_tt hl) (wtCase_ok hl 7 (by omega) hw ha hb)
    | false =>
      exact wt_go hl hn hus hF wtC7_tf rfl (d7_tf hl) (wtCase_ok hl 7 (by omega) hw ha hb)
  | false =>
    cases hb : decide (128 ≤ wtHow xs) with
    | true =>
      exact wt_go hl hn hus hF wtC7_ft rfl (d7_ft hl) (wtCase_ok hl 7 (by omega) hw ha hb)
    | false =>
      exact wt_go hl hn hus hF wtC7_ff rfl (d7_ff hl) (wtCase_ok hl 7 (by omega) hw ha hb)
theorem wt_j8 (hw : wtWhich xs % 16 = (8 : Nat)) : Calls Try.prog 8 (List.toArray us) w fun en w' => en = .returned (.bool true) ∧ Below w.heap.size w w' := by
  cases ha : decide (0 < (dec (wtL0.val (wtEnv xs))).length) with
  | true =>
    have h0 := of_decide_eq_true ha
    cases hb : decide (128 ≤ wtHow xs) with
    | true =>
      exact wt_go hl hn hus hF wtC8_tt rfl (d8_tt hl) (wtCase_ok hl 8 (by omega) hw ha hb)
    | false =>
      exact wt_go hl hn hus hF wtC8_tf rfl (d8_tf hl) (wtCase_ok hl 8 (by omega) hw ha hb)
  | false =>
    cases hb : decide (128 ≤ wtHow xs) with
    | true =>
      exact wt_go hl hn hus hF wtC8_ft rfl (d8_ft hl) (wtCase_ok hl 8 (by omega) hw ha hb)
    | false =>
      exact wt_go hl hn hus hF wtC8_ff rfl (d8_ff hl) (wtCase_ok hl 8 (by omega) hw ha hb)
theorem wt_j9 (hw : wtWhich xs % 16 = (9 : Nat)) : Calls Try.prog 8 (List.toArray us) w fun en w' => en = .returned (.bool true) ∧ Below w.heap.size w w' := by
  cases ha : decide (0 < (dec (wtL0.val (wtEnv xs))).length) with
  | true =>
    have h0 := of_decide_eq_true ha
    cases hb : decide (128 ≤ wtHow xs) with
    | true =>
      exact wt_go hl hn hus hF wtC9_tt rfl (d9_tt hl) (wtCase_ok hl 9 (by omega) hw ha hb)
    | false =>
      exact wt_go hl hn hus hF wtC9_tf rfl (d9_tf hl) (wtCase_ok hl 9 (by omega) hw ha hb)
  | false =>
    cases hb : decide (128 ≤ wtHow xs) with
    | true =>
      exact wt_go hl hn hus hF wtC9_ft rfl (d9_ft hl) (wtCase_ok hl 9 (by omega) hw ha hb)
    | false =>
      exact wt_go hl hn hus hF wtC9_ff rfl (d9_ff hl) (wtCase_ok hl 9 (by omega) hw ha hb)
theorem wt_j10 (hw : wtWhich xs % 16 = (10 : Nat)) : Calls Try.prog 8 (List.toArray us) w fun en w' => en = .returned (.bool true) ∧ Below w.heap.size w w' := by
  cases ha : decide (0 < (dec (wtL0.val (wtEnv xs))).length) with
  | true =>
    have h0 := of_decide_eq_true ha
    cases hb : decide (128 ≤ wtHow xs) with
    | true =>
      exact wt_go hl hn hus hF wtC10_tt rfl (d10_tt hl) (wtCase_ok hl 10 (by omega) hw ha hb)
    | false =>
      exact wt_go hl hn hus hF wtC10_tf rfl (d10_tf hl) (wtCase_ok hl 10 (by omega) hw ha hb)
  | false =>
    cases hb : decide (128 ≤ wtHow xs) with
    | true =>
      exact wt_go hl hn hus hF wtC10_ft rfl (d10_ft hl) (wtCase_ok hl 10 (by omega) hw ha hb)
    | false =>
      exact wt_go hl hn hus hF wtC10_ff rfl (d10_ff hl) (wtCase_ok hl 10 (by omega) hw ha hb)
theorem wt_j11 (hw : wtWhich xs % 16 = (11 : Nat)) : Calls Try.prog 8 (List.toArray us) w fun en w' => en = .returned (.bool true) ∧ Below w.heap.size w w' := by
  cases ha : decide (0 < (dec (wtL0.val (wtEnv xs))).length) with
  | true =>
    have h0 := of_decide_eq_true ha
    cases hb : decide (128 ≤ wtHow xs) with
    | true =>
      exact wt_go hl hn hus hF wtC11_tt rfl (d11_tt hl) (wtCase_ok hl 11 (by omega) hw ha hb)
    | false =>
      cases hq : (wtNq.val (wtEnv xs) != 0) with
      | true => exact wt_go hl hn hus hF (r := (wtNq, true) :: wtCase 11 true false) wtC11_tfc rfl (d11_tfc hl) ⟨⟨rfl, hq⟩, (wtCase_ok hl 11 (by omega) hw ha hb)⟩
      | false => exact wt_go hl hn hus hF (r := (wtNq, false) :: wtCase 11 true false) wtC11_tfd rfl (d11_tfd hl hq) ⟨⟨rfl, hq⟩, (wtCase_ok hl 11 (by omega) hw ha hb)⟩
  | false =>
    cases hb : decide (128 ≤ wtHow xs) with
    | true =>
      exact wt_go hl hn hus hF wtC11_ft rfl (d11_ft hl) (wtCase_ok hl 11 (by omega) hw ha hb)
    | false =>
      cases hq : (wtNq.val (wtEnv xs) != 0) with
      | true => exact wt_go hl hn hus hF (r := (wtNq, true) :: wtCase 11 false false) wtC11_ffc rfl (d11_ffc hl) ⟨⟨rfl, hq⟩, (wtCase_ok hl 11 (by omega) hw ha hb)⟩
      | false => exact wt_go hl hn hus hF (r := (wtNq, false) :: wtCase 11 false false) wtC11_ffd rfl (d11_ffd hl hq) ⟨⟨rfl, hq⟩, (wtCase_ok hl 11 (by omega) hw ha hb)⟩
theorem wt_j12 (hw : wtWhich xs % 16 = (12 : Nat)) : Calls Try.prog 8 (List.toArray us) w fun en w' => en = .returned (.bool true) ∧ Below w.heap.size w w' := by
  cases ha : decide (0 < (dec (wtL0.val (wtEnv xs))).length) with
  | true =>
    have h0 := of_decide_eq_true ha
    cases hb : decide (128 ≤ wtHow xs) with
    | true =>
      exact wt_go hl hn hus hF wtC12_tt rfl (d12_tt hl) (wtCase_ok hl 12 (by omega) hw ha hb)
    | false =>
      exact wt_go hl hn hus hF wtC12_tf rfl (d12_tf hl) (wtCase_ok hl 12 (by omega) hw ha hb)
  | false =>
    cases hb : decide (128 ≤ wtHow xs) with
    | true =>
      exact wt_go hl hn hus hF wtC12_ft rfl (d12_ft hl) (wtCase_ok hl 12 (by omega) hw ha hb)
    | false =>
      exact wt_go hl hn hus hF wtC12_ff rfl (d12_ff hl) (wtCase_ok hl 12 (by omega) hw ha hb)
theorem wt_j13 (hw : wtWhich xs % 16 = (13 : Nat)) : Calls Try.prog 8 (List.toArray us) w fun en w' => en = .returned (.bool true) ∧ Below w.heap.size w w' := by
  cases ha : decide (0 < (dec (wtL0.val (wtEnv xs))).length) with
  | true =>
    have h0 := of_decide_eq_true ha
    cases hb : decide (128 ≤ wtHow xs) with
    | true =>
      exact wt_go hl hn hus hF wtC13_tt rfl (d13_tt hl) (wtCase_ok hl 13 (by omega) hw ha hb)
    | false =>
      exact wt_go hl hn hus hF wtC13_tf rfl (d13_tf hl) (wtCase_ok hl 13 (by omega) hw ha hb)
  | false =>
    cases hb : decide (128 ≤ wtHow xs) with
    | true =>
      exact wt_go hl hn hus hF wtC13_ft rfl (d13_ft hl) (wtCase_ok hl 13 (by omega) hw ha hb)
    | false =>
      exact wt_go hl hn hus hF wtC13_ff rfl (d13_ff hl) (wtCase_ok hl 13 (by omega) hw ha hb)
theorem wt_j14 (hw : wtWhich xs % 16 = (14 : Nat)) : Calls Try.prog 8 (List.toArray us) w fun en w' => en = .returned (.bool true) ∧ Below w.heap.size w w' := by
  cases ha : decide (0 < (dec (wtL0.val (wtEnv xs))).length) with
  | true =>
    have h0 := of_decide_eq_true ha
    cases hb : decide (128 ≤ wtHow xs) with
    | true =>
      exact wt_go hl hn hus hF wtC14_tt rfl (d14_tt hl h0) (wtCase_ok hl 14 (by omega) hw ha hb)
    | false =>
      exact wt_go hl hn hus hF wtC14_tf rfl (d14_tf hl h0) (wtCase_ok hl 14 (by omega) hw ha hb)
  | false =>
    cases hb : decide (128 ≤ wtHow xs) with
    | true =>
      exact wt_go hl hn hus hF wtC14_ft rfl (d14_ft hl) (wtCase_ok hl 14 (by omega) hw ha hb)
    | false =>
      exact wt_go hl hn hus hF wtC14_ff rfl (d14_ff hl) (wtCase_ok hl 14 (by omega) hw ha hb)
theorem wt_j15 (hw : wtWhich xs % 16 = (15 : Nat)) : Calls Try.prog 8 (List.toArray us) w fun en w' => en = .returned (.bool true) ∧ Below w.heap.size w w' := by
  cases ha : decide (0 < (dec (wtL0.val (wtEnv xs))).length) with
  | true =>
    have h0 := of_decide_eq_true ha
    cases hb : decide (128 ≤ wtHow xs) with
    | true =>
      exact wt_go hl hn hus hF wtC15_tt rfl (d15_tt hl h0) (wtCase_ok hl 15 (by omega) hw ha hb)
    | false =>
      exact wt_go hl hn hus hF wtC15_tf rfl (d15_tf hl h0) (wtCase_ok hl 15 (by omega) hw ha hb)
  | false =>
    cases hb : decide (128 ≤ wtHow xs) with
    | true =>
      exact wt_go hl hn hus hF wtC15_ft rfl (d15_ft hl) (wtCase_ok hl 15 (by omega) hw ha hb)
    | false =>
      exact wt_go hl hn hus hF wtC15_ff rfl (d15_ff hl) (wtCase_ok hl 15 (by omega) hw ha hb)
theorem wt_law : Calls Try.prog 8 (List.toArray us) w fun en w' => en = .returned (.bool true) ∧ Below w.heap.size w w' := by
  have h := which_in xs
  by_cases c0 : wtWhich xs % 16 = (0 : Nat)
  · exact wt_j0 hl hn hus hF c0
  by_cases c1 : wtWhich xs % 16 = (1 : Nat)
  · exact wt_j1 hl hn hus hF c1
  by_cases c2 : wtWhich xs % 16 = (2 : Nat)
  · exact wt_j2 hl hn hus hF c2
  by_cases c3 : wtWhich xs % 16 = (3 : Nat)
  · exact wt_j3 hl hn hus hF c3
  by_cases c4 : wtWhich xs % 16 = (4 : Nat)
  · exact wt_j4 hl hn hus hF c4
  by_cases c5 : wtWhich xs % 16 = (5 : Nat)
  · exact wt_j5 hl hn hus hF c5
  by_cases c6 : wtWhich xs % 16 = (6 : Nat)
  · exact wt_j6 hl hn hus hF c6
  by_cases c7 : wtWhich xs % 16 = (7 : Nat)
  · exact wt_j7 hl hn hus hF c7
  by_cases c8 : wtWhich xs % 16 = (8 : Nat)
  · exact wt_j8 hl hn hus hF c8
  by_cases c9 : wtWhich xs % 16 = (9 : Nat)
  · exact wt_j9 hl hn hus hF c9
  by_cases c10 : wtWhich xs % 16 = (10 : Nat)
  · exact wt_j10 hl hn hus hF c10
  by_cases c11 : wtWhich xs % 16 = (11 : Nat)
  · exact wt_j11 hl hn hus hF c11
  by_cases c12 : wtWhich xs % 16 = (12 : Nat)
  · exact wt_j12 hl hn hus hF c12
  by_cases c13 : wtWhich xs % 16 = (13 : Nat)
  · exact wt_j13 hl hn hus hF c13
  by_cases c14 : wtWhich xs % 16 = (14 : Nat)
  · exact wt_j14 hl hn hus hF c14
  exact wt_j15 hl hn hus hF (by omega)
end
end Go.Proofs.Ytedfbamihjnhhaa.Own
end
section
namespace Go.Proofs.Ytedfbamihjnhhaa.Own
open Go Go.RowKit Go.Proofs Go.ChangeShapes Go.WideShapes Go.ChangeAt
set_option linter.unusedVariables false
set_option linter.unusedSimpArgs false
theorem cell_spot {P : Program} {w : World} {base : Nat} {t : TypeId} {v : Value} (h : Cell.okWide P w .any base t v) : spotOK v := by
  intro a n c hv
  subst hv
  unfold Cell.okWide at h
  split at h
  · rename_i h2; cases h2
  · rename_i h2; cases h2
  · rename_i h2; cases h2
  · rename_i h2; cases h2
  · rename_i h2; cases h2
  · rename_i h2; cases h2
  · rename_i h2; cases h2
  · unfold Cell.ok at h
    split at h
    all_goals first
      | (rename_i h2; cases h2; done)
      | (rename_i h2 h3; cases h3; done)
      | (rename_i h2 h3; cases h3; exact h.2.2.2.1)
      | exact h.elim
section
variable {H : Type} {enc' : TypeId × Value → H} {P : Program} {w : World} {base b2 : Nat} {sp : Nat → Bool} {held : Bool}
theorem open_agg {t : TypeId} {v : Value} {d : DataW H} {ps : List MemPlace} {fs : Array Field} {ls : List Lf} {dd : Nat} (hu : P.underlying t = some (.struct fs)) (hok : Value.okWide P w .any b2 t v) (h : DataW.Trod enc' P w base sp held t v d ps) (hlf : lfOf P dd t = some ls) :
    ∃ cs xs ss, v = .agg (List.toArray cs) ∧ LfsOK w ls cs xs ss := by
  unfold Value.okWide at hok
  rw [hu] at hok
  obtain ⟨cs, rfl, hsz, ts, hts, hn, hrow⟩ := hok
  obtain ⟨fuel, hf⟩ := h
  obtain ⟨xs, ss, hl⟩ := trod_lf dd hlf hf (.inr fun v hv => by
    have hv' : v ∈ cs.toList := hv
    obtain ⟨i, hi⟩ := List.getElem?_of_mem hv'
    obtain ⟨u, _, hu2⟩ := hrow i v (by simpa using hi)
    exact cell_spot hu2)
  exact ⟨cs.toList, xs, ss, by cases cs; rfl, hl⟩
end
/-- a number at its place -/
theorem LfsOK.at {w : World} {k : Option IntKind} : ∀ {ls : List Lf} {cs : List Value} {xs : List Int} {ss : List (Nat × Nat × Nat)} (i : Nat), LfsOK w ls cs xs ss → ls[i]? = some (.num k) → inK k (xs.getD i 0)
  | _, _, _, _, i, .nil, h => by cases i <;> cases h
  | _, _, _, _, 0, .num hk t, h => by cases h; exact hk
  | _, _, _, _, i + 1, .num hk t, h => by rw [List.getD_cons_succ]; exact LfsOK.at i t h
  | _, _, _, _, 0, .sl hk t, h => by cases h
  | _, _, _, _, i + 1, .sl hk t, h => by rw [List.getD_cons_succ]; exact LfsOK.at i t h
theorem LfsOK.atL {w : World} {e : TypeId} {ks : Ks} : ∀ {ls : List Lf} {cs : List Value} {xs : List Int} {ss : List (Nat × Nat × Nat)} (i : Nat), LfsOK w ls cs xs ss → ls[i]? = some (.sl e ks) → (dec (xs.getD i 0)).length ≤ maxLen
  | _, _, _, _, i, .nil, h => by cases i <;> cases h
  | _, _, _, _, 0, .num hk t, h => by cases h
  | _, _, _, _, i + 1, .num hk t, h => by rw [List.getD_cons_succ]; exact LfsOK.atL i t h
  | _, _, _, _, 0, .sl hk t, h => by rw [List.getD_cons_zero, dec_enc]; exact hk.l
  | _, _, _, _, i + 1, .sl hk t, h => by rw [List.getD_cons_succ]; exact LfsOK.atL i t h
def slN : List Lf → Nat
  | [] => 0
  | .num _ :: r => slN r
  | .sl _ _ :: r => slN r + 1
theorem LfsOK.slen {w : World} : ∀ {ls : List Lf} {cs : List Value} {xs : List Int} {ss : List (Nat × Nat × Nat)}, LfsOK w ls cs xs ss → ss.length = slN ls
  | _, _, _, _, .nil => rfl
  | _, _, _, _, .num _ t => by rw [slN]; exact LfsOK.slen t
  | _, _, _, _, .sl _ t => by rw [slN, List.length_cons, LfsOK.slen t]
end Go.Proofs.Ytedfbamihjnhhaa.Own
end
section
namespace Go.Proofs.Ytedfbamihjnhhaa.Own
open Go Go.RowKit Go.Proofs Go.ChangeShapes Go.WideShapes Go.ChangeAt
set_option linter.unusedVariables false
set_option linter.unusedSectionVars false
set_option linter.unusedSimpArgs false
section
variable {H : Type} {enc' : TypeId × Value → H} {P : Program} {w : World} {base b2 : Nat} {sp : Nat → Bool} {held : Bool}
theorem open_slice {t e : TypeId} {v : Value} {d : DataW H} {ps : List MemPlace} {ls : List Lf} {dd : Nat} (hu : P.underlying t = some (.slice e)) (hok : Value.okWide P w .any b2 t v) (h : DataW.Trod enc' P w base sp held t v d ps) (hlf : lfOf P dd t = some ls) :
    ∃ xs ss, LfsOK w ls [v] xs ss := by
  unfold Value.okWide at hok
  rw [hu] at hok
  obtain ⟨fuel, hf⟩ := h
  have hv : v.cells.toList = [v] := by
    unfold Cell.okWide at hok
    cases v <;> first | rfl | skip
    all_goals simp [Cell.ok, hu] at hok
  rw [hv] at hf
  exact trod_lf dd hlf hf (.inr fun u hu2 => by
    simp only [List.mem_singleton] at hu2
    subst hu2
    exact cell_spot hok)
end
theorem rel_ones {e : Vl} {σ : List (Nat × Nat × Nat)} : ∀ {cs : List C} {us : List Value}, RelCs e σ cs us → RelVs e σ (cs.map .one) us
  | _, _, .nil => .nil
  | _, _, .cons h t => .cons (.one h) (rel_ones t)
noncomputable def wtLs : List Lf := [.sl 5 [some .u8], .sl 5 [some .u8], .sl 5 [some .u8], .sl 5 [some .u8], .num (some .u8), .num (some .u8), .num (some .u8)]
theorem wt_row {us : List Value} {xs : List Int} {ss : List (Nat × Nat × Nat)} {w : World} (h : LfsOK w wtLs us xs ss) : Calls Try.prog 8 (List.toArray us) w fun en w' => en = .returned (.bool true) ∧ Below w.heap.size w w' := by
  have h2 := symL_rel (P := (bW.loops Lm6_L).P) (E := wtEnv xs) (σ := ss) h 0 0 (fun i _ => by rw [Nat.zero_add]; exact ⟨rfl, rfl⟩) (fun i x hi => by rw [Nat.zero_add]; exact hi)
  have hn : ss.length = 4 := h.slen
  have hl : WtLen xs := ⟨h.atL 0 rfl, h.atL 1 rfl, h.atL 2 rfl, h.atL 3 rfl⟩
  exact wt_law hl hn (rel_ones h2.1) h2.2
end Go.Proofs.Ytedfbamihjnhhaa.Own
end
