/- A world turned: loops that search. -/
import Derived.Test.YtedfbamihjnhhaaWtP
namespace Go.Proofs.Ytedfbamihjnhhaa.Own
open Go Go.RowKit Go.Proofs Go.Proofs.Ytedfbamihjnhhaa.Plain
set_option linter.unusedVariables false
set_option linter.unusedSectionVars false
set_option linter.unusedSimpArgs false
set_option maxRecDepth 100000
theorem find_all {T : RT} {F : Nat → List Int → List Int} {zs : List Int} {n e : Nat} {w : List Int} (step : ∀ t, t < n → T.get (envOf F (zs ++ [(t : Int)])) = (none, zs ++ [((t + 1 : Nat) : Int)])) (out : T.get (envOf F (zs ++ [(n : Int)])) = (some e, w)) :
    ∀ (k t j : Nat), t + k = n + 1 → 0 < k → runL (fun _ => T) F j k (zs ++ [(t : Int)]) = some (e, w)
  | 0, _, _, _, h => by omega
  | k + 1, t, j, h, _ => by
    by_cases ht : t < n
    · have := find_all step out k (t + 1) (j + 1) (by omega) (by omega)
      simp only [runL, step t ht]; exact this
    · have : t = n := by omega
      subst this
      simp only [runL, out]
theorem find_one {T : RT} {F : Nat → List Int → List Int} {zs : List Int} {n k0 : Nat} {Q : Nat → List Int → Prop} (hk : k0 < n) (step : ∀ t, t < n → T.get (envOf F (zs ++ [(t : Int)])) = (none, zs ++ [((t + 1 : Nat) : Int)]) ∨ ∃ w, T.get (envOf F (zs ++ [(t : Int)])) = (some 0, w) ∧ Q t w) (hit : ∃ w, T.get (envOf F (zs ++ [(k0 : Int)])) = (some 0, w) ∧ Q k0 w) :
    ∀ (k t j : Nat), t ≤ k0 → t + k = n + 1 → 0 < k → ∃ i w, runL (fun _ => T) F j k (zs ++ [(t : Int)]) = some (0, w) ∧ i < n ∧ Q i w
  | 0, _, _, _, _, h => by omega
  | k + 1, t, j, ht, h, _ => by
    rcases step t (by omega) with hs | ⟨w, hs, hw⟩
    · by_cases hk0 : t = k0
      · subst hk0
        obtain ⟨w, hw, hq⟩ := hit
        rw [hs] at hw; cases hw
      · obtain ⟨i, w, g1, g2, g3⟩ := find_one hk step hit k (t + 1) (j + 1) (by omega) (by omega) (by omega)
        exact ⟨i, w, by simp only [runL, hs]; exact g1, g2, g3⟩
    · exact ⟨t, w, by simp only [runL, hs], by omega, hw⟩
def rtQ1 : RT → SE
  | .know _ _ t => rtQ1 t
  | .ask q _ _ => q
  | _ => .nil
def rtQ : RT → SE
  | .ask _ t _ => rtQ1 t
  | _ => .nil
theorem lss_val {F : Nat → List Int → List Int} {zs : List Int} {c t n lv : Nat} (hc : zs.getD c 0 = (t : Int)) (hl : (dec (zs.getD lv 0)).length = n) (hn : n ≤ 1000000) (ht : t ≤ n) : ((SE.cmp .lss (.ivar .i64 c) (.len (.lvar lv))).val (envOf F zs) != 0) = decide (t < n) :=
  lss_at (iv_at hc (by omega)) (len_at hl (le_max hn))
theorem map2_at {F : Nat → List Int → List Int} {a b : Int} {t : Nat} (ht : t ≤ 1000000) : ([(.lvar 0), (.lvar 1), (.bin .add .i64 (.ivar .i64 2) (.lit .i64 1))] : List SE).map (SE.val (envOf F ([a, b] ++ [(t : Int)]))) = [a, b] ++ [((t + 1 : Nat) : Int)] := by
  have h := add_at (F := F) (xs := [a, b] ++ [(t : Int)]) (c := 2) (i := t) (k := 1) rfl (by omega)
  have h : (SE.bin .add .i64 (.ivar .i64 2) (.lit .i64 1)).val (envOf F ([a, b] ++ [(t : Int)])) = ((t + 1 : Nat) : Int) := h
  simp only [List.map, lvar_at, h]; rfl
theorem map4_at {F : Nat → List Int → List Int} {a b c d : Int} {t : Nat} (ht : t ≤ 1000000) : ([(.lvar 0), (.lvar 1), (.lvar 2), (.lvar 3), (.bin .add .i64 (.ivar .i64 4) (.lit .i64 1))] : List SE).map (SE.val (envOf F ([a, b, c, d] ++ [(t : Int)]))) = [a, b, c, d] ++ [((t + 1 : Nat) : Int)] := by
  have h := add_at (F := F) (xs := [a, b, c, d] ++ [(t : Int)]) (c := 4) (i := t) (k := 1) rfl (by omega)
  have h : (SE.bin .add .i64 (.ivar .i64 4) (.lit .i64 1)).val (envOf F ([a, b, c, d] ++ [(t : Int)])) = ((t + 1 : Nat) : Int) := h
  simp only [List.map, lvar_at, h]; rfl
theorem et_get (E : Env) : etT.get E = bif (SE.cmp .lss (.ivar .i64 2) (.len (.lvar 0))).val E != 0 then (bif (rtQ etT).val E != 0 then (some 0, []) else (none, ([(.lvar 0), (.lvar 1), (.bin .add .i64 (.ivar .i64 2) (.lit .i64 1))] : List SE).map (SE.val E))) else (some 1, ([(.lvar 0), (.lvar 1)] : List SE).map (SE.val E)) := rfl
theorem er_get (E : Env) : erT.get E = bif (SE.cmp .lss (.ivar .i64 2) (.len (.lvar 0))).val E != 0 then (bif (rtQ erT).val E != 0 then (some 0, []) else (none, ([(.lvar 0), (.lvar 1), (.bin .add .i64 (.ivar .i64 2) (.lit .i64 1))] : List SE).map (SE.val E))) else (some 1, ([(.lvar 0), (.lvar 1)] : List SE).map (SE.val E)) := rfl
theorem ei_get (E : Env) : eiT.get E = bif (SE.cmp .lss (.ivar .i64 2) (.len (.lvar 0))).val E != 0 then (bif (rtQ eiT).val E != 0 then (some 0, []) else (none, ([(.lvar 0), (.lvar 1), (.bin .add .i64 (.ivar .i64 2) (.lit .i64 1))] : List SE).map (SE.val E))) else (some 1, ([(.lvar 0), (.lvar 1)] : List SE).map (SE.val E)) := rfl
theorem eb2_get (E : Env) : eb2T.get E = bif (SE.cmp .lss (.ivar .i64 4) (.len (.lvar 0))).val E != 0 then (bif (rtQ eb2T).val E != 0 then (some 0, []) else (none, ([(.lvar 0), (.lvar 1), (.lvar 2), (.lvar 3), (.bin .add .i64 (.ivar .i64 4) (.lit .i64 1))] : List SE).map (SE.val E))) else (some 1, ([(.lvar 0), (.lvar 1)] : List SE).map (SE.val E)) := rfl
theorem ib2_get (E : Env) : ib2T.get E = bif (SE.cmp .lss (.ivar .i64 2) (.len (.lvar 0))).val E != 0 then (bif (rtQ ib2T).val E != 0 then (some 0, ([(.ivar .i64 2)] : List SE).map (SE.val E)) else (none, ([(.lvar 0), (.lvar 1), (.bin .add .i64 (.ivar .i64 2) (.lit .i64 1))] : List SE).map (SE.val E))) else (some 1, ([(.lvar 0)] : List SE).map (SE.val E)) := rfl
theorem l_00 {e : Env} : (SE.lit .i64 0).val e = 0 := by simp only [SE.val]; rfl
theorem et_q (F : Nat → List Int → List Int) (a t : Int) : ((rtQ etT).val (envOf F ([a, a] ++ [t])) != 0) = false := by
  have l1 : (SE.lvar 1).val (envOf F ([a, a] ++ [t])) = (SE.lvar 0).val (envOf F ([a, a] ++ [t])) := by rw [lvar_at, lvar_at]; rfl
  simp [etT, rtQ, rtQ1, SE.val, valCmp, b2i] at l1 ⊢
  simp [l1]
theorem et_self (F : Nat → List Int → List Int) (a : Int) (hn : (dec a).length ≤ 1000000) : ∃ w, etG F [a, a] = 1 :: w := by
  have hs := lvar_at (F := F) (xs := [a, a]) (lv := 0)
  have h0 : etI.map (SE.val (envOf F [a, a])) = [a, a] ++ [((0 : Nat) : Int)] := by
    simp only [etI, List.map, lvar_at, l_00]; rfl
  have hl : ∀ t : Nat, t ≤ (dec a).length → ((SE.cmp .lss (.ivar .i64 2) (.len (.lvar 0))).val (envOf F ([a, a] ++ [(t : Int)])) != 0) = decide (t < (dec a).length) := fun t ht => lss_val (c := 2) (lv := 0) rfl rfl hn ht
  have st : ∀ t, t < (dec a).length → etT.get (envOf F ([a, a] ++ [(t : Int)])) = (none, [a, a] ++ [((t + 1 : Nat) : Int)]) := fun t ht => by
    rw [et_get, hl t (by omega), decide_eq_true ht, cond_true, et_q, cond_false, map2_at (by omega)]
  have ot : etT.get (envOf F ([a, a] ++ [((dec a).length : Int)])) = (some 1, ([(.lvar 0), (.lvar 1)] : List SE).map (SE.val (envOf F ([a, a] ++ [((dec a).length : Int)])))) := by
    rw [et_get, hl _ (Nat.le_refl _), decide_eq_false (by omega), cond_false]
  have := find_all (T := etT) (F := F) (zs := [a, a]) st ot ((dec a).length + 1) 0 0 (by omega) (by omega)
  refine ⟨([(.lvar 0), (.lvar 1)] : List SE).map (SE.val (envOf F ([a, a] ++ [((dec a).length : Int)]))), ?_⟩
  unfold etG lpFn etU
  rw [h0]
  rw [show (dec ([a, a].getD 0 0)).length + 1 = (dec a).length + 1 from rfl, this]
  rfl
theorem er_q (F : Nat → List Int → List Int) (a t : Int) : ((rtQ erT).val (envOf F ([a, a] ++ [t])) != 0) = false := by
  have l1 : (SE.lvar 1).val (envOf F ([a, a] ++ [t])) = (SE.lvar 0).val (envOf F ([a, a] ++ [t])) := by rw [lvar_at, lvar_at]; rfl
  simp [erT, rtQ, rtQ1, SE.val, valCmp, b2i] at l1 ⊢
  simp [l1]
theorem er_self (F : Nat → List Int → List Int) (a : Int) (hn : (dec a).length ≤ 1000000) : ∃ w, erG F [a, a] = 1 :: w := by
  have hs := lvar_at (F := F) (xs := [a, a]) (lv := 0)
  have h0 : erI.map (SE.val (envOf F [a, a])) = [a, a] ++ [((0 : Nat) : Int)] := by
    simp only [erI, List.map, lvar_at, l_00]; rfl
  have hl : ∀ t : Nat, t ≤ (dec a).length → ((SE.cmp .lss (.ivar .i64 2) (.len (.lvar 0))).val (envOf F ([a, a] ++ [(t : Int)])) != 0) = decide (t < (dec a).length) := fun t ht => lss_val (c := 2) (lv := 0) rfl rfl hn ht
  have st : ∀ t, t < (dec a).length → erT.get (envOf F ([a, a] ++ [(t : Int)])) = (none, [a, a] ++ [((t + 1 : Nat) : Int)]) := fun t ht => by
    rw [er_get, hl t (by omega), decide_eq_true ht, cond_true, er_q, cond_false, map2_at (by omega)]
  have ot : erT.get (envOf F ([a, a] ++ [((dec a).length : Int)])) = (some 1, ([(.lvar 0), (.lvar 1)] : List SE).map (SE.val (envOf F ([a, a] ++ [((dec a).length : Int)])))) := by
    rw [er_get, hl _ (Nat.le_refl _), decide_eq_false (by omega), cond_false]
  have := find_all (T := erT) (F := F) (zs := [a, a]) st ot ((dec a).length + 1) 0 0 (by omega) (by omega)
  refine ⟨([(.lvar 0), (.lvar 1)] : List SE).map (SE.val (envOf F ([a, a] ++ [((dec a).length : Int)]))), ?_⟩
  unfold erG lpFn erU
  rw [h0]
  rw [show (dec ([a, a].getD 0 0)).length + 1 = (dec a).length + 1 from rfl, this]
  rfl
theorem ei_q (F : Nat → List Int → List Int) (a t : Int) : ((rtQ eiT).val (envOf F ([a, a] ++ [t])) != 0) = false := by
  have l1 : (SE.lvar 1).val (envOf F ([a, a] ++ [t])) = (SE.lvar 0).val (envOf F ([a, a] ++ [t])) := by rw [lvar_at, lvar_at]; rfl
  simp [eiT, rtQ, rtQ1, SE.val, valCmp, b2i] at l1 ⊢
  simp [l1]
theorem ei_self (F : Nat → List Int → List Int) (a : Int) (hn : (dec a).length ≤ 1000000) : ∃ w, eiG F [a, a] = 1 :: w := by
  have hs := lvar_at (F := F) (xs := [a, a]) (lv := 0)
  have h0 : eiI.map (SE.val (envOf F [a, a])) = [a, a] ++ [((0 : Nat) : Int)] := by
    simp only [eiI, List.map, lvar_at, l_00]; rfl
  have hl : ∀ t : Nat, t ≤ (dec a).length → ((SE.cmp .lss (.ivar .i64 2) (.len (.lvar 0))).val (envOf F ([a, a] ++ [(t : Int)])) != 0) = decide (t < (dec a).length) := fun t ht => lss_val (c := 2) (lv := 0) rfl rfl hn ht
  have st : ∀ t, t < (dec a).length → eiT.get (envOf F ([a, a] ++ [(t : Int)])) = (none, [a, a] ++ [((t + 1 : Nat) : Int)]) := fun t ht => by
    rw [ei_get, hl t (by omega), decide_eq_true ht, cond_true, ei_q, cond_false, map2_at (by omega)]
  have ot : eiT.get (envOf F ([a, a] ++ [((dec a).length : Int)])) = (some 1, ([(.lvar 0), (.lvar 1)] : List SE).map (SE.val (envOf F ([a, a] ++ [((dec a).length : Int)])))) := by
    rw [ei_get, hl _ (Nat.le_refl _), decide_eq_false (by omega), cond_false]
  have := find_all (T := eiT) (F := F) (zs := [a, a]) st ot ((dec a).length + 1) 0 0 (by omega) (by omega)
  refine ⟨([(.lvar 0), (.lvar 1)] : List SE).map (SE.val (envOf F ([a, a] ++ [((dec a).length : Int)]))), ?_⟩
  unfold eiG lpFn eiU
  rw [h0]
  rw [show (dec ([a, a].getD 0 0)).length + 1 = (dec a).length + 1 from rfl, this]
  rfl
theorem eb2_q (F : Nat → List Int → List Int) (l b t : Int) : ((rtQ eb2T).val (envOf F ([l, l, b, b] ++ [t])) != 0) = false := by
  have l1 : (SE.lvar 3).val (envOf F ([l, l, b, b] ++ [t])) = (SE.lvar 2).val (envOf F ([l, l, b, b] ++ [t])) := by rw [lvar_at, lvar_at]; rfl
  simp [eb2T, rtQ, rtQ1, SE.val, valCmp, b2i] at l1 ⊢
  simp [l1]
theorem eb2_lss (F : Nat → List Int → List Int) (l1 l2 b1 b2 : Int) (hn : (dec l1).length ≤ 1000000) (t : Nat) (ht : t ≤ (dec l1).length) : ((SE.cmp .lss (.ivar .i64 4) (.len (.lvar 0))).val (envOf F ([l1, l2, b1, b2] ++ [(t : Int)])) != 0) = decide (t < (dec l1).length) := lss_val (c := 4) (lv := 0) rfl rfl hn ht
theorem eb2_init (F : Nat → List Int → List Int) (l1 l2 b1 b2 : Int) : eb2I.map (SE.val (envOf F [l1, l2, b1, b2])) = [l1, l2, b1, b2] ++ [((0 : Nat) : Int)] := by
  simp only [eb2I, List.map, lvar_at, l_00]; rfl
theorem eb2_self (F : Nat → List Int → List Int) (l b : Int) (hn : (dec l).length ≤ 1000000) : ∃ w, eb2G F [l, l, b, b] = 1 :: w := by
  have hl := eb2_lss F l l b b hn
  have st : ∀ t, t < (dec l).length → eb2T.get (envOf F ([l, l, b, b] ++ [(t : Int)])) = (none, [l, l, b, b] ++ [((t + 1 : Nat) : Int)]) := fun t ht => by
    rw [eb2_get, hl t (by omega), decide_eq_true ht, cond_true, eb2_q, cond_false, map4_at (by omega)]
  have ot : eb2T.get (envOf F ([l, l, b, b] ++ [((dec l).length : Int)])) = (some 1, ([(.lvar 0), (.lvar 1)] : List SE).map (SE.val (envOf F ([l, l, b, b] ++ [((dec l).length : Int)])))) := by
    rw [eb2_get, hl _ (Nat.le_refl _), decide_eq_false (by omega), cond_false]
  have := find_all (T := eb2T) (F := F) (zs := [l, l, b, b]) st ot ((dec l).length + 1) 0 0 (by omega) (by omega)
  refine ⟨([(.lvar 0), (.lvar 1)] : List SE).map (SE.val (envOf F ([l, l, b, b] ++ [((dec l).length : Int)]))), ?_⟩
  unfold eb2G lpFn eb2U
  rw [eb2_init]
  rw [show (dec ([l, l, b, b].getD 0 0)).length + 1 = (dec l).length + 1 from rfl, this]
  rfl
/-- two lists of bodies of which the k-th are not alike -/
theorem eb2_find (F : Nat → List Int → List Int) (l1 l2 b1 b2 : Int) (hn : (dec l1).length ≤ 1000000) (k : Nat) (hk : k < (dec l1).length) (hq : ((rtQ eb2T).val (envOf F ([l1, l2, b1, b2] ++ [(k : Int)])) != 0) = true) : ∃ w, eb2G F [l1, l2, b1, b2] = 0 :: w := by
  have hl := eb2_lss F l1 l2 b1 b2 hn
  have g : ∀ t, t < (dec l1).length → eb2T.get (envOf F ([l1, l2, b1, b2] ++ [(t : Int)])) = bif (rtQ eb2T).val (envOf F ([l1, l2, b1, b2] ++ [(t : Int)])) != 0 then (some 0, []) else (none, [l1, l2, b1, b2] ++ [((t + 1 : Nat) : Int)]) := fun t ht => by
    rw [eb2_get, hl t (by omega), decide_eq_true ht, cond_true, map4_at (by omega)]
  obtain ⟨i, w, h1, h2, h3⟩ := find_one (T := eb2T) (F := F) (zs := [l1, l2, b1, b2]) (n := (dec l1).length) (k0 := k) (Q := fun _ _ => True) hk (fun t ht => by
    rw [g t ht]
    cases hc : (rtQ eb2T).val (envOf F ([l1, l2, b1, b2] ++ [(t : Int)])) != 0 with
    | false => exact .inl rfl
    | true => exact .inr ⟨_, rfl, trivial⟩) ⟨_, by rw [g k hk, hq, cond_true], trivial⟩ ((dec l1).length + 1) 0 0 (Nat.zero_le _) (by omega) (by omega)
  refine ⟨w, ?_⟩
  unfold eb2G lpFn eb2U
  rw [eb2_init]
  rw [show (dec ([l1, l2, b1, b2].getD 0 0)).length + 1 = (dec l1).length + 1 from rfl, h1]
  rfl
theorem ib2_find (F : Nat → List Int → List Int) (l b : Int) (hn : (dec l).length ≤ 1000000) (k : Nat) (hk : k < (dec l).length) (hq : ((rtQ ib2T).val (envOf F ([l, b] ++ [(k : Int)])) != 0) = true) : ∃ i : Nat, ib2G F [l, b] = [0, (i : Int)] ∧ i < (dec l).length := by
  have hl : ∀ t : Nat, t ≤ (dec l).length → ((SE.cmp .lss (.ivar .i64 2) (.len (.lvar 0))).val (envOf F ([l, b] ++ [(t : Int)])) != 0) = decide (t < (dec l).length) := fun t ht => lss_val (c := 2) (lv := 0) rfl rfl hn ht
  have h0 : ib2I.map (SE.val (envOf F [l, b])) = [l, b] ++ [((0 : Nat) : Int)] := by
    simp only [ib2I, List.map, lvar_at, l_00]; rfl
  have g : ∀ t, t < (dec l).length → ib2T.get (envOf F ([l, b] ++ [(t : Int)])) = bif (rtQ ib2T).val (envOf F ([l, b] ++ [(t : Int)])) != 0 then (some 0, [(t : Int)]) else (none, [l, b] ++ [((t + 1 : Nat) : Int)]) := fun t ht => by
    rw [ib2_get, hl t (by omega), decide_eq_true ht, cond_true, map2_at (by omega)]
    simp only [List.map, iv_at (F := F) (xs := [l, b] ++ [(t : Int)]) (c := 2) (i := t) rfl (by omega)]
  obtain ⟨i, w, h1, h2, h3⟩ := find_one (T := ib2T) (F := F) (zs := [l, b]) (n := (dec l).length) (k0 := k) (Q := fun t w => w = [(t : Int)]) hk (fun t ht => by
    rw [g t ht]
    cases hc : (rtQ ib2T).val (envOf F ([l, b] ++ [(t : Int)])) != 0 with
    | false => exact .inl rfl
    | true => exact .inr ⟨_, rfl, rfl⟩) ⟨_, by rw [g k hk, hq, cond_true], rfl⟩ ((dec l).length + 1) 0 0 (Nat.zero_le _) (by omega) (by omega)
  subst h3
  refine ⟨i, ?_, h2⟩
  unfold ib2G lpFn ib2U
  rw [h0]
  rw [show (dec ([l, b].getD 0 0)).length + 1 = (dec l).length + 1 from rfl, h1]
  rfl
theorem mr_get (E : Env) : mrT.get E = bif (SE.cmp .lss (.ivar .i64 1) (.len (.lvar 0))).val E != 0 then (bif (rtQ mrT).val E != 0 then (some 0, []) else (none, ([(.lvar 0), (.bin .add .i64 (.ivar .i64 1) (.lit .i64 1))] : List SE).map (SE.val E))) else (some 1, ([(.lvar 0)] : List SE).map (SE.val E)) := rfl
theorem mr_first (F : Nat → List Int → List Int) (a : Int) (hn : (dec a).length ≤ 1000000) (h0 : 0 < (dec a).length) (hq : ((rtQ mrT).val (envOf F ([a] ++ [((0 : Nat) : Int)])) != 0) = true) : mrG F [a] = [0] := by
  have hi : mrI.map (SE.val (envOf F [a])) = [a] ++ [((0 : Nat) : Int)] := by
    simp only [mrI, List.map, lvar_at, l_00]; rfl
  have hl : ((SE.cmp .lss (.ivar .i64 1) (.len (.lvar 0))).val (envOf F ([a] ++ [((0 : Nat) : Int)])) != 0) = decide (0 < (dec a).length) := lss_val (c := 1) (lv := 0) rfl rfl hn (Nat.zero_le _)
  have g : mrT.get (envOf F ([a] ++ [((0 : Nat) : Int)])) = (some 0, []) := by
    rw [mr_get, hl, decide_eq_true h0, cond_true, hq, cond_true]
  unfold mrG lpFn mrU
  rw [hi]
  simp only [runL, g]
  rfl
end Go.Proofs.Ytedfbamihjnhhaa.Own
