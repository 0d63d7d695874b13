/- A world made: tables that grew, trees of truths. -/
/- A world turned: loops that search. -/
import Derived.Test.YtedfbamihjnhhaaDf6
import Derived.Test.YtedfbamihjnhhaaDqA
import Derived.Test.YtedfbamihjnhhaaWtP
section
namespace Go.Proofs.Ytedfbamihjnhhaa.Own
open Go Go.RowKit Go.Proofs Go.Proofs.Ytedfbamihjnhhaa.Plain
set_option linter.unusedVariables false
set_option linter.unusedSectionVars false
set_option linter.unusedSimpArgs false
set_option maxRecDepth 100000
/-! a table that grew says the same of what it held -/
theorem FT_drop : ∀ (n : Nat) (Tb : List Ent) (f : Nat), ((Tb.take n).all fun e => !Nat.beq f e.f) = true → FT Tb f = FT (Tb.drop n) f
 | 0, Tb, f, _ => rfl
 | n + 1, [], f, _ => rfl
 | n + 1, x :: r, f, h => by
  rw [List.take_succ_cons, List.all_cons, Bool.and_eq_true] at h
  have e : FT (x :: r) f = FT r f := by
   funext xs
   have : Nat.beq f x.f = false := by simpa using h.1
   simp only [FT, this, cond_false]
  rw [e, List.drop_succ_cons]
  exact FT_drop n r f h.2
theorem FT_hd {Tb : List Ent} {x : Ent} {r : List Ent} {f : Nat} (ht : Tb = x :: r) (h : Nat.beq f x.f = true) : FT Tb f = x.fn (FT r) := by
 subst ht
 funext xs
 simp only [FT, h, cond_true]
theorem FT_at {Tb Tb' : List Ent} {f : Nat} (n : Nat) (h : ((Tb.take n).all fun e => !Nat.beq f e.f) = true) (hd : Tb.drop n = Tb') : FT Tb f = FT Tb' f := by
 rw [FT_drop n Tb f h, hd]
def SE.fsB (p : Nat → Bool) : SE → Bool
 | .app f _ _ zs => p f && zs.fsB p
 | .lap f _ zs => p f && zs.fsB p
 | .bin _ _ a b => a.fsB p && b.fsB p
 | .cmp _ a b => a.fsB p && b.fsB p
 | .and a b => a.fsB p && b.fsB p
 | .mx _ a b => a.fsB p && b.fsB p
 | .mn _ a b => a.fsB p && b.fsB p
 | .cons a b => a.fsB p && b.fsB p
 | .seq a b => a.fsB p && b.fsB p
 | .lcat a b => a.fsB p && b.fsB p
 | .lrep a b => a.fsB p && b.fsB p
 | .ltk a b => a.fsB p && b.fsB p
 | .ldr a b => a.fsB p && b.fsB p
 | .conv _ a => a.fsB p
 | .not a => a.fsB p
 | .len a => a.fsB p
 | .lone a => a.fsB p
 | .el _ x i _ => x.fsB p && i.fsB p
 | .lset x i _ zs => x.fsB p && (i.fsB p && zs.fsB p)
 | _ => true
theorem val_ext {F G : Nat → List Int → List Int} {p : Nat → Bool} (hp : ∀ f, p f = true → F f = G f) (xs : List Int) (x : SE) (h : x.fsB p = true) : x.val (envOf F xs) = x.val (envOf G xs) ∧ x.vals (envOf F xs) = x.vals (envOf G xs) := by
 have hF : ∀ f i ys, p f = true → (envOf F xs).F f i ys = (envOf G xs).F f i ys := fun f i ys hf => by
  show (F f ys).getD i 0 = (G f ys).getD i 0
  rw [hp f hf]
 have hi : (envOf F xs).iv = (envOf G xs).iv := rfl
 have hb : (envOf F xs).bv = (envOf G xs).bv := rfl
 induction x <;> simp_all [SE.val, SE.vals, SE.fsB]
theorem val_drop {Tb Tb' : List Ent} (n : Nat) (hd : Tb.drop n = Tb') (xs : List Int) (x : SE) (h : x.fsB (fun f => (Tb.take n).all fun e => !Nat.beq f e.f) = true) : x.val (envOf (FT Tb) xs) = x.val (envOf (FT Tb') xs) :=
 (val_ext (p := fun f => (Tb.take n).all fun e => !Nat.beq f e.f) (fun f hf => FT_at n hf hd) xs x h).1
/-! trees of truths -/
section
variable {F : Nat → List Int → List Int} {zs : List Int} {x : SE} {t : ST} {q r : Bool}
theorem tf_n (hx : (x.val (envOf F zs) != 0) = !q) (ht : q = true → treeFn t F zs = [b2i r]) : treeFn (.ask x (.leaf (.one (.bool false))) t) F zs = [b2i (q && r)] := by
 unfold treeFn at ht ⊢
 simp only [ST.get, hx]
 cases q with
 | true => rw [Bool.not_true, cond_false, Bool.true_and]; exact ht rfl
 | false => rfl
theorem tf_y (hx : (x.val (envOf F zs) != 0) = q) (ht : q = true → treeFn t F zs = [b2i r]) : treeFn (.ask x t (.leaf (.one (.bool false)))) F zs = [b2i (q && r)] := by
 unfold treeFn at ht ⊢
 simp only [ST.get, hx]
 cases q with
 | true => rw [cond_true, Bool.true_and]; exact ht rfl
 | false => rfl
theorem tf_1 (hx : x.val (envOf F zs) = b2i r) : treeFn (.leaf (.one (.opq x))) F zs = [b2i r] := by
 unfold treeFn
 simp only [ST.get, flatV, List.map, valC, hx]
end
theorem wrb (b : Bool) : wrK none (b2i b) = b2i b := by cases b <;> rfl
theorem ap_b {F : Nat → List Int → List Int} {xs : List Int} {f : Nat} {zs : SE} {b : Bool} (h : F f (zs.vals (envOf F xs)) = [b2i b]) : (SE.app f 0 none zs).val (envOf F xs) = b2i b := by
 rw [v_app, h, List.getD_cons_zero, wrb]
theorem ap_n {F : Nat → List Int → List Int} {xs : List Int} {f : Nat} {zs : SE} {b : Bool} (h : F f (zs.vals (envOf F xs)) = [b2i b]) : ((SE.not (.app f 0 none zs)).val (envOf F xs) != 0) = !b := by
 rw [v_not, ap_b h, b2i_ne]
theorem ap_y {F : Nat → List Int → List Int} {xs : List Int} {f : Nat} {zs : SE} {b : Bool} (h : F f (zs.vals (envOf F xs)) = [b2i b]) : ((SE.app f 0 none zs).val (envOf F xs) != 0) = b := by
 rw [ap_b h, b2i_ne]
theorem ap_i {F : Nat → List Int → List Int} {xs : List Int} {f i : Nat} {k : IntKind} {zs : SE} {l : List Int} {v : Int} (h : F f (zs.vals (envOf F xs)) = l) (hv : l.getD i 0 = v) (hk : inK (some k) v) : (SE.app f i (some k) zs).val (envOf F xs) = v := by
 rw [v_app, h, hv]; exact hk
/-! numbers with a point, as whole numbers -/
def nn (a b : Int) : Int := a * 18446744073709551616 + b
theorem in_u {x : Int} (h : inK (some .u64) x) : 0 ≤ x ∧ x < 18446744073709551616 := by
 have : IntKind.u64.wrap x = x := h
 rw [IntKind.wrap_u64] at this; omega
theorem cmp4_ge {a0 a1 b0 b1 : Int} (h1 : inK (some .u64) a1) (h2 : inK (some .u64) b1) : decide (0 ≤ cmp4 a0 a1 b0 b1) = decide (nn b0 b1 ≤ nn a0 a1) := by
 have := in_u h1; have := in_u h2
 apply decide_eq_decide.2
 unfold cmp4 cmp2 nn
 repeat' split
 all_goals omega
theorem cmp4_le {a0 a1 b0 b1 : Int} (h1 : inK (some .u64) a1) (h2 : inK (some .u64) b1) : decide (cmp4 a0 a1 b0 b1 ≤ 0) = decide (nn a0 a1 ≤ nn b0 b1) := by
 have := in_u h1; have := in_u h2
 apply decide_eq_decide.2
 unfold cmp4 cmp2 nn
 repeat' split
 all_goals omega
theorem cmp4_in (a b c d : Int) : inK (some .i64) (cmp4 a b c d) := by unfold cmp4; split <;> exact cmp2_in _ _
def inF (a0 a1 lo hi : Int) : Bool := mayN a0 a1 && (decide (lo ≤ nn a0 a1) && decide (nn a0 a1 ≤ hi))
end Go.Proofs.Ytedfbamihjnhhaa.Own
end
section
namespace Go.Proofs.Ytedfbamihjnhhaa.Own
open Go Go.RowKit Go.Proofs Go.Proofs.Ytedfbamihjnhhaa.Plain
set_option linter.unusedVariables false
set_option linter.unusedSectionVars false
set_option linter.unusedSimpArgs false
set_option maxRecDepth 100000
theorem find_all {T : RT} {F : Nat → List Int → List Int} {zs : List Int} {n e : Nat} {w : List Int} (step : ∀ t, t < n → T.get (envOf F (zs ++ [(t : Int)])) = (none, zs ++ [((t + 1 : Nat) : Int)])) (out : T.get (envOf F (zs ++ [(n : Int)])) = (some e, w)) :
  ∀ (k t j : Nat), t + k = n + 1 → 0 < k → runL (fun _ => T) F j k (zs ++ [(t : Int)]) = some (e, w)
 | 0, _, _, _, h => by omega
 | k + 1, t, j, h, _ => by
  by_cases ht : t < n
  ·have := find_all step out k (t + 1) (j + 1) (by omega) (by omega)
   simp only [runL, step t ht]; exact this
  ·have : t = n := by omega
   subst this
   simp only [runL, out]
def rtQ1 : RT → SE
 | .know _ _ t => rtQ1 t
 | .ask q _ _ => q
 | _ => .nil
def rtQ : RT → SE
 | .ask _ t _ => rtQ1 t
 | _ => .nil
theorem lss_val {F : Nat → List Int → List Int} {zs : List Int} {c t n lv : Nat} (hc : zs.getD c 0 = (t : Int)) (hl : (dec (zs.getD lv 0)).length = n) (hn : n ≤ 1000000) (ht : t ≤ n) : ((SE.cmp .lss (.ivar .i64 c) (.len (.lvar lv))).val (envOf F zs) != 0) = decide (t < n) :=
 lss_at (iv_at hc (by omega)) (len_at hl (le_max hn))
theorem map2_at {F : Nat → List Int → List Int} {a b : Int} {t : Nat} (ht : t ≤ 1000000) : ([(.lvar 0), (.lvar 1), (.bin .add .i64 (.ivar .i64 2) (.lit .i64 1))] : List SE).map (SE.val (envOf F ([a, b] ++ [(t : Int)]))) = [a, b] ++ [((t + 1 : Nat) : Int)] := by
 have h := add_at (F := F) (xs := [a, b] ++ [(t : Int)]) (c := 2) (i := t) (k := 1) rfl (by omega)
 have h : (SE.bin .add .i64 (.ivar .i64 2) (.lit .i64 1)).val (envOf F ([a, b] ++ [(t : Int)])) = ((t + 1 : Nat) : Int) := h
 simp only [List.map, lvar_at, h]; rfl
theorem map4_at {F : Nat → List Int → List Int} {a b c d : Int} {t : Nat} (ht : t ≤ 1000000) : ([(.lvar 0), (.lvar 1), (.lvar 2), (.lvar 3), (.bin .add .i64 (.ivar .i64 4) (.lit .i64 1))] : List SE).map (SE.val (envOf F ([a, b, c, d] ++ [(t : Int)]))) = [a, b, c, d] ++ [((t + 1 : Nat) : Int)] := by
 have h := add_at (F := F) (xs := [a, b, c, d] ++ [(t : Int)]) (c := 4) (i := t) (k := 1) rfl (by omega)
 have h : (SE.bin .add .i64 (.ivar .i64 4) (.lit .i64 1)).val (envOf F ([a, b, c, d] ++ [(t : Int)])) = ((t + 1 : Nat) : Int) := h
 simp only [List.map, lvar_at, h]; rfl
theorem et_get (E : Env) : etT.get E = bif (SE.cmp .lss (.ivar .i64 2) (.len (.lvar 0))).val E != 0 then (bif (rtQ etT).val E != 0 then (some 0, []) else (none, ([(.lvar 0), (.lvar 1), (.bin .add .i64 (.ivar .i64 2) (.lit .i64 1))] : List SE).map (SE.val E))) else (some 1, ([(.lvar 0), (.lvar 1)] : List SE).map (SE.val E)) := rfl
theorem er_get (E : Env) : erT.get E = bif (SE.cmp .lss (.ivar .i64 2) (.len (.lvar 0))).val E != 0 then (bif (rtQ erT).val E != 0 then (some 0, []) else (none, ([(.lvar 0), (.lvar 1), (.bin .add .i64 (.ivar .i64 2) (.lit .i64 1))] : List SE).map (SE.val E))) else (some 1, ([(.lvar 0), (.lvar 1)] : List SE).map (SE.val E)) := rfl
theorem ei_get (E : Env) : eiT.get E = bif (SE.cmp .lss (.ivar .i64 2) (.len (.lvar 0))).val E != 0 then (bif (rtQ eiT).val E != 0 then (some 0, []) else (none, ([(.lvar 0), (.lvar 1), (.bin .add .i64 (.ivar .i64 2) (.lit .i64 1))] : List SE).map (SE.val E))) else (some 1, ([(.lvar 0), (.lvar 1)] : List SE).map (SE.val E)) := rfl
theorem eb2_get (E : Env) : eb2T.get E = bif (SE.cmp .lss (.ivar .i64 4) (.len (.lvar 0))).val E != 0 then (bif (rtQ eb2T).val E != 0 then (some 0, []) else (none, ([(.lvar 0), (.lvar 1), (.lvar 2), (.lvar 3), (.bin .add .i64 (.ivar .i64 4) (.lit .i64 1))] : List SE).map (SE.val E))) else (some 1, ([(.lvar 0), (.lvar 1)] : List SE).map (SE.val E)) := rfl
theorem ib2_get (E : Env) : ib2T.get E = bif (SE.cmp .lss (.ivar .i64 2) (.len (.lvar 0))).val E != 0 then (bif (rtQ ib2T).val E != 0 then (some 0, ([(.ivar .i64 2)] : List SE).map (SE.val E)) else (none, ([(.lvar 0), (.lvar 1), (.bin .add .i64 (.ivar .i64 2) (.lit .i64 1))] : List SE).map (SE.val E))) else (some 1, ([(.lvar 0)] : List SE).map (SE.val E)) := rfl
theorem l_00 {e : Env} : (SE.lit .i64 0).val e = 0 := by simp only [SE.val]; rfl
theorem et_q (F : Nat → List Int → List Int) (a t : Int) : ((rtQ etT).val (envOf F ([a, a] ++ [t])) != 0) = false := by
 have l1 : (SE.lvar 1).val (envOf F ([a, a] ++ [t])) = (SE.lvar 0).val (envOf F ([a, a] ++ [t])) := by rw [lvar_at, lvar_at]; rfl
 simp [etT, rtQ, rtQ1, SE.val, valCmp, b2i] at l1 ⊢
 simp [l1]
theorem et_self (F : Nat → List Int → List Int) (a : Int) (hn : (dec a).length ≤ 1000000) : ∃ w, etG F [a, a] = 1 :: w := by
 have hs := lvar_at (F := F) (xs := [a, a]) (lv := 0)
 have h0 : etI.map (SE.val (envOf F [a, a])) = [a, a] ++ [((0 : Nat) : Int)] := by
  simp only [etI, List.map, lvar_at, l_00]; rfl
 have hl : ∀ t : Nat, t ≤ (dec a).length → ((SE.cmp .lss (.ivar .i64 2) (.len (.lvar 0))).val (envOf F ([a, a] ++ [(t : Int)])) != 0) = decide (t < (dec a).length) := fun t ht => lss_val (c := 2) (lv := 0) rfl rfl hn ht
 have st : ∀ t, t < (dec a).length → etT.get (envOf F ([a, a] ++ [(t : Int)])) = (none, [a, a] ++ [((t + 1 : Nat) : Int)]) := fun t ht => by
  rw [et_get, hl t (by omega), decide_eq_true ht, cond_true, et_q, cond_false, map2_at (by omega)]
 have ot : etT.get (envOf F ([a, a] ++ [((dec a).length : Int)])) = (some 1, ([(.lvar 0), (.lvar 1)] : List SE).map (SE.val (envOf F ([a, a] ++ [((dec a).length : Int)])))) := by
  rw [et_get, hl _ (Nat.le_refl _), decide_eq_false (by omega), cond_false]
 have := find_all (T := etT) (F := F) (zs := [a, a]) st ot ((dec a).length + 1) 0 0 (by omega) (by omega)
 refine ⟨([(.lvar 0), (.lvar 1)] : List SE).map (SE.val (envOf F ([a, a] ++ [((dec a).length : Int)]))), ?_⟩
 unfold etG lpFn etU
 rw [h0]
 rw [show (dec ([a, a].getD 0 0)).length + 1 = (dec a).length + 1 from rfl, this]
 rfl
theorem er_q (F : Nat → List Int → List Int) (a t : Int) : ((rtQ erT).val (envOf F ([a, a] ++ [t])) != 0) = false := by
 have l1 : (SE.lvar 1).val (envOf F ([a, a] ++ [t])) = (SE.lvar 0).val (envOf F ([a, a] ++ [t])) := by rw [lvar_at, lvar_at]; rfl
 simp [erT, rtQ, rtQ1, SE.val, valCmp, b2i] at l1 ⊢
 simp [l1]
theorem er_self (F : Nat → List Int → List Int) (a : Int) (hn : (dec a).length ≤ 1000000) : ∃ w, erG F [a, a] = 1 :: w := by
 have hs := lvar_at (F := F) (xs := [a, a]) (lv := 0)
 have h0 : erI.map (SE.val (envOf F [a, a])) = [a, a] ++ [((0 : Nat) : Int)] := by
  simp only [erI, List.map, lvar_at, l_00]; rfl
 have hl : ∀ t : Nat, t ≤ (dec a).length → ((SE.cmp .lss (.ivar .i64 2) (.len (.lvar 0))).val (envOf F ([a, a] ++ [(t : Int)])) != 0) = decide (t < (dec a).length) := fun t ht => lss_val (c := 2) (lv := 0) rfl rfl hn ht
 have st : ∀ t, t < (dec a).length → erT.get (envOf F ([a, a] ++ [(t : Int)])) = (none, [a, a] ++ [((t + 1 : Nat) : Int)]) := fun t ht => by
  rw [er_get, hl t (by omega), decide_eq_true ht, cond_true, er_q, cond_false, map2_at (by omega)]
 have ot : erT.get (envOf F ([a, a] ++ [((dec a).length : Int)])) = (some 1, ([(.lvar 0), (.lvar 1)] : List SE).map (SE.val (envOf F ([a, a] ++ [((dec a).length : Int)])))) := by
  rw [er_get, hl _ (Nat.le_refl _), decide_eq_false (by omega), cond_false]
 have := find_all (T := erT) (F := F) (zs := [a, a]) st ot ((dec a).length + 1) 0 0 (by omega) (by omega)
 refine ⟨([(.lvar 0), (.lvar 1)] : List SE).map (SE.val (envOf F ([a, a] ++ [((dec a).length : Int)]))), ?_⟩
 unfold erG lpFn erU
 rw [h0]
 rw [show (dec ([a, a].getD 0 0)).length + 1 = (dec a).length + 1 from rfl, this]
 rfl
theorem ei_q (F : Nat → List Int → List Int) (a t : Int) : ((rtQ eiT).val (envOf F ([a, a] ++ [t])) != 0) = false := by
 have l1 : (SE.lvar 1).val (envOf F ([a, a] ++ [t])) = (SE.lvar 0).val (envOf F ([a, a] ++ [t])) := by rw [lvar_at, lvar_at]; rfl
 simp [eiT, rtQ, rtQ1, SE.val, valCmp, b2i] at l1 ⊢
 simp [l1]
theorem ei_self (F : Nat → List Int → List Int) (a : Int) (hn : (dec a).length ≤ 1000000) : ∃ w, eiG F [a, a] = 1 :: w := by
 have hs := lvar_at (F := F) (xs := [a, a]) (lv := 0)
 have h0 : eiI.map (SE.val (envOf F [a, a])) = [a, a] ++ [((0 : Nat) : Int)] := by
  simp only [eiI, List.map, lvar_at, l_00]; rfl
 have hl : ∀ t : Nat, t ≤ (dec a).length → ((SE.cmp .lss (.ivar .i64 2) (.len (.lvar 0))).val (envOf F ([a, a] ++ [(t : Int)])) != 0) = decide (t < (dec a).length) := fun t ht => lss_val (c := 2) (lv := 0) rfl rfl hn ht
 have st : ∀ t, t < (dec a).length → eiT.get (envOf F ([a, a] ++ [(t : Int)])) = (none, [a, a] ++ [((t + 1 : Nat) : Int)]) := fun t ht => by
  rw [ei_get, hl t (by omega), decide_eq_true ht, cond_true, ei_q, cond_false, map2_at (by omega)]
 have ot : eiT.get (envOf F ([a, a] ++ [((dec a).length : Int)])) = (some 1, ([(.lvar 0), (.lvar 1)] : List SE).map (SE.val (envOf F ([a, a] ++ [((dec a).length : Int)])))) := by
  rw [ei_get, hl _ (Nat.le_refl _), decide_eq_false (by omega), cond_false]
 have := find_all (T := eiT) (F := F) (zs := [a, a]) st ot ((dec a).length + 1) 0 0 (by omega) (by omega)
 refine ⟨([(.lvar 0), (.lvar 1)] : List SE).map (SE.val (envOf F ([a, a] ++ [((dec a).length : Int)]))), ?_⟩
 unfold eiG lpFn eiU
 rw [h0]
 rw [show (dec ([a, a].getD 0 0)).length + 1 = (dec a).length + 1 from rfl, this]
 rfl
theorem eb2_q (F : Nat → List Int → List Int) (l b t : Int) : ((rtQ eb2T).val (envOf F ([l, l, b, b] ++ [t])) != 0) = false := by
 have l1 : (SE.lvar 3).val (envOf F ([l, l, b, b] ++ [t])) = (SE.lvar 2).val (envOf F ([l, l, b, b] ++ [t])) := by rw [lvar_at, lvar_at]; rfl
 simp [eb2T, rtQ, rtQ1, SE.val, valCmp, b2i] at l1 ⊢
 simp [l1]
theorem eb2_lss (F : Nat → List Int → List Int) (l1 l2 b1 b2 : Int) (hn : (dec l1).length ≤ 1000000) (t : Nat) (ht : t ≤ (dec l1).length) : ((SE.cmp .lss (.ivar .i64 4) (.len (.lvar 0))).val (envOf F ([l1, l2, b1, b2] ++ [(t : Int)])) != 0) = decide (t < (dec l1).length) := lss_val (c := 4) (lv := 0) rfl rfl hn ht
theorem eb2_init (F : Nat → List Int → List Int) (l1 l2 b1 b2 : Int) : eb2I.map (SE.val (envOf F [l1, l2, b1, b2])) = [l1, l2, b1, b2] ++ [((0 : Nat) : Int)] := by
 simp only [eb2I, List.map, lvar_at, l_00]; rfl
theorem eb2_self (F : Nat → List Int → List Int) (l b : Int) (hn : (dec l).length ≤ 1000000) : ∃ w, eb2G F [l, l, b, b] = 1 :: w := by
 have hl := eb2_lss F l l b b hn
 have st : ∀ t, t < (dec l).length → eb2T.get (envOf F ([l, l, b, b] ++ [(t : Int)])) = (none, [l, l, b, b] ++ [((t + 1 : Nat) : Int)]) := fun t ht => by
  rw [eb2_get, hl t (by omega), decide_eq_true ht, cond_true, eb2_q, cond_false, map4_at (by omega)]
 have ot : eb2T.get (envOf F ([l, l, b, b] ++ [((dec l).length : Int)])) = (some 1, ([(.lvar 0), (.lvar 1)] : List SE).map (SE.val (envOf F ([l, l, b, b] ++ [((dec l).length : Int)])))) := by
  rw [eb2_get, hl _ (Nat.le_refl _), decide_eq_false (by omega), cond_false]
 have := find_all (T := eb2T) (F := F) (zs := [l, l, b, b]) st ot ((dec l).length + 1) 0 0 (by omega) (by omega)
 refine ⟨([(.lvar 0), (.lvar 1)] : List SE).map (SE.val (envOf F ([l, l, b, b] ++ [((dec l).length : Int)]))), ?_⟩
 unfold eb2G lpFn eb2U
 rw [eb2_init]
 rw [show (dec ([l, l, b, b].getD 0 0)).length + 1 = (dec l).length + 1 from rfl, this]
 rfl
theorem mr_get (E : Env) : mrT.get E = bif (SE.cmp .lss (.ivar .i64 1) (.len (.lvar 0))).val E != 0 then (bif (rtQ mrT).val E != 0 then (some 0, []) else (none, ([(.lvar 0), (.bin .add .i64 (.ivar .i64 1) (.lit .i64 1))] : List SE).map (SE.val E))) else (some 1, ([(.lvar 0)] : List SE).map (SE.val E)) := rfl
end Go.Proofs.Ytedfbamihjnhhaa.Own
end
