/- A walk by reckoning: loops with a law of what stays (J i: behind i rounds). -/
/- A walk by reckoning: what rounds of loops ask, and what they make. -/
import Derived.Test.YtedfbamihjnhhaaFvV
section
namespace Go.Proofs.Ytedfbamihjnhhaa.Own
open Go Go.RowKit Go.Proofs
set_option linter.unusedVariables false
theorem inv_ok {T : RT} {F : Nat → List Int → List Int} (J : Nat → List Int → Prop) (N : Nat) (hok : ∀ i xs, i ≤ N → J i xs → T.ok (envOf F xs)) (hnx : ∀ i xs ys, i ≤ N → J i xs → T.get (envOf F xs) = (none, ys) → i < N ∧ J (i + 1) ys) :
  ∀ (k i j : Nat) (xs : List Int), i + k = N + 1 → 0 < k → J i xs → RunOK (fun _ => T) F j k xs
 | 0, _, _, _, _, hk, _ => by omega
 | k + 1, i, j, xs, hik, _, hj => by
  refine ⟨hok i xs (by omega) hj, fun ys hy => ?_⟩
  obtain ⟨h1, h2⟩ := hnx i xs ys (by omega) hj hy
  exact inv_ok J N hok hnx k (i + 1) (j + 1) ys (by omega) (by omega) h2
theorem inv_run {T : RT} {F : Nat → List Int → List Int} (J : Nat → List Int → Prop) (N : Nat) (R : Nat → List Int → Prop) (hnx : ∀ i xs ys, i ≤ N → J i xs → T.get (envOf F xs) = (none, ys) → i < N ∧ J (i + 1) ys) (hout : ∀ i xs e ys, i ≤ N → J i xs → T.get (envOf F xs) = (some e, ys) → R e ys) :
  ∀ (k i j : Nat) (xs : List Int), i + k = N + 1 → 0 < k → J i xs → ∃ e ys, runL (fun _ => T) F j k xs = some (e, ys) ∧ R e ys
 | 0, _, _, _, _, hk, _ => by omega
 | k + 1, i, j, xs, hik, _, hj => by
  have hn : ∃ e ys, T.get (envOf F xs) = (e, ys) := ⟨_, _, rfl⟩
  obtain ⟨e, ys, he⟩ := hn
  cases e with
  | none =>
   obtain ⟨h1, h2⟩ := hnx i xs ys (by omega) hj he
   obtain ⟨e', zs, g1, g2⟩ := inv_run J N R hnx hout k (i + 1) (j + 1) ys (by omega) (by omega) h2
   exact ⟨e', zs, by simp only [runL, he]; exact g1, g2⟩
  | some e => exact ⟨e, ys, by simp only [runL, he], hout i xs e ys (by omega) hj he⟩
end Go.Proofs.Ytedfbamihjnhhaa.Own
end
section
namespace Go.Proofs.Ytedfbamihjnhhaa.Own
open Go Go.RowKit Go.Proofs
set_option linter.unusedVariables false
section
variable {E : Env}
theorem ask_next {x : SE} {t : RT} {o : Nat} {zs : List SE} {ys : List Int} (h : (RT.ask x t (.out o zs)).get E = (none, ys)) : (x.val E != 0) = true ∧ t.get E = (none, ys) := by
 simp only [RT.get] at h
 cases hx : (x.val E != 0) with
 | true => rw [hx, cond_true] at h; exact ⟨rfl, h⟩
 | false => rw [hx, cond_false] at h; cases h
theorem next_next {zs : List SE} {ys : List Int} (h : (RT.next zs).get E = (none, ys)) : ys = zs.map (SE.val E) := by
 simp only [RT.get] at h; cases h; rfl
theorem ask_out {x : SE} {t : RT} {o e : Nat} {zs : List SE} {ys : List Int} (h : (RT.ask x t (.out o zs)).get E = (some e, ys)) : ((x.val E != 0) = false ∧ e = o ∧ ys = zs.map (SE.val E)) ∨ ((x.val E != 0) = true ∧ t.get E = (some e, ys)) := by
 simp only [RT.get] at h
 cases hx : (x.val E != 0) with
 | true => rw [hx, cond_true] at h; exact .inr ⟨rfl, h⟩
 | false => rw [hx, cond_false] at h; cases h; exact .inl ⟨rfl, rfl, rfl⟩
theorem next_out {zs : List SE} {e : Nat} {ys : List Int} (h : (RT.next zs).get E = (some e, ys)) : False := by
 simp only [RT.get] at h; cases h
theorem ok_ask {x : SE} {t : RT} {o : Nat} {zs : List SE} (h : (x.val E != 0) = true → t.ok E) : (RT.ask x t (.out o zs)).ok E := ⟨h, fun _ => trivial⟩
end
section
variable {F : Nat → List Int → List Int} {xs : List Int}
theorem iv_at {c : Nat} {i : Nat} (hc : xs.getD c 0 = (i : Int)) (hi : i ≤ 1000000000000000000) : (SE.ivar .i64 c).val (envOf F xs) = (i : Int) := by
 have e1 : (envOf F xs).iv c = (i : Int) := hc
 simp only [SE.val, e1, IntKind.wrap_i64]; omega
theorem add_at {c : Nat} {i k : Nat} (hc : xs.getD c 0 = (i : Int)) (hi : i + k ≤ 1000000000000000000) : (SE.bin .add .i64 (.ivar .i64 c) (.lit .i64 (k : Int))).val (envOf F xs) = ((i + k : Nat) : Int) := by
 have e := iv_at (F := F) hc (by omega)
 have e2 : (SE.bin .add .i64 (.ivar .i64 c) (.lit .i64 (k : Int))).val (envOf F xs) = IntKind.i64.wrap ((SE.ivar .i64 c).val (envOf F xs) + IntKind.i64.wrap (k : Int)) := by simp only [SE.val, valBin]
 rw [e2, e]; simp only [IntKind.wrap_i64]; omega
theorem len_at {lv n : Nat} (hl : (dec (xs.getD lv 0)).length = n) (hn : n ≤ maxLen) : (SE.len (.lvar lv)).val (envOf F xs) = (n : Int) := by
 have e2 : (envOf F xs).iv lv = xs.getD lv 0 := rfl
 simp only [SE.val, e2, hl]
 rw [sat_of hn]
theorem lit_at {k : Nat} (hk : k ≤ 1000000000000000000) : (SE.lit .i64 (k : Int)).val (envOf F xs) = (k : Int) := by
 simp only [SE.val, IntKind.wrap_i64]; omega
theorem lss_at {a b : SE} {x y : Nat} (ha : a.val (envOf F xs) = (x : Int)) (hb : b.val (envOf F xs) = (y : Int)) : ((SE.cmp .lss a b).val (envOf F xs) != 0) = decide (x < y) := by
 simp only [SE.val, b2i_ne, valCmp, ha, hb]
 apply decide_eq_decide.2; omega
theorem gtr_at {a b : SE} {x y : Nat} (ha : a.val (envOf F xs) = (x : Int)) (hb : b.val (envOf F xs) = (y : Int)) : ((SE.cmp .gtr a b).val (envOf F xs) != 0) = decide (y < x) := by
 simp only [SE.val, b2i_ne, valCmp, ha, hb]
 apply decide_eq_decide.2; omega
theorem geq_at {a b : SE} {x y : Nat} (ha : a.val (envOf F xs) = (x : Int)) (hb : b.val (envOf F xs) = (y : Int)) : ((SE.cmp .geq a b).val (envOf F xs) != 0) = decide (y ≤ x) := by
 simp only [SE.val, b2i_ne, valCmp, ha, hb]
 apply decide_eq_decide.2; omega
theorem leq_at {a b : SE} {x y : Nat} (ha : a.val (envOf F xs) = (x : Int)) (hb : b.val (envOf F xs) = (y : Int)) : ((SE.cmp .leq a b).val (envOf F xs) != 0) = decide (x ≤ y) := by
 simp only [SE.val, b2i_ne, valCmp, ha, hb]
 apply decide_eq_decide.2; omega
theorem of_lss {a b : SE} {x y : Nat} (h : ((SE.cmp .lss a b).val (envOf F xs) != 0) = true) (ha : a.val (envOf F xs) = (x : Int)) (hb : b.val (envOf F xs) = (y : Int)) : x < y := by
 rw [lss_at ha hb] at h; exact of_decide_eq_true h
theorem of_gtr {a b : SE} {x y : Nat} (h : ((SE.cmp .gtr a b).val (envOf F xs) != 0) = true) (ha : a.val (envOf F xs) = (x : Int)) (hb : b.val (envOf F xs) = (y : Int)) : y < x := by
 rw [gtr_at ha hb] at h; exact of_decide_eq_true h
noncomputable def byt (l : Int) (i : Nat) : Int := IntKind.u8.wrap (((dec l).getD i []).getD 0 0)
theorem byt_in (l : Int) (i : Nat) : 0 ≤ byt l i ∧ byt l i < 256 := by
 unfold byt; rw [IntKind.wrap_u8]; omega
theorem el_byt {lv : Nat} {a : SE} {i : Nat} (ha : a.val (envOf F xs) = (i : Int)) : (SE.el (some .u8) (.lvar lv) a 0).val (envOf F xs) = byt (xs.getD lv 0) i := by
 have e2 : (envOf F xs).iv lv = xs.getD lv 0 := rfl
 simp only [SE.val, ha, e2, wrK, byt, Int.toNat_natCast]
theorem lcat_at {lv : Nat} {as : SE} : (SE.lcat (.lvar lv) (.lone as)).val (envOf F xs) = enc (dec (xs.getD lv 0) ++ [as.vals (envOf F xs)]) := by
 have e2 : (envOf F xs).iv lv = xs.getD lv 0 := rfl
 simp only [SE.val, e2, dec_enc]
theorem len_sat {lv : Nat} : (SE.len (.lvar lv)).val (envOf F xs) = ((sat (dec (xs.getD lv 0)).length : Nat) : Int) := by
 have e2 : (envOf F xs).iv lv = xs.getD lv 0 := rfl
 simp only [SE.val, e2]
theorem lset_at {x : SE} {a : SE} {i off : Nat} {as : SE} (ha : a.val (envOf F xs) = (i : Int)) : (SE.lset x a off as).val (envOf F xs) = enc (setL (dec (x.val (envOf F xs))) i off (as.vals (envOf F xs))) := by
 simp only [SE.val, ha, Int.toNat_natCast]
theorem lvar_at {lv : Nat} : (SE.lvar lv).val (envOf F xs) = xs.getD lv 0 := by
 simp only [SE.val]; rfl
end
theorem setL_at {l : List (List Int)} {i : Nat} (h : i < l.length) (off : Nat) (as : List Int) : (setL l i off as).getD i [] = setRow (l.getD i []) off as := by
 unfold setL
 rw [List.getD_eq_getElem?_getD, List.getElem?_set_self h]; rfl
theorem setL_ne {l : List (List Int)} {i j : Nat} (h : j ≠ i) (off : Nat) (as : List Int) : (setL l i off as).getD j [] = l.getD j [] := by
 unfold setL
 rw [List.getD_eq_getElem?_getD, List.getElem?_set_ne (Ne.symm h), ← List.getD_eq_getElem?_getD]
theorem setL_two {l : List (List Int)} {i : Nat} (h : i < l.length) (o1 o2 : Nat) (a1 a2 : List Int) : setL (setL l i o1 a1) i o2 a2 = l.set i (setRow (setRow (l.getD i []) o1 a1) o2 a2) := by
 have e := setL_at h o1 a1
 unfold setL at e ⊢
 rw [e, List.set_set]
theorem map_step {f : List Int → List Int} (L : List (List Int)) (t : Nat) (h : t < L.length) : ((L.take t).map f ++ L.drop t).set t (f (((L.take t).map f ++ L.drop t).getD t [])) = (L.take (t + 1)).map f ++ L.drop (t + 1) := by
 have hl : ((L.take t).map f).length = t := by simp; omega
 have hd : L.drop t = L[t] :: L.drop (t + 1) := List.drop_eq_getElem_cons h
 have hg : ((L.take t).map f ++ L.drop t).getD t [] = L[t] := by
  rw [List.getD_eq_getElem?_getD, List.getElem?_append_right (by omega), hl, Nat.sub_self, hd]; rfl
 have e : (L.take (t + 1)).map f = (L.take t).map f ++ [f L[t]] := by rw [List.take_add_one, List.getElem?_eq_getElem h, List.map_append]; rfl
 rw [hg, hd, List.set_append_right _ _ (by omega), hl, Nat.sub_self, List.set_cons_zero, e, List.append_assoc]; rfl
theorem map_len {f : List Int → List Int} (L : List (List Int)) (t : Nat) (h : t ≤ L.length) : ((L.take t).map f ++ L.drop t).length = L.length := by simp; omega
end Go.Proofs.Ytedfbamihjnhhaa.Own
end
