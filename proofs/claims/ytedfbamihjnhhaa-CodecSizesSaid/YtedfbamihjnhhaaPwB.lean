/- Numbers as eight bytes: terms, and a loop that lays a row's numbers behind what is there. -/
/- Numbers as eight bytes: the loop, where the slice's list and its block's are told apart. -/
import Derived.Test.YtedfbamihjnhhaaFvX
import Derived.Test.YtedfbamihjnhhaaFvJ
section
namespace Go.Proofs.Ytedfbamihjnhhaa.Own
open Go Go.RowKit Go.Proofs
set_option linter.unusedVariables false
set_option linter.unusedSimpArgs false
def b8 (x : SE) (n : Int) : SE := .lone (.cons (.conv .u8 (.bin .shr .u64 x (.lit .i64 n))) .nil)
def w8 (x : SE) : SE := .lcat (b8 x 56) (.lcat (b8 x 48) (.lcat (b8 x 40) (.lcat (b8 x 32) (.lcat (b8 x 24) (.lcat (b8 x 16) (.lcat (b8 x 8) (b8 x 0)))))))
def wcat : SE → List SE → SE
 | t, [] => t
 | t, x :: xs => wcat (.lcat t (w8 x)) xs
def be1 (n s : Int) : List Int := [IntKind.u8.wrap (valBin .shr .u64 n (IntKind.i64.wrap s))]
def be8 (n : Int) : List (List Int) := [be1 n 56, be1 n 48, be1 n 40, be1 n 32, be1 n 24, be1 n 16, be1 n 8, be1 n 0]
theorem be8_len (n : Int) : (be8 n).length = 8 := rfl
theorem b8_lst {e : Env} (x : SE) (n : Int) : (b8 x n).lst e = [be1 (x.val e) n] := by
 unfold b8; rw [lst_lone]; simp only [SE.vals, SE.val, be1]
theorem w8_lst {e : Env} (x : SE) : (w8 x).lst e = be8 (x.val e) := by
 unfold w8; simp only [lst_lcat, b8_lst]; rfl
theorem wcat_lst {e : Env} : ∀ (xs : List SE) (t : SE), (wcat t xs).lst e = t.lst e ++ xs.flatMap fun x => be8 (x.val e)
 | [], t => by simp [wcat]
 | x :: xs, t => by rw [wcat, wcat_lst xs, lst_lcat, w8_lst, List.append_assoc]; rfl
def fT (p : Bool × Nat) : SE := match p.1 with | true => .el (some .u64) (.lvar 0) (.ivar .i64 2) p.2 | false => .conv .u64 (.el (some .i64) (.lvar 0) (.ivar .i64 2) p.2)
def fld (p : Bool × Nat) (el : List Int) : Int := match p.1 with | true => IntKind.u64.wrap (el.getD p.2 0) | false => IntKind.u64.wrap (IntKind.i64.wrap (el.getD p.2 0))
def rowB (fs : List (Bool × Nat)) (el : List Int) : List (List Int) := fs.flatMap fun p => be8 (fld p el)
theorem rowB_len (fs : List (Bool × Nat)) (el : List Int) : (rowB fs el).length = 8 * fs.length := by
 induction fs with
 | nil => rfl
 | cons p fs ih => simp only [rowB, List.flatMap_cons, List.length_append, be8_len, List.length_cons] at ih ⊢; rw [ih]; omega
def rowsB (fs : List (Bool × Nat)) (l : List (List Int)) : List (List Int) := l.flatMap (rowB fs)
theorem rowsB_len (fs : List (Bool × Nat)) (l : List (List Int)) : (rowsB fs l).length = 8 * fs.length * l.length := by
 induction l with
 | nil => rfl
 | cons p l ih => simp only [rowsB, List.flatMap_cons, List.length_append, rowB_len, List.length_cons] at ih ⊢; rw [ih, Nat.mul_add]; omega
def pwT (fs : List (Bool × Nat)) : RT := .ask (.cmp .lss (.ivar .i64 2) (.len (.lvar 0)))
 (.know (.cmp .geq (.ivar .i64 2) (.lit .i64 0)) true (.know (.cmp .leq (.len (.lvar 1)) (.lit .i64 1000000)) true (.know (.cmp .leq (.len (.lvar 1)) (.lit .i64 100000)) true (.next [.lvar 0, wcat (.lvar 1) (fs.map fT), .bin .add .i64 (.ivar .i64 2) (.lit .i64 1)]))))
 (.out 0 [.lvar 0, .lvar 1])
def pwI : List SE := [.lvar 0, .lvar 1, .lit .i64 0]
def pwPre : List (SE × Bool) := [(.cmp .leq (.len (.lvar 0)) (.lit .i64 400), true), (.cmp .leq (.len (.lvar 1)) (.lit .i64 20000), true)]
noncomputable def pwU (xs : List Int) : Nat := (dec (xs.getD 0 0)).length + 1
noncomputable def pwG (fs : List (Bool × Nat)) : (Nat → List Int → List Int) → List Int → List Int := lpFn pwI (fun _ => pwT fs) pwU
def pwJ (fs : List (Bool × Nat)) (x0 y0 : Int) (i : Nat) (ys : List Int) : Prop := ys.getD 0 0 = x0 ∧ ys.getD 2 0 = (i : Int) ∧ dec (ys.getD 1 0) = dec y0 ++ rowsB fs ((dec x0).take i) ∧ i ≤ (dec x0).length
theorem wcat_val {e : Env} : ∀ (xs : List SE) (t : SE), t.val e = enc (t.lst e) → (wcat t xs).val e = enc ((wcat t xs).lst e)
 | [], t, h => h
 | x :: xs, t, h => wcat_val xs _ (by simp only [SE.lst, SE.val, dec_enc])
theorem rowsB_succ (fs : List (Bool × Nat)) (l : List (List Int)) (i : Nat) (h : i < l.length) : rowsB fs (l.take (i + 1)) = rowsB fs (l.take i) ++ rowB fs (l.getD i []) := by
 rw [List.take_add_one, List.getD_eq_getElem?_getD, List.getElem?_eq_getElem h]
 simp only [rowsB, List.flatMap_append, Option.toList_some, List.flatMap_cons, List.flatMap_nil, List.append_nil, Option.getD_some]
section
variable {F : Nat → List Int → List Int} {fs : List (Bool × Nat)} {x0 y0 : Int}
theorem fT_val {ys : List Int} {i : Nat} (h1 : ys.getD 0 0 = x0) (h2 : ys.getD 2 0 = (i : Int)) (hi : i ≤ 400) (p : Bool × Nat) : (fT p).val (envOf F ys) = fld p ((dec x0).getD i []) := by
 have e1 : (envOf F ys).iv 0 = x0 := h1
 have e2 : (envOf F ys).iv 2 = (i : Int) := h2
 have e3 : (IntKind.i64.wrap (i : Int)).toNat = i := by rw [i64_nat (by unfold maxLen; omega)]; rfl
 obtain ⟨b, j⟩ := p
 cases b with
 | true => simp only [fT, fld, SE.val, wrK, e1, e2, e3]
 | false => simp only [fT, fld, SE.val, wrK, e1, e2, e3]
theorem pw_get {i : Nat} {ys : List Int} (hfs : fs ≠ []) (hN : (dec x0).length ≤ 400) (h : pwJ fs x0 y0 i ys) :
  (pwT fs).get (envOf F ys) = if i < (dec x0).length then (none, [x0, enc (dec y0 ++ rowsB fs ((dec x0).take (i + 1))), ((i + 1 : Nat) : Int)]) else (some 0, [x0, ys.getD 1 0]) := by
 obtain ⟨h1, h2, h3, h4⟩ := h
 have e0 : (envOf F ys).iv 0 = x0 := h1
 have e1 : (envOf F ys).iv 1 = ys.getD 1 0 := rfl
 have e2 : (envOf F ys).iv 2 = (i : Int) := h2
 have e3 : IntKind.i64.wrap (i : Int) = (i : Int) := i64_nat (by unfold maxLen; omega)
 have c : ((SE.cmp .lss (.ivar .i64 2) (.len (.lvar 0))).val (envOf F ys) != 0) = decide (i < (dec x0).length) := by
  simp only [SE.val, b2i_ne, valCmp, e0, e2, e3]
  rw [sat_of (by unfold maxLen; omega)]
  by_cases q : i < (dec x0).length
  ·rw [decide_eq_true q, decide_eq_true (by omega)]
  ·rw [decide_eq_false q, decide_eq_false (by omega)]
 unfold pwT
 simp only [RT.get, c]
 by_cases q : i < (dec x0).length
 ·rw [if_pos q, decide_eq_true q, cond_true]
  have hw : (wcat (.lvar 1) (fs.map fT)).val (envOf F ys) = enc (dec y0 ++ rowsB fs ((dec x0).take (i + 1))) := by
   cases fs with
   | nil => exact absurd rfl hfs
   | cons p fs =>
    rw [List.map_cons, wcat, wcat_val _ _ (by simp only [SE.lst, SE.val, dec_enc]), wcat_lst, lst_lcat, w8_lst, rowsB_succ _ _ _ q, fT_val h1 h2 (by omega)]
    have hl : (SE.lvar 1).lst (envOf F ys) = dec (ys.getD 1 0) := by simp only [SE.lst, SE.val, e1]
    rw [hl, h3, List.flatMap_map]
    simp only [fT_val h1 h2 (by omega : i ≤ 400), rowB, List.flatMap_cons, List.append_assoc]
  simp only [List.map, hw, SE.val, e0, e2, e3, valBin]
  rw [show (i : Int) + IntKind.i64.wrap 1 = ((i + 1 : Nat) : Int) by rw [show IntKind.i64.wrap 1 = 1 from rfl]; omega, i64_nat (by unfold maxLen; omega)]
 ·rw [if_neg q, decide_eq_false q, cond_false]
  simp only [List.map, SE.val, e0, e1]
theorem pw_nx (hfs : fs ≠ []) (hN : (dec x0).length ≤ 400) (i : Nat) (ys zs : List Int) (hi : i ≤ (dec x0).length) (h : pwJ fs x0 y0 i ys) (hy : (pwT fs).get (envOf F ys) = (none, zs)) : i < (dec x0).length ∧ pwJ fs x0 y0 (i + 1) zs := by
 rw [pw_get hfs hN h] at hy
 by_cases q : i < (dec x0).length
 ·rw [if_pos q] at hy
  cases hy
  exact ⟨q, rfl, rfl, by show dec (enc _) = _; rw [dec_enc], q⟩
 ·rw [if_neg q] at hy; cases hy
theorem pw_ok {i : Nat} {ys : List Int} (hN : (dec x0).length ≤ 400) (hM : (dec y0).length ≤ 20000) (hk : fs.length ≤ 20) (h : pwJ fs x0 y0 i ys) : (pwT fs).ok (envOf F ys) := by
 obtain ⟨h1, h2, h3, h4⟩ := h
 have e1 : (envOf F ys).iv 1 = ys.getD 1 0 := rfl
 have e2 : (envOf F ys).iv 2 = (i : Int) := h2
 have e3 : IntKind.i64.wrap (i : Int) = (i : Int) := i64_nat (by unfold maxLen; omega)
 have hl : (dec (ys.getD 1 0)).length ≤ 100000 := by
  rw [h3, List.length_append, rowsB_len]
  have hb : 8 * fs.length * ((dec x0).take i).length ≤ 160 * 400 := Nat.mul_le_mul (by omega) (by rw [List.length_take]; omega)
  omega
 refine ⟨fun _ => ⟨?_, ?_, ?_, trivial⟩, fun _ => trivial⟩
 ·simp only [SE.val, b2i_ne, valCmp, e2, e3]
  exact decide_eq_true (by show (i : Int) ≥ IntKind.i64.wrap 0; rw [show IntKind.i64.wrap 0 = 0 from rfl]; omega)
 ·simp only [SE.val, b2i_ne, valCmp, e1]
  rw [sat_of (by unfold maxLen; omega)]
  exact decide_eq_true (by show _ ≤ IntKind.i64.wrap 1000000; rw [show IntKind.i64.wrap 1000000 = 1000000 from rfl]; omega)
 ·simp only [SE.val, b2i_ne, valCmp, e1]
  rw [sat_of (by unfold maxLen; omega)]
  exact decide_eq_true (by show _ ≤ IntKind.i64.wrap 100000; rw [show IntKind.i64.wrap 100000 = 100000 from rfl]; omega)
theorem pw_J0 {xs : List Int} : pwJ fs (xs.getD 0 0) (xs.getD 1 0) 0 (pwI.map (SE.val (envOf F xs))) :=
 ⟨rfl, rfl, by show dec (xs.getD 1 0) = _; simp [rowsB], Nat.zero_le _⟩
theorem pw_pre {xs : List Int} (h : ∀ p ∈ pwPre, (p.1.val (envOf F xs) != 0) = p.2) : (dec (xs.getD 0 0)).length ≤ 400 ∧ (dec (xs.getD 1 0)).length ≤ 20000 := by
 have h1 := h _ (.head _)
 have h2 := h _ (.tail _ (.head _))
 simp only [SE.val, b2i_ne, valCmp] at h1 h2
 have h1 := of_decide_eq_true h1
 have h2 := of_decide_eq_true h2
 have e0 : (envOf F xs).iv 0 = xs.getD 0 0 := rfl
 have e1 : (envOf F xs).iv 1 = xs.getD 1 0 := rfl
 rw [e0, show IntKind.i64.wrap 400 = 400 from rfl] at h1
 rw [e1, show IntKind.i64.wrap 20000 = 20000 from rfl] at h2
 exact ⟨sat_small (by omega) (by unfold maxLen; omega), sat_small (by omega) (by unfold maxLen; omega)⟩
theorem pw_run (hfs : fs ≠ []) (hk : fs.length ≤ 20) {xs : List Int} (h : ∀ p ∈ pwPre, (p.1.val (envOf F xs) != 0) = p.2) : RunOK (fun _ => pwT fs) F 0 (pwU xs) (pwI.map (SE.val (envOf F xs))) := by
 obtain ⟨hN, hM⟩ := pw_pre h
 exact inv_ok (pwJ fs (xs.getD 0 0) (xs.getD 1 0)) (dec (xs.getD 0 0)).length (fun i ys _ hj => pw_ok hN hM hk hj) (fun i ys zs hi hj hy => pw_nx hfs hN i ys zs hi hj hy) _ 0 0 _ (by unfold pwU; omega) (by unfold pwU; omega) pw_J0
theorem pw_val (hfs : fs ≠ []) {xs : List Int} (hN : (dec (xs.getD 0 0)).length ≤ 400) : ∃ y, pwG fs F xs = [0, xs.getD 0 0, y] ∧ dec y = dec (xs.getD 1 0) ++ rowsB fs (dec (xs.getD 0 0)) := by
 obtain ⟨e, ys, h1, h2, y, h3, h4⟩ := inv_run (F := F) (T := pwT fs) (pwJ fs (xs.getD 0 0) (xs.getD 1 0)) (dec (xs.getD 0 0)).length (fun e ys => e = 0 ∧ ∃ y, ys = [xs.getD 0 0, y] ∧ dec y = dec (xs.getD 1 0) ++ rowsB fs (dec (xs.getD 0 0)))
  (fun i ys zs hi hj hy => pw_nx hfs hN i ys zs hi hj hy) (fun i ys e zs hi hj hy => by
   rw [pw_get hfs hN hj] at hy
   obtain ⟨_, _, h3, h4⟩ := hj
   by_cases q : i < (dec (xs.getD 0 0)).length
   ·rw [if_pos q] at hy; cases hy
   ·rw [if_neg q] at hy
    cases hy
    exact ⟨rfl, _, rfl, by rw [h3, List.take_of_length_le (by omega)]⟩) ((dec (xs.getD 0 0)).length + 1) 0 0 (pwI.map (SE.val (envOf F xs))) (by omega) (by omega) pw_J0
 subst h2
 refine ⟨y, ?_, h4⟩
 unfold pwG lpFn pwU
 rw [h1, h3]; rfl
end
end Go.Proofs.Ytedfbamihjnhhaa.Own
end
section
namespace Go.Proofs.Ytedfbamihjnhhaa.Own
open Go Go.RowKit Go.Proofs
set_option linter.unusedVariables false
set_option linter.unusedSimpArgs false
def fT2 (p : Bool × Nat) : SE := match p.1 with | true => .el (some .u64) (.lvar 2) (.ivar .i64 3) p.2 | false => .conv .u64 (.el (some .i64) (.lvar 2) (.ivar .i64 3) p.2)
def pvT (fs : List (Bool × Nat)) : RT := .ask (.cmp .lss (.ivar .i64 3) (.len (.lvar 0)))
 (.know (.cmp .geq (.ivar .i64 3) (.lit .i64 0)) true (.know (.cmp .lss (.ivar .i64 3) (.len (.lvar 2))) true (.know (.cmp .leq (.len (.lvar 1)) (.lit .i64 1000000)) true (.know (.cmp .leq (.len (.lvar 1)) (.lit .i64 100000)) true (.next [.lvar 0, wcat (.lvar 1) (fs.map fT2), .lvar 2, .bin .add .i64 (.ivar .i64 3) (.lit .i64 1)])))))
 (.out 0 [.lvar 0, .lvar 1])
def pvI : List SE := [.lvar 0, .lvar 1, .lvar 2, .lit .i64 0]
def pvPre : List (SE × Bool) := [(.cmp .neq (.len (.lvar 0)) (.len (.lvar 2)), false), (.cmp .leq (.len (.lvar 0)) (.lit .i64 400), true), (.cmp .leq (.len (.lvar 1)) (.lit .i64 20000), true)]
noncomputable def pvU (xs : List Int) : Nat := (dec (xs.getD 0 0)).length + 1
noncomputable def pvG (fs : List (Bool × Nat)) : (Nat → List Int → List Int) → List Int → List Int := lpFn pvI (fun _ => pvT fs) pvU
def pvJ (fs : List (Bool × Nat)) (x0 y0 z0 : Int) (i : Nat) (ys : List Int) : Prop := (ys.getD 0 0 = x0 ∧ ys.getD 2 0 = z0) ∧ ys.getD 3 0 = (i : Int) ∧ dec (ys.getD 1 0) = dec y0 ++ rowsB fs ((dec z0).take i) ∧ i ≤ (dec x0).length
section
variable {F : Nat → List Int → List Int} {fs : List (Bool × Nat)} {x0 y0 z0 : Int}
theorem fT2_val {ys : List Int} {i : Nat} (h1 : ys.getD 2 0 = z0) (h2 : ys.getD 3 0 = (i : Int)) (hi : i ≤ 400) (p : Bool × Nat) : (fT2 p).val (envOf F ys) = fld p ((dec z0).getD i []) := by
 have e1 : (envOf F ys).iv 2 = z0 := h1
 have e2 : (envOf F ys).iv 3 = (i : Int) := h2
 have e3 : (IntKind.i64.wrap (i : Int)).toNat = i := by rw [i64_nat (by unfold maxLen; omega)]; rfl
 obtain ⟨b, j⟩ := p
 cases b with
 | true => simp only [fT2, fld, SE.val, wrK, e1, e2, e3]
 | false => simp only [fT2, fld, SE.val, wrK, e1, e2, e3]
theorem pv_get {i : Nat} {ys : List Int} (hfs : fs ≠ []) (hz : (dec x0).length = (dec z0).length) (hN : (dec x0).length ≤ 400) (h : pvJ fs x0 y0 z0 i ys) :
  (pvT fs).get (envOf F ys) = if i < (dec x0).length then (none, [x0, enc (dec y0 ++ rowsB fs ((dec z0).take (i + 1))), z0, ((i + 1 : Nat) : Int)]) else (some 0, [x0, ys.getD 1 0]) := by
 obtain ⟨⟨h1, h0⟩, h2, h3, h4⟩ := h
 have e0 : (envOf F ys).iv 0 = x0 := h1
 have e1 : (envOf F ys).iv 1 = ys.getD 1 0 := rfl
 have e2 : (envOf F ys).iv 3 = (i : Int) := h2
 have e4 : (envOf F ys).iv 2 = z0 := h0
 have e3 : IntKind.i64.wrap (i : Int) = (i : Int) := i64_nat (by unfold maxLen; omega)
 have c : ((SE.cmp .lss (.ivar .i64 3) (.len (.lvar 0))).val (envOf F ys) != 0) = decide (i < (dec x0).length) := by
  simp only [SE.val, b2i_ne, valCmp, e0, e2, e3]
  rw [sat_of (by unfold maxLen; omega)]
  by_cases q : i < (dec x0).length
  ·rw [decide_eq_true q, decide_eq_true (by omega)]
  ·rw [decide_eq_false q, decide_eq_false (by omega)]
 unfold pvT
 simp only [RT.get, c]
 by_cases q : i < (dec x0).length
 ·rw [if_pos q, decide_eq_true q, cond_true]
  have hw : (wcat (.lvar 1) (fs.map fT2)).val (envOf F ys) = enc (dec y0 ++ rowsB fs ((dec z0).take (i + 1))) := by
   cases fs with
   | nil => exact absurd rfl hfs
   | cons p fs =>
    rw [List.map_cons, wcat, wcat_val _ _ (by simp only [SE.lst, SE.val, dec_enc]), wcat_lst, lst_lcat, w8_lst, rowsB_succ _ _ _ (by omega : i < (dec z0).length), fT2_val h0 h2 (by omega)]
    have hl : (SE.lvar 1).lst (envOf F ys) = dec (ys.getD 1 0) := by simp only [SE.lst, SE.val, e1]
    rw [hl, h3, List.flatMap_map]
    simp only [fT2_val h0 h2 (by omega : i ≤ 400), rowB, List.flatMap_cons, List.append_assoc]
  simp only [List.map, hw, SE.val, e0, e2, e3, e4, valBin]
  rw [show (i : Int) + IntKind.i64.wrap 1 = ((i + 1 : Nat) : Int) by rw [show IntKind.i64.wrap 1 = 1 from rfl]; omega, i64_nat (by unfold maxLen; omega)]
 ·rw [if_neg q, decide_eq_false q, cond_false]
  simp only [List.map, SE.val, e0, e1]
theorem pv_nx (hfs : fs ≠ []) (hz : (dec x0).length = (dec z0).length) (hN : (dec x0).length ≤ 400) (i : Nat) (ys zs : List Int) (hi : i ≤ (dec x0).length) (h : pvJ fs x0 y0 z0 i ys) (hy : (pvT fs).get (envOf F ys) = (none, zs)) : i < (dec x0).length ∧ pvJ fs x0 y0 z0 (i + 1) zs := by
 rw [pv_get hfs hz hN h] at hy
 by_cases q : i < (dec x0).length
 ·rw [if_pos q] at hy
  cases hy
  exact ⟨q, ⟨rfl, rfl⟩, rfl, by show dec (enc _) = _; rw [dec_enc], q⟩
 ·rw [if_neg q] at hy; cases hy
theorem pv_ok {i : Nat} {ys : List Int} (hz : (dec x0).length = (dec z0).length) (hN : (dec x0).length ≤ 400) (hM : (dec y0).length ≤ 20000) (hk : fs.length ≤ 20) (h : pvJ fs x0 y0 z0 i ys) : (pvT fs).ok (envOf F ys) := by
 obtain ⟨⟨h1, h0⟩, h2, h3, h4⟩ := h
 have e1 : (envOf F ys).iv 1 = ys.getD 1 0 := rfl
 have e2 : (envOf F ys).iv 3 = (i : Int) := h2
 have e4 : (envOf F ys).iv 2 = z0 := h0
 have e3 : IntKind.i64.wrap (i : Int) = (i : Int) := i64_nat (by unfold maxLen; omega)
 have hl : (dec (ys.getD 1 0)).length ≤ 100000 := by
  rw [h3, List.length_append, rowsB_len]
  have hb : 8 * fs.length * ((dec z0).take i).length ≤ 160 * 400 := Nat.mul_le_mul (by omega) (by rw [List.length_take]; omega)
  omega
 have c : ((SE.cmp .lss (.ivar .i64 3) (.len (.lvar 0))).val (envOf F ys) != 0) = true → i < (dec x0).length := by
  intro q
  simp only [SE.val, b2i_ne, valCmp, e2, e3] at q
  rw [show (envOf F ys).iv 0 = x0 from h1, sat_of (by unfold maxLen; omega)] at q
  have := of_decide_eq_true q
  omega
 refine ⟨fun q => ⟨?_, ?_, ?_, ?_, trivial⟩, fun _ => trivial⟩
 ·simp only [SE.val, b2i_ne, valCmp, e2, e3]
  exact decide_eq_true (by show (i : Int) ≥ IntKind.i64.wrap 0; rw [show IntKind.i64.wrap 0 = 0 from rfl]; omega)
 ·have q := c q
  simp only [SE.val, b2i_ne, valCmp, e2, e3, e4]
  rw [sat_of (by unfold maxLen; omega)]
  exact decide_eq_true (by show (i : Int) < _; omega)
 ·simp only [SE.val, b2i_ne, valCmp, e1]
  rw [sat_of (by unfold maxLen; omega)]
  exact decide_eq_true (by show _ ≤ IntKind.i64.wrap 1000000; rw [show IntKind.i64.wrap 1000000 = 1000000 from rfl]; omega)
 ·simp only [SE.val, b2i_ne, valCmp, e1]
  rw [sat_of (by unfold maxLen; omega)]
  exact decide_eq_true (by show _ ≤ IntKind.i64.wrap 100000; rw [show IntKind.i64.wrap 100000 = 100000 from rfl]; omega)
theorem pv_J0 {xs : List Int} : pvJ fs (xs.getD 0 0) (xs.getD 1 0) (xs.getD 2 0) 0 (pvI.map (SE.val (envOf F xs))) :=
 ⟨⟨rfl, rfl⟩, rfl, by show dec (xs.getD 1 0) = _; simp [rowsB], Nat.zero_le _⟩
theorem pv_pre {xs : List Int} (hm : (dec (xs.getD 2 0)).length ≤ maxLen) (h : ∀ p ∈ pvPre, (p.1.val (envOf F xs) != 0) = p.2) : (dec (xs.getD 0 0)).length = (dec (xs.getD 2 0)).length ∧ (dec (xs.getD 0 0)).length ≤ 400 ∧ (dec (xs.getD 1 0)).length ≤ 20000 := by
 have h0 := h _ (.head _)
 have h1 := h _ (.tail _ (.head _))
 have h2 := h _ (.tail _ (.tail _ (.head _)))
 simp only [SE.val, b2i_ne, valCmp] at h0 h1 h2
 have h1 := of_decide_eq_true h1
 have h2 := of_decide_eq_true h2
 have e0 : (envOf F xs).iv 0 = xs.getD 0 0 := rfl
 have e1 : (envOf F xs).iv 1 = xs.getD 1 0 := rfl
 have e2 : (envOf F xs).iv 2 = xs.getD 2 0 := rfl
 rw [e0, show IntKind.i64.wrap 400 = 400 from rfl] at h1
 rw [e1, show IntKind.i64.wrap 20000 = 20000 from rfl] at h2
 have hl : (dec (xs.getD 0 0)).length ≤ 400 := sat_small (by omega) (by unfold maxLen; omega)
 rw [e0, e2, sat_of (by unfold maxLen; omega), sat_of hm, bne_eq_false_iff_eq] at h0
 exact ⟨by omega, hl, sat_small (by omega) (by unfold maxLen; omega)⟩
theorem pv_run (hfs : fs ≠ []) (hk : fs.length ≤ 20) {xs : List Int} (hm : (dec (xs.getD 2 0)).length ≤ maxLen) (h : ∀ p ∈ pvPre, (p.1.val (envOf F xs) != 0) = p.2) : RunOK (fun _ => pvT fs) F 0 (pvU xs) (pvI.map (SE.val (envOf F xs))) := by
 obtain ⟨hz, hN, hM⟩ := pv_pre hm h
 exact inv_ok (pvJ fs (xs.getD 0 0) (xs.getD 1 0) (xs.getD 2 0)) (dec (xs.getD 0 0)).length (fun i ys _ hj => pv_ok hz hN hM hk hj) (fun i ys zs hi hj hy => pv_nx hfs hz hN i ys zs hi hj hy) _ 0 0 _ (by unfold pvU; omega) (by unfold pvU; omega) pv_J0
theorem pv_val (hfs : fs ≠ []) {xs : List Int} (hz : (dec (xs.getD 0 0)).length = (dec (xs.getD 2 0)).length) (hN : (dec (xs.getD 0 0)).length ≤ 400) : ∃ y, pvG fs F xs = [0, xs.getD 0 0, y] ∧ dec y = dec (xs.getD 1 0) ++ rowsB fs (dec (xs.getD 2 0)) := by
 obtain ⟨e, ys, h1, h2, y, h3, h4⟩ := inv_run (F := F) (T := pvT fs) (pvJ fs (xs.getD 0 0) (xs.getD 1 0) (xs.getD 2 0)) (dec (xs.getD 0 0)).length (fun e ys => e = 0 ∧ ∃ y, ys = [xs.getD 0 0, y] ∧ dec y = dec (xs.getD 1 0) ++ rowsB fs (dec (xs.getD 2 0)))
  (fun i ys zs hi hj hy => pv_nx hfs hz hN i ys zs hi hj hy) (fun i ys e zs hi hj hy => by
   rw [pv_get hfs hz hN hj] at hy
   obtain ⟨_, _, h3, h4⟩ := hj
   by_cases q : i < (dec (xs.getD 0 0)).length
   ·rw [if_pos q] at hy; cases hy
   ·rw [if_neg q] at hy
    cases hy
    exact ⟨rfl, _, rfl, by rw [h3, List.take_of_length_le (by omega)]⟩) ((dec (xs.getD 0 0)).length + 1) 0 0 (pvI.map (SE.val (envOf F xs))) (by omega) (by omega) pv_J0
 subst h2
 refine ⟨y, ?_, h4⟩
 unfold pvG lpFn pvU
 rw [h1, h3]; rfl
end
end Go.Proofs.Ytedfbamihjnhhaa.Own
end
