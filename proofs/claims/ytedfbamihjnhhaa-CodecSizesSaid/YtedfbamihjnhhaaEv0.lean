/- The check of an order, quick for the kernel: the text's order serves every order. -/
import Derived.Test.YtedfbamihjnhhaaEng6
namespace Go.Proofs.Ytedfbamihjnhhaa.Own
open Go Go.RowKit
set_option linter.unusedVariables false
set_option linter.unusedSimpArgs false
def dps (o : Oper) : List Nat := o.after.toList.filterMap fun e => bif Region.binds .any e then some e.on else none
def onlyT (i : Nat) : List Oper → Bool
 | [] => true
 | o :: r => (dps o).any (fun e => Nat.ble i e) && onlyT i r
def blT (i : Nat) : Nat → List Oper → List Nat → List Nat
 | _, [], bl => bl
 | s, o :: r, bl => blT i (s + 1) r (bif (dps o).any (fun e => e == i || bl.contains e) then s :: bl else bl)
def restT (ops : Array Oper) (κ : Oper → Kind) (i : Nat) (oi : Oper) (k : Kind) (bl : List Nat) : Nat → List Oper → Bool
 | _, [] => true
 | s, o :: r => (bif bl.contains s then (dps o).any (fun e => e == i || bl.contains e) else (oi.apart ops o && k.lets (κ o))) && restT ops κ i oi k bl (s + 1) r
def effK : Kind → Bool | .eff => true | .eff0 => true | _ => false
def stepT (ops : Array Oper) (κ : Oper → Kind) (i : Nat) (o : Oper) (r : List Oper) : Bool :=
 (dps o).all (fun e => decide (e < i)) && (onlyT i r || (!(effK (κ o)) && restT ops κ i o (κ o) (blT i (i + 1) r []) (i + 1) r))
def orderT (ops : Array Oper) (κ : Oper → Kind) : Nat → List Oper → Bool
 | _, [] => true
 | i, o :: r => stepT ops κ i o r && orderT ops κ (i + 1) r
theorem dps_mem {o : Oper} {e : Nat} : e ∈ dps o ↔ ∃ ed ∈ o.after, Region.binds .any ed = true ∧ ed.on = e := by
 unfold dps
 rw [List.mem_filterMap]
 constructor
 ·rintro ⟨ed, h1, h2⟩
  cases hb : Region.binds .any ed with
  | true => rw [hb, cond_true] at h2; cases h2; exact ⟨ed, by simpa using h1, hb, rfl⟩
  | false => rw [hb, cond_false] at h2; cases h2
 ·rintro ⟨ed, h1, h2, rfl⟩
  exact ⟨ed, by simpa using h1, by rw [h2]; rfl⟩
theorem dps_any {o : Oper} {p : Nat → Bool} : (dps o).any p = o.after.any (fun e => Region.binds .any e && p e.on) := by
 rw [Bool.eq_iff_iff, List.any_eq_true, Array.any_eq_true']
 constructor
 ·rintro ⟨e, h1, h2⟩
  obtain ⟨ed, h3, h4, rfl⟩ := dps_mem.1 h1
  exact ⟨ed, h3, by rw [h4, h2]; rfl⟩
 ·rintro ⟨ed, h1, h2⟩
  rw [Bool.and_eq_true] at h2
  exact ⟨ed.on, dps_mem.2 ⟨ed, h1, h2.1, rfl⟩, h2.2⟩
theorem dps_all {o : Oper} {p : Nat → Bool} : (dps o).all p = o.after.all (fun e => !Region.binds .any e || p e.on) := by
 rw [Bool.eq_iff_iff, List.all_eq_true, Array.all_eq_true']
 constructor
 ·intro h ed h1
  cases hb : Region.binds .any ed with
  | true => rw [h _ (dps_mem.2 ⟨ed, h1, hb, rfl⟩)]; rfl
  | false => rfl
 ·intro h e he
  obtain ⟨ed, h3, h4, rfl⟩ := dps_mem.1 he
  have := h ed h3
  rw [h4] at this
  simpa using this
def Upto (n i : Nat) (listed : Array Bool) : Prop := ∀ j, listed[j]? = if j < n then some (decide (j < i)) else none
theorem Upto.getD {n i j : Nat} {listed : Array Bool} (h : Upto n i listed) (d : Bool) (hj : j < n) : listed.getD j d = decide (j < i) := by
 rw [Array.getD_eq_getD_getElem?, h j, if_pos hj]; rfl
theorem Upto.out {n i j : Nat} {listed : Array Bool} (h : Upto n i listed) (d : Bool) (hj : ¬ j < n) : listed.getD j d = d := by
 rw [Array.getD_eq_getD_getElem?, h j, if_neg hj]; rfl
theorem Upto.step {n i : Nat} {listed : Array Bool} (h : Upto n i listed) (hi : i < n) : Upto n (i + 1) (listed.setIfInBounds i true) := fun j => by
 rw [Array.getElem?_setIfInBounds]
 by_cases hj : i = j
 ·subst hj
  have hs : i < listed.size := by
   have := h i; rw [if_pos hi] at this
   exact (Array.getElem?_eq_some_iff.1 this).1
  rw [if_pos rfl, if_pos hs, if_pos hi, decide_eq_true (by omega)]
 ·rw [if_neg hj, h j]
  by_cases hn : j < n
  ·rw [if_pos hn, if_pos hn]; congr 1; apply decide_eq_decide.2; omega
  ·rw [if_neg hn, if_neg hn]
theorem upto_zero (n : Nat) : Upto n 0 (Array.replicate n false) := fun j => by
 rw [Array.getElem?_replicate]
 by_cases hn : j < n
 ·rw [if_pos hn, if_pos hn, decide_eq_false (by omega)]
 ·rw [if_neg hn, if_neg hn]
def From (ops : Array Oper) (s : Nat) (l : List Oper) : Prop := ∀ t, ops[s + t]? = l[t]?
theorem From.tail {ops : Array Oper} {s : Nat} {o : Oper} {l : List Oper} (h : From ops s (o :: l)) : From ops (s + 1) l := fun t => by
 have := h (t + 1); rw [show s + (t + 1) = s + 1 + t by omega] at this; rw [this]; rfl
theorem From.head {ops : Array Oper} {s : Nat} {o : Oper} {l : List Oper} (h : From ops s (o :: l)) : ops[s]? = some o := by have := h 0; simpa using this
theorem From.size {ops : Array Oper} : ∀ {l : List Oper} {s : Nat}, From ops s l → s ≤ ops.size → ops.size = s + l.length
 | [], s, h, hs => by
  have := h 0
  simp only [Nat.add_zero, List.getElem?_nil] at this
  have := Array.getElem?_eq_none_iff.1 this
  simp; omega
 | o :: l, s, h, hs => by
  have h1 := (Array.getElem?_eq_some_iff.1 h.head).1
  have := h.tail.size (by omega)
  simp only [List.length_cons]; omega
def okJ (ops : Array Oper) (listed : Array Bool) (i : Nat) : Bool := !listed.getD i true && ((ops[i]?).map (·.after.all fun e => !Region.binds .any e || listed.getD e.on false)).getD false
theorem ready_mem {ops : Array Oper} {listed : Array Bool} {j : Nat} : j ∈ Region.ready .any ops listed ↔ j < ops.size ∧ okJ ops listed j = true := by
 unfold Region.ready okJ
 rw [List.mem_filter, List.mem_range]
theorem filter_one {p : Nat → Bool} {n i : Nat} (hi : i < n) (h1 : p i = true) (h2 : ∀ j, j < n → j ≠ i → p j = false) : (List.range n).filter p = [i] := by
 have hsplit : List.range n = List.range i ++ (i :: List.range' (i + 1) (n - i - 1)) := by
  have e1 : List.range n = List.range' 0 (i + ((n - i - 1) + 1)) := by rw [List.range_eq_range']; congr 1; omega
  rw [e1, ← List.range'_append_1, List.range'_succ, List.range_eq_range']
  simp
 rw [hsplit, List.filter_append, List.filter_cons, h1, if_pos rfl]
 have e1 : (List.range i).filter p = [] := by
  rw [List.filter_eq_nil_iff]; intro a ha; rw [List.mem_range] at ha; rw [h2 a (by omega) (by omega)]; simp
 have e2 : (List.range' (i + 1) (n - i - 1)).filter p = [] := by
  rw [List.filter_eq_nil_iff]; intro a ha; rw [List.mem_range'_1] at ha; rw [h2 a (by omega) (by omega)]; simp
 rw [e1, e2]; rfl
theorem onlyT_spec {i : Nat} {ops : Array Oper} : ∀ {l : List Oper} {s : Nat}, From ops s l → onlyT i l = true → ∀ j oj, s ≤ j → ops[j]? = some oj → (dps oj).any (fun e => Nat.ble i e) = true
 | [], s, hf, _, j, oj, hs, hj => by
  have := hf (j - s); rw [show s + (j - s) = j by omega, hj] at this; cases this
 | o :: r, s, hf, h, j, oj, hs, hj => by
  simp only [onlyT, Bool.and_eq_true] at h
  by_cases e : j = s
  ·subst e; rw [hf.head] at hj; cases hj; exact h.1
  ·exact onlyT_spec hf.tail h.2 j oj (by omega) hj
theorem blT_mem {i : Nat} : ∀ {l : List Oper} {s : Nat} {bl : List Nat} {x : Nat}, x ∈ blT i s l bl → x ∈ bl ∨ (s ≤ x ∧ x < s + l.length)
 | [], s, bl, x, h => .inl h
 | o :: r, s, bl, x, h => by
  simp only [blT] at h
  rcases blT_mem h with h1 | ⟨h1, h2⟩
  ·cases hc : (dps o).any (fun e => e == i || bl.contains e) with
   | true =>
    rw [hc, cond_true] at h1
    rcases List.mem_cons.1 h1 with rfl | h1
    ·exact .inr ⟨Nat.le_refl _, by simp⟩
    ·exact .inl h1
   | false => rw [hc, cond_false] at h1; exact .inl h1
  ·exact .inr ⟨by omega, by simp only [List.length_cons]; omega⟩
def blF (ops : Array Oper) (i : Nat) (bl : List Nat) (j : Nat) : List Nat := match ops[j]? with
 | some oj => if oj.after.any (fun e => Region.binds .any e && (e.on == i || bl.contains e.on)) then j :: bl else bl
 | none => bl
theorem blkOf_F {ops : Array Oper} {i : Nat} : blkOf ops i = (List.range ops.size).foldl (blF ops i) [] := rfl
theorem blF_some {ops : Array Oper} {i j : Nat} {bl : List Nat} {o : Oper} (h : ops[j]? = some o) : blF ops i bl j = bif (dps o).any (fun e => e == i || bl.contains e) then j :: bl else bl := by
 unfold blF
 rw [h, dps_any]
 simp only
 cases (o.after.any (fun e => Region.binds .any e && (e.on == i || bl.contains e.on))) <;> rfl
theorem blT_fold {i : Nat} {ops : Array Oper} : ∀ {l : List Oper} {s : Nat} {bl : List Nat}, From ops s l → (List.range' s l.length).foldl (blF ops i) bl = blT i s l bl
 | [], s, bl, _ => rfl
 | o :: r, s, bl, hf => by
  rw [List.length_cons, List.range'_succ, List.foldl_cons, blF_some hf.head, blT_fold hf.tail]
  rfl
theorem restT_spec {ops : Array Oper} {κ : Oper → Kind} {i : Nat} {oi : Oper} {k : Kind} {bl : List Nat} : ∀ {l : List Oper} {s : Nat}, From ops s l → restT ops κ i oi k bl s l = true → ∀ j oj, s ≤ j → ops[j]? = some oj →
  (bif bl.contains j then (dps oj).any (fun e => e == i || bl.contains e) else (oi.apart ops oj && k.lets (κ oj))) = true
 | [], s, hf, _, j, oj, hs, hj => by
  have := hf (j - s); rw [show s + (j - s) = j by omega, hj] at this; cases this
 | o :: r, s, hf, h, j, oj, hs, hj => by
  simp only [restT, Bool.and_eq_true] at h
  by_cases e : j = s
  ·subst e; rw [hf.head] at hj; cases hj; exact h.1
  ·exact restT_spec hf.tail h.2 j oj (by omega) hj
def Early (ops : Array Oper) (i : Nat) : Prop := ∀ j oj, j < i → ops[j]? = some oj → (dps oj).all (fun e => decide (e < j)) = true
theorem blk_zero {ops : Array Oper} {i : Nat} : ∀ m, m ≤ i + 1 → Early ops m →
  (List.range m).foldl (blF ops i) [] = []
 | 0, _, _ => rfl
 | m + 1, hm, h => by
  rw [List.range_succ, List.foldl_append, blk_zero m (by omega) (fun j oj hj => h j oj (by omega))]
  simp only [List.foldl_cons, List.foldl_nil]
  cases ho : ops[m]? with
  | none => unfold blF; rw [ho]
  | some oj =>
   have h1 := h m oj (by omega) ho
   rw [blF_some ho]
   have h2 : (dps oj).any (fun e => e == i || ([] : List Nat).contains e) = false := by
    rw [List.any_eq_false]; intro e he
    rw [List.all_eq_true] at h1
    have : e < m := of_decide_eq_true (h1 e he)
    simp; omega
   rw [h2]; rfl
theorem blkOf_eq {ops : Array Oper} {i : Nat} {r : List Oper} (hr : From ops (i + 1) r) (hi : i < ops.size) (he : Early ops (i + 1)) : blkOf ops i = blT i (i + 1) r [] := by
 have hsz := hr.size (by omega)
 have hsplit : List.range ops.size = List.range (i + 1) ++ List.range' (i + 1) r.length := by
  rw [List.range_eq_range', List.range_eq_range', ← (by rw [hsz] : List.range' 0 (i + 1 + r.length) = List.range' 0 ops.size), ← List.range'_append_1]
  simp
 rw [blkOf_F, hsplit, List.foldl_append, blk_zero (i + 1) (Nat.le_refl _) he, blT_fold hr]
theorem stepT_spec {ops : Array Oper} {κ : Oper → Kind} {κ' : Nat → Kind} {i : Nat} {o : Oper} {r : List Oper} {listed : Array Bool} (hκ : ∀ j oj, ops[j]? = some oj → κ' j = κ oj) (hu : Upto ops.size i listed) (hf : From ops i (o :: r)) (he : Early ops i)
  (h : stepT ops κ i o r = true) : stepB ops κ' listed i = true ∧ Early ops (i + 1) := by
 simp only [stepT, Bool.and_eq_true, Bool.or_eq_true] at h
 obtain ⟨hd, hc⟩ := h
 have ho := hf.head
 have hi : i < ops.size := (Array.getElem?_eq_some_iff.1 ho).1
 have he' : Early ops (i + 1) := fun j oj hj hoj => by
  by_cases e : j = i
  ·subst e; rw [ho] at hoj; cases hoj; exact hd
  ·exact he j oj (by omega) hoj
 refine ⟨?_, he'⟩
 have lt : ∀ e, e ∈ dps o → e < i := fun e hm => of_decide_eq_true ((List.all_eq_true.1 hd) e hm)
 have oki : okJ ops listed i = true := by
  unfold okJ
  rw [hu.getD true hi, ho]
  simp only [Option.map_some, Option.getD_some]
  rw [← dps_all (o := o) (p := fun e => listed.getD e false)]
  simp only [decide_eq_false (show ¬ i < i by omega), Bool.not_false, Bool.true_and, List.all_eq_true]
  intro e hm
  rw [hu.getD false (by have := lt e hm; omega), decide_eq_true (lt e hm)]
 have hki : κ' i = κ o := hκ i o ho
 have one : onlyT i r = true → Region.ready .any ops listed = [i] := fun hT => by
  refine filter_one (p := okJ ops listed) hi oki fun j hj hne => ?_
  unfold okJ
  rw [hu.getD true hj]
  by_cases hji : j < i
  ·rw [decide_eq_true hji]; rfl
  ·rw [decide_eq_false hji]
   obtain ⟨oj, hoj⟩ : ∃ oj, ops[j]? = some oj := ⟨ops[j], by simp [hj]⟩
   rw [hoj]
   simp only [Option.map_some, Option.getD_some, Bool.not_false, Bool.true_and]
   rw [← dps_all (o := oj) (p := fun e => listed.getD e false)]
   have h1 := onlyT_spec hf.tail hT j oj (by omega) hoj
   rw [List.any_eq_true] at h1
   obtain ⟨e, he1, he2⟩ := h1
   rw [List.all_eq_false]
   refine ⟨e, he1, ?_⟩
   have := Nat.le_of_ble_eq_true he2
   by_cases hen : e < ops.size
   ·rw [hu.getD false hen, decide_eq_false (by omega)]; simp
   ·rw [hu.out false hen]; simp
 rcases hc with hT | hT
 ·have hr := one hT
  unfold stepB
  rw [hr]
  cases κ' i <;> simp
 ·obtain ⟨hk, hrest⟩ := hT
  have hkk : effK (κ' i) = false := by rw [hki]; simpa using hk
  have hcon : (Region.ready .any ops listed).contains i = true := by
   rw [List.contains_iff_mem]; exact ready_mem.2 ⟨hi, oki⟩
  have hfree : freeB ops listed i (fun j => (κ' i).lets (κ' j)) = true := by
   unfold freeB
   rw [ho]
   simp only [Bool.and_eq_true]
   rw [blkOf_eq hf.tail hi he']
   have spec := restT_spec hf.tail hrest
   constructor
   ·rw [List.all_eq_true]
    intro j hj
    have hb : (blT i (i + 1) r []).contains j = true := List.contains_iff_mem.2 hj
    rcases blT_mem hj with hx | ⟨h1, h2⟩
    ·cases hx
    have hsz := hf.tail.size (by omega)
    have hjn : j < ops.size := by omega
    obtain ⟨oj, hoj⟩ : ∃ oj, ops[j]? = some oj := ⟨ops[j], by simp [hjn]⟩
    have h3 := spec j oj h1 hoj
    rw [hb, cond_true, dps_any] at h3
    rw [hu.getD false hjn, decide_eq_false (by omega), hoj]
    simpa using h3
   ·rw [List.all_eq_true]
    intro j hj
    rw [List.mem_range] at hj
    by_cases e1 : j = i
    ·subst e1; simp
    by_cases e2 : j < i
    ·rw [hu.getD true hj, decide_eq_true e2]; simp
    obtain ⟨oj, hoj⟩ : ∃ oj, ops[j]? = some oj := ⟨ops[j], by simp [hj]⟩
    have h3 := spec j oj (by omega) hoj
    cases hb : (blT i (i + 1) r []).contains j with
    | true => simp
    | false =>
     rw [hb, cond_false] at h3
     rw [hoj]
     simp only [hκ j oj hoj, hki, h3, Bool.or_true]
  unfold stepB
  cases hkv : κ' i <;> rw [hkv] at hkk hfree <;> first | (cases hkk; done) | (simp only [hcon, hfree]; simp)
theorem orderT_spec {ops : Array Oper} {κ : Oper → Kind} {κ' : Nat → Kind} (hκ : ∀ j oj, ops[j]? = some oj → κ' j = κ oj) : ∀ (l : List Oper) (i : Nat) (listed : Array Bool), Upto ops.size i listed → From ops i l → i ≤ ops.size → Early ops i → orderT ops κ i l = true →
  orderB ops κ' (List.range' i l.length) listed = true
 | [], i, listed, hu, hf, hi, he, _ => by
  have hsz := hf.size hi
  simp only [List.length_nil, List.range'_zero, orderB]
  rw [List.isEmpty_iff, List.eq_nil_iff_forall_not_mem]
  intro j hj
  obtain ⟨h1, h2⟩ := ready_mem.1 hj
  unfold okJ at h2
  rw [hu.getD true h1, decide_eq_true (by simp at hsz; omega)] at h2
  cases h2
 | o :: r, i, listed, hu, hf, hi, he, h => by
  simp only [orderT, Bool.and_eq_true] at h
  have ho : i < ops.size := (Array.getElem?_eq_some_iff.1 hf.head).1
  obtain ⟨h1, h2⟩ := stepT_spec hκ hu hf he h.1
  rw [List.length_cons, List.range'_succ]
  simp only [orderB, h1, Bool.true_and]
  exact orderT_spec hκ r (i + 1) _ (hu.step ho) hf.tail ho h2 h.2
def drawOK (ops : List Oper) (E : List (Nat × Kind)) : Bool := Region.noSelect ops.toArray && orderT ops.toArray (kf true E) 0 ops
theorem drawOK_spec {ops : List Oper} {E : List (Nat × Kind)} (h : drawOK ops E = true) : (Region.noSelect ops.toArray && orderB ops.toArray (fun i => kf true E (ops.toArray.getD i default)) (List.range ops.length) (Array.replicate ops.length false)) = true := by
 simp only [drawOK, Bool.and_eq_true] at h ⊢
 refine ⟨h.1, ?_⟩
 rw [List.range_eq_range']
 refine orderT_spec (κ := kf true E) (fun j oj hj => ?_) ops 0 _ (by simpa using upto_zero ops.length) (fun t => by simp) (Nat.zero_le _) (fun j oj hj => by omega) h.2
 rw [Array.getD_eq_getD_getElem?, hj]; rfl
end Go.Proofs.Ytedfbamihjnhhaa.Own
