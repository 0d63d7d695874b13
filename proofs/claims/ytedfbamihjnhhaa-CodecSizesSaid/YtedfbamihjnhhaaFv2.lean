/- A walk by reckoning: what its cells, frames and memory stand for. -/
import Derived.Test.YtedfbamihjnhhaaFv1
import Derived.Maps.AppendAt
import Derived.Laws.MakeOwn
namespace Go.Proofs.Ytedfbamihjnhhaa.Own
open Go Go.RowKit
set_option linter.unusedVariables false
set_option linter.unusedSimpArgs false
def Ext (σ σ' : List (Nat × Nat × Nat)) : Prop := ∃ τ, σ' = σ ++ τ
theorem Ext.refl (σ : List (Nat × Nat × Nat)) : Ext σ σ := ⟨[], by simp⟩
theorem Ext.trans {a b c : List (Nat × Nat × Nat)} (h : Ext a b) (h' : Ext b c) : Ext a c := by
 obtain ⟨x, rfl⟩ := h; obtain ⟨y, rfl⟩ := h'; exact ⟨x ++ y, by simp⟩
theorem Ext.snoc (σ : List (Nat × Nat × Nat)) (x : Nat × Nat × Nat) : Ext σ (σ ++ [x]) := ⟨[x], rfl⟩
theorem Ext.get {σ σ' : List (Nat × Nat × Nat)} (h : Ext σ σ') {k : Nat} {x : Nat × Nat × Nat} (hk : σ[k]? = some x) : σ'[k]? = some x := by
 obtain ⟨τ, rfl⟩ := h
 rw [List.getElem?_append_left (List.getElem?_eq_some_iff.1 hk).1]; exact hk
theorem Ext.back {σ σ' : List (Nat × Nat × Nat)} (h : Ext σ σ') {k : Nat} (hk : k < σ.length) : σ'[k]? = σ[k]? := by
 obtain ⟨τ, rfl⟩ := h
 rw [List.getElem?_append_left hk]
section
variable {e : Vl} {σ σ' : List (Nat × Nat × Nat)}
mutual
theorem RelC.mono (x : Ext σ σ') : ∀ {c : C} {v : Value}, RelC e σ c v → RelC e σ' c v
 | _, _, .int => .int
 | _, _, .bool => .bool
 | _, _, .ptr h => .ptr (x.get h)
 | _, _, .nilp => .nilp
 | _, _, .nili => .nili
 | _, _, .sl h => .sl (x.get h)
 | _, _, .slo h => .slo (x.get h)
 | _, _, .slt h => .slt (x.get h)
 | _, _, .nils => .nils
 | _, _, .str => .str
 | _, _, .fn h => .fn (RelCs.mono x h)
 | _, _, .opq h => .opq h
 | _, _, .val h => .val h
 | _, _, .sli h => .sli (x.get h)
 | _, _, .pel h => .pel (x.get h)
 | _, _, .sts => .sts
theorem RelCs.mono (x : Ext σ σ') : ∀ {cs : List C} {vs : List Value}, RelCs e σ cs vs → RelCs e σ' cs vs
 | _, _, .nil => .nil
 | _, _, .cons h t => .cons (RelC.mono x h) (RelCs.mono x t)
end
mutual
theorem RelV.mono (x : Ext σ σ') : ∀ {c : V} {v : Value}, RelV e σ c v → RelV e σ' c v
 | _, _, .one h => .one (h.mono x)
 | _, _, .agg h => .agg (h.mono x)
 | _, _, .tup h => .tup (RelVs.mono x h)
 | _, _, .any => .any
theorem RelVs.mono (x : Ext σ σ') : ∀ {cs : List V} {vs : List Value}, RelVs e σ cs vs → RelVs e σ' cs vs
 | _, _, .nil => .nil
 | _, _, .cons h t => .cons (RelV.mono x h) (RelVs.mono x t)
end
theorem slV_one (n g b c : Nat) : oneC (slV n g b c) = true := rfl
theorem RelC.one {c : C} {v : Value} (h : RelC e σ c v) : oneC v = true := by cases h <;> first | rfl | assumption | exact slV_one _ _ _ _
theorem RelCs.ones {cs : List C} {vs : List Value} (h : RelCs e σ cs vs) : vs.all oneC = true := by
 match h with
 | .nil => rfl
 | .cons h t => simp [h.one, RelCs.ones t]
theorem RelCs.len {cs : List C} {vs : List Value} (h : RelCs e σ cs vs) : vs.length = cs.length := by
 match h with
 | .nil => rfl
 | .cons h t => simp [RelCs.len t]
mutual
theorem RelC.det : ∀ {c : C} {v v' : Value}, RelC e σ c v → RelC e σ c v' → v = v'
 | _, _, _, .int, .int => rfl
 | _, _, _, .bool, .bool => rfl
 | _, _, _, .ptr h, .ptr h' => by rw [h] at h'; cases h'; rfl
 | _, _, _, .nilp, .nilp => rfl
 | _, _, _, .nili, .nili => rfl
 | _, _, _, .sl h, .sl h' => by rw [h] at h'; cases h'; rfl
 | _, _, _, .slo h, .slo h' => by rw [h] at h'; cases h'; rfl
 | _, _, _, .slt h, .slt h' => by rw [h] at h'; cases h'; rfl
 | _, _, _, .nils, .nils => rfl
 | _, _, _, .str, .str => rfl
 | _, _, _, .fn h, .fn h' => by rw [RelCs.det h h']
 | _, _, _, .opq _, .opq _ => rfl
 | _, _, _, .val _, .val _ => rfl
 | _, _, _, .sli h, .sli h' => by rw [h] at h'; cases h'; rfl
 | _, _, _, .pel h, .pel h' => by rw [h] at h'; cases h'; rfl
 | _, _, _, .sts, .sts => rfl
theorem RelCs.det : ∀ {cs : List C} {vs vs' : List Value}, RelCs e σ cs vs → RelCs e σ cs vs' → vs = vs'
 | _, _, _, .nil, .nil => rfl
 | _, _, _, .cons h t, .cons h' t' => by rw [RelC.det h h', RelCs.det t t']
end
mutual
theorem RelV.det : ∀ {c : V} {v v' : Value}, RelV e σ c v → RelV e σ c v' → v = v'
 | _, _, _, .one h, .one h' => h.det h'
 | _, _, _, .agg h, .agg h' => by rw [h.det h']
 | _, _, _, .tup h, .tup h' => by rw [RelVs.det h h']
 | _, _, _, .any, .any => rfl
theorem RelVs.det : ∀ {cs : List V} {vs vs' : List Value}, RelVs e σ cs vs → RelVs e σ cs vs' → vs = vs'
 | _, _, _, .nil, .nil => rfl
 | _, _, _, .cons h t, .cons h' t' => by rw [RelV.det h h', RelVs.det t t']
end
theorem getk {k : Nat} (h : Nat.blt k σ.length = true) : ∃ g b c, σ[k]? = some (g, b, c) := by
 have h : k < σ.length := by simpa [Nat.blt_eq] using h
 exact ⟨σ[k].1, σ[k].2.1, σ[k].2.2, by rw [List.getElem?_eq_getElem h]⟩
mutual
theorem C.ex (he : (∀ i, oneC (e.s i) = true) ∧ ∀ i, oneC (e.v i) = true) : ∀ (c : C), c.lt σ.length = true → ∃ v, RelC e σ c v
 | .int _ _, _ => ⟨_, .int⟩
 | .bool _, _ => ⟨_, .bool⟩
 | .ptr k o, h => by obtain ⟨g, b, c, hg⟩ := getk (σ := σ) (k := k) (by simpa [C.lt] using h); exact ⟨_, .ptr hg⟩
 | .nilp, _ => ⟨_, .nilp⟩
 | .nili, _ => ⟨_, .nili⟩
 | .sl k _ _ _, h => by obtain ⟨g, b, c, hg⟩ := getk (σ := σ) (k := k) (by simpa [C.lt] using h); exact ⟨_, .sl hg⟩
 | .slo k _, h => by obtain ⟨g, b, c, hg⟩ := getk (σ := σ) (k := k) (by simpa [C.lt] using h); exact ⟨_, .slo hg⟩
 | .slt k _ _ _, h => by obtain ⟨g, b, c, hg⟩ := getk (σ := σ) (k := k) (by simpa [C.lt] using h); exact ⟨_, .slt hg⟩
 | .nils, _ => ⟨_, .nils⟩
 | .str _, _ => ⟨_, .str⟩
 | .fn _ cap, h => by obtain ⟨v, hv⟩ := C.exL he cap (by simpa [C.lt] using h); exact ⟨_, .fn hv⟩
 | .opq i, _ => ⟨_, .opq (he.1 i)⟩
 | .val i, _ => ⟨_, .val (he.2 i)⟩
 | .sli k _, h => by obtain ⟨g, b, c, hg⟩ := getk (σ := σ) (k := k) (by simpa [C.lt] using h); exact ⟨_, .sli hg⟩
 | .pel k _ _ _, h => by obtain ⟨g, b, c, hg⟩ := getk (σ := σ) (k := k) (by simpa [C.lt] using h); exact ⟨_, .pel hg⟩
 | .sts _, _ => ⟨_, .sts⟩
 | .big _ _, h => by simp [C.lt] at h
 | .frm, h => by simp [C.lt] at h
theorem C.exL (he : (∀ i, oneC (e.s i) = true) ∧ ∀ i, oneC (e.v i) = true) : ∀ (cs : List C), C.ltL σ.length cs = true → ∃ vs, RelCs e σ cs vs
 | [], _ => ⟨_, .nil⟩
 | c :: cs, h => by
  simp only [C.ltL, Bool.and_eq_true] at h
  obtain ⟨v, hv⟩ := C.ex he c h.1
  obtain ⟨vs, hvs⟩ := C.exL he cs h.2
  exact ⟨_, .cons hv hvs⟩
end
mutual
theorem V.ex (he : (∀ i, oneC (e.s i) = true) ∧ ∀ i, oneC (e.v i) = true) : ∀ (c : V), c.lt σ.length = true → ∃ v, RelV e σ c v
 | .one c, h => by obtain ⟨v, hv⟩ := C.ex he c (by simpa [V.lt] using h); exact ⟨_, .one hv⟩
 | .agg cs, h => by obtain ⟨v, hv⟩ := C.exL he cs (by simpa [V.lt] using h); exact ⟨_, .agg hv⟩
 | .tup vs, h => by obtain ⟨v, hv⟩ := V.exL he vs (by simpa [V.lt] using h); exact ⟨_, .tup hv⟩
 | .any i, _ => ⟨_, .any⟩
theorem V.exL (he : (∀ i, oneC (e.s i) = true) ∧ ∀ i, oneC (e.v i) = true) : ∀ (cs : List V), V.ltL σ.length cs = true → ∃ vs, RelVs e σ cs vs
 | [], _ => ⟨_, .nil⟩
 | c :: cs, h => by
  simp only [V.ltL, Bool.and_eq_true] at h
  obtain ⟨v, hv⟩ := V.ex he c h.1
  obtain ⟨vs, hvs⟩ := V.exL he cs h.2
  exact ⟨_, .cons hv hvs⟩
end
/-! ### constants -/
theorem cOf_rel {v : Value} {c : C} (h : cOf v = some c) : RelC e σ c v := by
 unfold cOf at h
 split at h <;> first | (cases h; constructor; done) | (cases h; exact .fn .nil) | cases h
theorem csOf_rel : ∀ {vs : List Value} {cs : List C}, csOf vs = some cs → RelCs e σ cs vs
 | [], _, h => by cases h; exact .nil
 | v :: vs, cs, h => by
  simp only [csOf] at h
  split at h
  ·rename_i c hc
   split at h
   ·rename_i l hl; cases h; exact .cons (cOf_rel hc) (csOf_rel hl)
   ·cases h
  ·cases h
theorem vOf_rel {v : Value} {x : V} (h : vOf v = some x) : RelV e σ x v := by
 unfold vOf at h
 split at h
 ·split at h
  ·rename_i l hl; cases h; exact .agg (csOf_rel hl)
  ·cases h
 ·cases h; exact .tup .nil
 ·split at h
  ·rename_i c hc; cases h; exact .one (cOf_rel hc)
  ·cases h
/-! ### frames -/
theorem get_put : ∀ (d : Nat) (f : Tr) (t t' : Nat) (x y : V), 1 ≤ t → 1 ≤ t' → (Tr.put d f t x).get t' = some y → (t' = t ∧ y = x) ∨ (t' ≠ t ∧ f.get t' = some y)
 | 0, f, t, t', x, y, _, _, h => by simp [Tr.put, Tr.get] at h
 | d + 1, f, t, t', x, y, h1, h1', h => by
  unfold Tr.put at h
  by_cases e1 : t = 1
  ·subst e1
   simp only [Nat.beq, cond_true] at h
   by_cases e2 : t' = 1
   ·subst e2
    simp [Tr.get, Nat.beq] at h
    exact .inl ⟨rfl, h.symm⟩
   ·have b2 : Nat.beq t' 1 = false := by rw [Bool.eq_false_iff]; intro q; exact e2 (Nat.eq_of_beq_eq_true q)
    refine .inr ⟨e2, ?_⟩
    cases f with
    | leaf => simp [Tr.get, b2] at h
    | node v l r => simpa [Tr.get, b2] using h
  ·have b1 : Nat.beq t 1 = false := by rw [Bool.eq_false_iff]; intro q; exact e1 (Nat.eq_of_beq_eq_true q)
   simp only [b1, cond_false] at h
   cases em : Nat.beq (Nat.mod t 2) 0 with
   | true =>
    have hm : t % 2 = 0 := Nat.eq_of_beq_eq_true em
    simp only [em, cond_true] at h
    by_cases e2 : t' = 1
    ·subst e2
     refine .inr ⟨fun q => e1 q.symm, ?_⟩
     cases f with
     | leaf => simp [Tr.get] at h
     | node v l r => simpa [Tr.get] using h
    ·have b2 : Nat.beq t' 1 = false := by rw [Bool.eq_false_iff]; intro q; exact e2 (Nat.eq_of_beq_eq_true q)
     cases em' : Nat.beq (Nat.mod t' 2) 0 with
     | true =>
      have hm' : t' % 2 = 0 := Nat.eq_of_beq_eq_true em'
      simp only [Tr.get, b2, em', cond_true, cond_false] at h
      rcases get_put d _ (t.div 2) (t'.div 2) x y (show 1 ≤ t / 2 by omega) (show 1 ≤ t' / 2 by omega) h with ⟨ha, hb⟩ | ⟨ha, hb⟩
      ·left; refine ⟨?_, hb⟩; have : t' / 2 = t / 2 := ha; omega
      ·right; refine ⟨fun q => ha (by rw [q]), ?_⟩
       cases f with
       | leaf => simp [Tr.get] at hb
       | node v l r => simpa [Tr.get, b2, em'] using hb
     | false =>
      simp only [Tr.get, b2, em', cond_false] at h
      refine .inr ⟨fun q => (by rw [q, em] at em'; cases em'), ?_⟩
      cases f with
      | leaf => simp [Tr.get] at h
      | node v l r => simpa [Tr.get, b2, em'] using h
   | false =>
    have hm : ¬ t % 2 = 0 := fun q => by have : Nat.mod t 2 = 0 := q; rw [this] at em; cases em
    simp only [em, cond_false] at h
    by_cases e2 : t' = 1
    ·subst e2
     refine .inr ⟨fun q => e1 q.symm, ?_⟩
     cases f with
     | leaf => simp [Tr.get] at h
     | node v l r => simpa [Tr.get] using h
    ·have b2 : Nat.beq t' 1 = false := by rw [Bool.eq_false_iff]; intro q; exact e2 (Nat.eq_of_beq_eq_true q)
     cases em' : Nat.beq (Nat.mod t' 2) 0 with
     | false =>
      have hm' : ¬ t' % 2 = 0 := fun q => by have : Nat.mod t' 2 = 0 := q; rw [this] at em'; cases em'
      simp only [Tr.get, b2, em', cond_false] at h
      rcases get_put d _ (t.div 2) (t'.div 2) x y (show 1 ≤ t / 2 by omega) (show 1 ≤ t' / 2 by omega) h with ⟨ha, hb⟩ | ⟨ha, hb⟩
      ·left; refine ⟨?_, hb⟩; have : t' / 2 = t / 2 := ha; omega
      ·right; refine ⟨fun q => ha (by rw [q]), ?_⟩
       cases f with
       | leaf => simp [Tr.get] at hb
       | node v l r => simpa [Tr.get, b2, em'] using hb
     | true =>
      simp only [Tr.get, b2, em', cond_true, cond_false] at h
      refine .inr ⟨fun q => (by rw [q, em] at em'; cases em'), ?_⟩
      cases f with
      | leaf => simp [Tr.get] at h
      | node v l r => simpa [Tr.get, b2, em'] using h
def RF (e : Vl) (σ : List (Nat × Nat × Nat)) (fr : Tr) (l : List (Nat × Value)) : Prop := ∀ t x, fr.get (t + 1) = some x → RelV e σ x (look l t)
theorem RF.mono {fr : Tr} {l : List (Nat × Value)} (x : Ext σ σ') (h : RF e σ fr l) : RF e σ' fr l := fun t y hy => (h t y hy).mono x
theorem RF.put {fr : Tr} {l : List (Nat × Value)} (h : RF e σ fr l) {dst : Option Nat} {x : V} {v : Value} (hv : RelV e σ x v) : RF e σ (putF fr dst x) (putL dst v l) := by
 cases dst with
 | none => exact h
 | some d =>
  intro t y hy
  rcases get_put _ _ _ _ _ _ (by omega) (by omega) hy with ⟨h1, h2⟩ | ⟨h1, h2⟩
  ·have : t = d := by omega
   subst this; subst h2
   simpa [putL, look] using hv
  ·have hne : Nat.beq d t = false := by rw [Bool.eq_false_iff]; intro q; exact h1 (by rw [Nat.eq_of_beq_eq_true q])
   simpa [putL, look, hne] using h t y h2
theorem gv_rel {fr : Tr} {l : List (Nat × Value)} (h : RF e σ fr l) {n : Nat} {x : Operand} {v : V} (hx : gv n fr x = some v) : RelV e σ v (evL n l x) := by
 cases x with
 | tmp t =>
  simp only [gv] at hx
  cases hb : Nat.blt t n with
  | true => simp only [hb, cond_true] at hx; simp only [evL, hb, cond_true]; exact h t v hx
  | false => simp [hb] at hx
 | const u => exact vOf_rel hx
 | global g => cases hx
 | func f => cases hx; exact .one (.fn .nil)
theorem initT_rel : ∀ {xs : List V} {vs : List Value}, RelVs e σ xs vs → ∀ (i : Nat) (fr : Tr) (l : List (Nat × Value)), (∀ t, i ≤ t → fr.get (t + 1) = none) → RF e σ fr l → RF e σ (initT.go (i + 1) xs fr) (initL.go i vs ++ l)
 | _, _, .nil, i, fr, l, _, h => by simpa [initT.go, initL.go] using h
 | _, _, .cons (x := x) (v := v) hx t, i, fr, l, h0, h => by
  simp only [initT.go, initL.go]
  have key := initT_rel t (i + 1) (fr.put 12 (i + 1) x) ((i, v) :: l) (fun t ht => by
   cases hg : (fr.put 12 (i + 1) x).get (t + 1) with
   | none => rfl
   | some y =>
    rcases get_put _ _ _ _ _ _ (by omega) (by omega) hg with ⟨h1, _⟩ | ⟨_, h2⟩
    ·omega
    ·rw [h0 t (by omega)] at h2; cases h2) (RF.put (dst := some i) h hx)
  intro t' y hy
  have := key t' y hy
  have sw : ∀ (vs : List Value) (j : Nat), i < j → look (initL.go j vs ++ (i, v) :: l) t' = look ((i, v) :: (initL.go j vs ++ l)) t' := by
   intro vs
   induction vs with
   | nil => intro j _; rfl
   | cons u r ih =>
    intro j hj
    simp only [initL.go, List.cons_append, look]
    cases hb : Nat.beq j t' with
    | true =>
     have : j = t' := Nat.eq_of_beq_eq_true hb
     have hne : Nat.beq i t' = false := by rw [Bool.eq_false_iff]; intro q; have := Nat.eq_of_beq_eq_true q; omega
     simp [hne]
    | false =>
     simp only [cond_false]
     rw [ih (j + 1) (by omega)]
     rfl
  rw [sw _ _ (by omega)] at this
  exact this
theorem initT_RF {xs : List V} {vs : List Value} (h : RelVs e σ xs vs) : RF e σ (initT xs) (initL vs) := by
 have := initT_rel h 0 .leaf [] (fun _ _ => rfl) (fun t y hy => by simp [Tr.get] at hy)
 simpa [initT, initL] using this
/-! ### what is reckoned first -/
theorem fN_eq {α : Type} (n : Nat) (k : Nat → α) : fN n k = k n := by cases n <;> rfl
theorem fZ_eq {α : Type} (n : Int) (k : Int → α) : fZ n k = k n := by cases n <;> simp [fZ, fN_eq]
theorem fB_eq {α : Type} (n : Bool) (k : Bool → α) : fB n k = k n := by cases n <;> rfl
theorem fC_eq {α : Type} (c : C) (k : C → α) : fC c k = k c := by cases c <;> simp [fC, fN_eq, fZ_eq, fB_eq]
theorem fCs_eq {α : Type} : ∀ (cs : List C) (k : List C → α), fCs cs k = k cs
 | [], _ => rfl
 | c :: cs, k => by simp [fCs, fC_eq, fCs_eq cs]
theorem fV_eq {α : Type} (v : V) (k : V → α) : fV v k = k v := by cases v <;> simp [fV, fC_eq, fCs_eq]
/-! ### memory -/
inductive RM (P : Program) (e : Vl) (σ : List (Nat × Nat × Nat)) : MB → List Blk → Prop where
 | nil : RM P e σ [] []
 | cons {k g c cs vs rest T o m L} (hk : σ[k]? = some (g, 0, c)) (hc : RelCs e σ cs vs) (ho : o = false → rest = []) (hr : o = true → c ≤ maxLen ∧ ∃ i, P.info? T = some i ∧ vs.length + rest.length = c * i.size) (t : RM P e σ m L) : RM P e σ ((k, cs, T, o) :: m) ((g, vs ++ rest, T) :: L)
 | big {k g c x ks rest T o m L} (hk : σ[k]? = some (g, 0, 2 * c + 1)) (hc : c ≤ maxLen) (hi : ∃ i, P.info? T = some i ∧ i.size = ks.length) (hn : (x.lst e).length ≤ c) (hr : (flatL ks (x.lst e)).length + rest.length = c * ks.length) (t : RM P e σ m L) : RM P e σ ((k, [.big x ks], T, o) :: m) ((g, flatL ks (x.lst e) ++ rest, T) :: L)
 | big0 {k g b x ks T o m L} (hk : σ[k]? = some (g, b, 0)) (he : x.lst e = []) (t : RM P e σ m L) : RM P e σ ((k, [.big x ks], T, o) :: m) L
 | frm {k T o m L} (t : RM P e σ m L) : RM P e σ ((k, [.frm], T, o) :: m) (e.fr ++ L)
variable {P : Program}
theorem RM.mono (x : Ext σ σ') : ∀ {m : MB} {L : List Blk}, RM P e σ m L → RM P e σ' m L
 | _, _, .nil => .nil
 | _, _, .cons hk hc ho hr t => .cons (x.get hk) (hc.mono x) ho hr (RM.mono x t)
 | _, _, .big hk hc hi hn hr t => .big (x.get hk) hc hi hn hr (RM.mono x t)
 | _, _, .big0 hk he t => .big0 (x.get hk) he (RM.mono x t)
 | _, _, .frm t => .frm (RM.mono x t)
theorem RM.app {m m' : MB} {L L' : List Blk} (h : RM P e σ m L) (h' : RM P e σ m' L') : RM P e σ (m ++ m') (L ++ L') := by
 match h with
 | .nil => exact h'
 | .cons hk hc ho hr t => exact .cons hk hc ho hr (RM.app t h')
 | .big hk hc hi hn hr t => exact .big hk hc hi hn hr (RM.app t h')
 | .big0 hk he t => exact .big0 hk he (RM.app t h')
 | .frm t => rw [List.append_assoc]; exact .frm (RM.app t h')
theorem RM.app2 {m m' : MB} {L L' : List Blk} (h : RM P e σ m L) (h' : RM P e σ m' L') : RM P e σ (app2 m m') (L ++ L') := by
 cases hm : m' with
 | nil =>
  subst hm
  have h2 : RM P e σ (m ++ []) (L ++ L') := h.app h'
  rw [List.append_nil] at h2; exact h2
 | cons b r => subst hm; exact h.app h'
theorem RelCs.notBig {cs : List C} {vs : List Value} (h : RelCs e σ cs vs) : isBig cs = false := by
 cases h with
 | nil => rfl
 | cons h t => cases h <;> rfl
theorem HasB.left {L : List Blk} {g : Nat} {cs : List Value} {T : TypeId} (h : HasB L g cs T) : ∀ (X : List Blk), HasB (X ++ L) g cs T
 | [] => h
 | b :: X => .next (HasB.left h X)
theorem RM.look2 {m : MB} {L : List Blk} (h : RM P e σ m L) {k : Nat} {cs : List C} {T : TypeId} {o : Bool} (hk : lkB m k = some (cs, T, o)) :
  ∃ g c vs rest, σ[k]? = some (g, 0, c) ∧ RelCs e σ cs vs ∧ (o = false → rest = []) ∧ (o = true → c ≤ maxLen ∧ ∃ i, P.info? T = some i ∧ vs.length + rest.length = c * i.size) ∧ (g, vs ++ rest, T) ∈ L ∧
   ∀ b M', outB m k = some (b, M') → ∃ L', RM P e σ M' L' ∧ L.Perm ((g, vs ++ rest, T) :: L') := by
 match h with
 | .nil => cases hk
 | .cons (k := k') (o := o') hk' hc ho hr t =>
  simp only [lkB, hc.notBig, cond_false] at hk
  simp only [outB]
  cases hb : Nat.beq k' k with
  | true =>
   simp only [hb, cond_true, Option.some.injEq, Prod.mk.injEq] at hk ⊢
   obtain ⟨rfl, rfl, rfl⟩ := hk
   rw [← Nat.eq_of_beq_eq_true hb]
   refine ⟨_, _, _, _, hk', hc, ho, hr, .head _, ?_⟩
   rintro b M' ⟨_, rfl⟩
   exact ⟨_, t, List.Perm.refl _⟩
  | false =>
   simp only [hb, cond_false] at hk ⊢
   obtain ⟨g, c, vs, rest, a1, a2, a3, a4, a5, a6⟩ := RM.look2 t hk
   refine ⟨g, c, vs, rest, a1, a2, a3, a4, .tail _ a5, ?_⟩
   intro b M' hout
   split at hout
   ·rename_i b' r' hr'
    cases hout
    obtain ⟨L', b1, b2⟩ := a6 _ _ hr'
    exact ⟨_, .cons hk' hc ho hr b1, (b2.cons _).trans (List.Perm.swap _ _ _)⟩
   ·cases hout
 | .big (k := k') hk' hc hi hn hr t =>
  simp only [lkB, isBig, cond_true] at hk
  simp only [outB]
  cases hb : Nat.beq k' k with
  | true => simp only [hb, cond_true] at hk; cases hk
  | false =>
   simp only [hb, cond_false] at hk ⊢
   obtain ⟨g, c, vs, rest, a1, a2, a3, a4, a5, a6⟩ := RM.look2 t hk
   refine ⟨g, c, vs, rest, a1, a2, a3, a4, .tail _ a5, ?_⟩
   intro b M' hout
   split at hout
   ·rename_i b' r' hr'
    cases hout
    obtain ⟨L', b1, b2⟩ := a6 _ _ hr'
    exact ⟨_, .big hk' hc hi hn hr b1, (b2.cons _).trans (List.Perm.swap _ _ _)⟩
   ·cases hout
 | .big0 (k := k') hk' he t =>
  simp only [lkB, isBig, cond_true] at hk
  simp only [outB]
  cases hb : Nat.beq k' k with
  | true => simp only [hb, cond_true] at hk; cases hk
  | false =>
   simp only [hb, cond_false] at hk ⊢
   obtain ⟨g, c, vs, rest, a1, a2, a3, a4, a5, a6⟩ := RM.look2 t hk
   refine ⟨g, c, vs, rest, a1, a2, a3, a4, a5, ?_⟩
   intro b M' hout
   split at hout
   ·rename_i b' r' hr'
    cases hout
    obtain ⟨L', b1, b2⟩ := a6 _ _ hr'
    exact ⟨_, .big0 hk' he b1, b2⟩
   ·cases hout
 | .frm (k := k') (L := L0) t =>
  simp only [lkB, isBig, cond_true] at hk
  simp only [outB]
  cases hb : Nat.beq k' k with
  | true => simp only [hb, cond_true] at hk; cases hk
  | false =>
   simp only [hb, cond_false] at hk ⊢
   obtain ⟨g, c, vs, rest, a1, a2, a3, a4, a5, a6⟩ := RM.look2 t hk
   refine ⟨g, c, vs, rest, a1, a2, a3, a4, List.mem_append_right _ a5, ?_⟩
   intro b M' hout
   split at hout
   ·rename_i b' r' hr'
    cases hout
    obtain ⟨L', b1, b2⟩ := a6 _ _ hr'
    exact ⟨_, .frm b1, (List.Perm.append_left e.fr b2).trans (List.perm_middle)⟩
   ·cases hout
theorem RM.look {m : MB} {L : List Blk} (h : RM P e σ m L) {k : Nat} {cs : List C} {T : TypeId} {o : Bool} (hk : lkB m k = some (cs, T, o)) :
  ∃ g c vs rest, σ[k]? = some (g, 0, c) ∧ RelCs e σ cs vs ∧ (g, vs ++ rest, T) ∈ L := by
 obtain ⟨g, c, vs, rest, a1, a2, _, _, a5, _⟩ := h.look2 hk
 exact ⟨g, c, vs, rest, a1, a2, a5⟩
theorem RM.lookL {m : MB} {L : List Blk} (h : RM P e σ m L) {k : Nat} {x : SE} {ks : Ks} {T : TypeId} (hk : lkL m k = some (x, ks, T)) :
  (∃ g b, σ[k]? = some (g, b, 0) ∧ x.lst e = [] ∧ ∀ b M', outB m k = some (b, M') → RM P e σ M' L) ∨
  (∃ g c rest, σ[k]? = some (g, 0, 2 * c + 1) ∧ c ≤ maxLen ∧ (∃ i, P.info? T = some i ∧ i.size = ks.length) ∧ (x.lst e).length ≤ c ∧ (flatL ks (x.lst e)).length + rest.length = c * ks.length ∧ (g, flatL ks (x.lst e) ++ rest, T) ∈ L ∧
   ∀ b M', outB m k = some (b, M') → ∃ L', RM P e σ M' L' ∧ L.Perm ((g, flatL ks (x.lst e) ++ rest, T) :: L')) := by
 match h with
 | .nil => cases hk
 | .cons (k := k') (o := o') (cs := cs') hk' hc ho hr t =>
  have hne : ∀ z zs, (match cs' with | [.big x ks] => some (x, ks, (z : TypeId)) | _ => none) ≠ some zs := fun z zs q => by
   have := hc.notBig
   split at q
   ·cases this
   ·cases q
  simp only [lkL] at hk
  simp only [outB]
  cases hb : Nat.beq k' k with
  | true => simp only [hb, cond_true] at hk; exact absurd hk (hne _ _)
  | false =>
   simp only [hb, cond_false] at hk ⊢
   rcases RM.lookL t hk with ⟨g, b, a1, a2, a3⟩ | ⟨g, c, rest, a1, a2, a3, a4, a5, a6, a7⟩
   ·refine .inl ⟨g, b, a1, a2, fun b M' hout => ?_⟩
    split at hout
    ·rename_i b' r' hr'; cases hout; exact .cons hk' hc ho hr (a3 _ _ hr')
    ·cases hout
   ·refine .inr ⟨g, c, rest, a1, a2, a3, a4, a5, .tail _ a6, fun b M' hout => ?_⟩
    split at hout
    ·rename_i b' r' hr'; cases hout
     obtain ⟨L', b1, b2⟩ := a7 _ _ hr'
     exact ⟨_, .cons hk' hc ho hr b1, (b2.cons _).trans (List.Perm.swap _ _ _)⟩
    ·cases hout
 | .big (k := k') hk' hc hi hn hr t =>
  simp only [lkL] at hk
  simp only [outB]
  cases hb : Nat.beq k' k with
  | true =>
   simp only [hb, cond_true, Option.some.injEq, Prod.mk.injEq] at hk ⊢
   obtain ⟨rfl, rfl, rfl⟩ := hk
   rw [← Nat.eq_of_beq_eq_true hb]
   refine .inr ⟨_, _, _, hk', hc, hi, hn, hr, .head _, ?_⟩
   rintro b M' ⟨_, rfl⟩
   exact ⟨_, t, List.Perm.refl _⟩
  | false =>
   simp only [hb, cond_false] at hk ⊢
   rcases RM.lookL t hk with ⟨g, b, a1, a2, a3⟩ | ⟨g, c, rest, a1, a2, a3, a4, a5, a6, a7⟩
   ·refine .inl ⟨g, b, a1, a2, fun b M' hout => ?_⟩
    split at hout
    ·rename_i b' r' hr'; cases hout; exact .big hk' hc hi hn hr (a3 _ _ hr')
    ·cases hout
   ·refine .inr ⟨g, c, rest, a1, a2, a3, a4, a5, .tail _ a6, fun b M' hout => ?_⟩
    split at hout
    ·rename_i b' r' hr'; cases hout
     obtain ⟨L', b1, b2⟩ := a7 _ _ hr'
     exact ⟨_, .big hk' hc hi hn hr b1, (b2.cons _).trans (List.Perm.swap _ _ _)⟩
    ·cases hout
 | .big0 (k := k') hk' he t =>
  simp only [lkL] at hk
  simp only [outB]
  cases hb : Nat.beq k' k with
  | true =>
   simp only [hb, cond_true, Option.some.injEq, Prod.mk.injEq] at hk ⊢
   obtain ⟨rfl, rfl, rfl⟩ := hk
   rw [← Nat.eq_of_beq_eq_true hb]
   refine .inl ⟨_, _, hk', he, ?_⟩
   rintro b M' ⟨_, rfl⟩
   exact t
  | false =>
   simp only [hb, cond_false] at hk ⊢
   rcases RM.lookL t hk with ⟨g, b, a1, a2, a3⟩ | ⟨g, c, rest, a1, a2, a3, a4, a5, a6, a7⟩
   ·refine .inl ⟨g, b, a1, a2, fun b M' hout => ?_⟩
    split at hout
    ·rename_i b' r' hr'; cases hout; exact .big0 hk' he (a3 _ _ hr')
    ·cases hout
   ·refine .inr ⟨g, c, rest, a1, a2, a3, a4, a5, a6, fun b M' hout => ?_⟩
    split at hout
    ·rename_i b' r' hr'; cases hout
     obtain ⟨L', b1, b2⟩ := a7 _ _ hr'
     exact ⟨_, .big0 hk' he b1, b2⟩
    ·cases hout
 | .frm (k := k') t =>
  simp only [lkL] at hk
  simp only [outB]
  cases hb : Nat.beq k' k with
  | true => simp only [hb, cond_true] at hk; cases hk
  | false =>
   simp only [hb, cond_false] at hk ⊢
   rcases RM.lookL t hk with ⟨g, b, a1, a2, a3⟩ | ⟨g, c, rest, a1, a2, a3, a4, a5, a6, a7⟩
   ·refine .inl ⟨g, b, a1, a2, fun b M' hout => ?_⟩
    split at hout
    ·rename_i b' r' hr'; cases hout; exact .frm (a3 _ _ hr')
    ·cases hout
   ·refine .inr ⟨g, c, rest, a1, a2, a3, a4, a5, List.mem_append_right _ a6, fun b M' hout => ?_⟩
    split at hout
    ·rename_i b' r' hr'; cases hout
     obtain ⟨L', b1, b2⟩ := a7 _ _ hr'
     exact ⟨_, .frm b1, (List.Perm.append_left e.fr b2).trans (List.perm_middle)⟩
    ·cases hout
def Opn (P : Program) (T : TypeId) (o : Bool) (n c : Nat) : Prop := o = true → ∃ i, P.info? T = some i ∧ n ≤ c * i.size
structure FS (P : Program) (e : Vl) (σ : List (Nat × Nat × Nat)) (m : List MB) : Prop where
 n : ∀ k cs T o, lkM m k = some (cs, T, o) → ∃ g b c vs, σ[k]? = some (g, b, c) ∧ RelCs e σ cs vs ∧ Opn P T o vs.length c
 l : ∀ k x ks T, lkLM m k = some (x, ks, T) → ∃ g b c, σ[k]? = some (g, b, c) ∧ (x.lst e).length ≤ maxLen ∧ (c = 0 → x.lst e = [])
structure FR (P : Program) (e : Vl) (σ : List (Nat × Nat × Nat)) (m : List MB) (w : World) : Prop where
 n : ∀ k cs T o, lkM m k = some (cs, T, o) → ∃ g b c vs, σ[k]? = some (g, b, c) ∧ RelCs e σ cs vs ∧ g < w.heap.size ∧ (∀ (j : Nat) (v : Value), vs[j]? = some v → w.cell? ⟨g, b + j, none⟩ = some v) ∧ Opn P T o vs.length c
 l : ∀ k x ks T, lkLM m k = some (x, ks, T) → ∃ g b c, σ[k]? = some (g, b, c) ∧ (x.lst e).length ≤ maxLen ∧ (c = 0 → x.lst e = []) ∧ ∀ (j : Nat) (v : Value), (flatL ks (x.lst e))[j]? = some v → g < w.heap.size ∧ w.cell? ⟨g, b + j, none⟩ = some v
theorem FR.fs {m : List MB} {w : World} (h : FR P e σ m w) : FS P e σ m := ⟨fun k cs T o hk => by
 obtain ⟨g, b, c, vs, h1, h2, _, _, h5⟩ := h.n k cs T o hk
 exact ⟨g, b, c, vs, h1, h2, h5⟩, fun k x ks T hk => by
 obtain ⟨g, b, c, h1, h2, h3, _⟩ := h.l k x ks T hk
 exact ⟨g, b, c, h1, h2, h3⟩⟩
theorem FR.mono {m : List MB} {w : World} (x : Ext σ σ') (h : FR P e σ m w) : FR P e σ' m w := ⟨fun k cs T o hk => by
 obtain ⟨g, b, c, vs, h1, h2, h3, h4, h5⟩ := h.n k cs T o hk
 exact ⟨g, b, c, vs, x.get h1, h2.mono x, h3, h4, h5⟩, fun k y ks T hk => by
 obtain ⟨g, b, c, h1, h2⟩ := h.l k y ks T hk
 exact ⟨g, b, c, x.get h1, h2⟩⟩
theorem FR.later {m : List MB} {w w' : World} {n : Nat} (hb : Below n w w') (hn : w.heap.size ≤ n) (h : FR P e σ m w) : FR P e σ m w' := ⟨fun k cs T o hk => by
 obtain ⟨g, b, c, vs, h1, h2, h3, h4, h5⟩ := h.n k cs T o hk
 refine ⟨g, b, c, vs, h1, h2, ?_, fun j v hj => ?_, h5⟩
 ·have := hb.size; omega
 ·rw [hb.cell (p := ⟨g, b + j, none⟩) (by show g < n; omega)]; exact h4 j v hj, fun k y ks T hk => by
 obtain ⟨g, b, c, h1, h2, h3, h4⟩ := h.l k y ks T hk
 refine ⟨g, b, c, h1, h2, h3, fun j v hj => ?_⟩
 obtain ⟨h5, h6⟩ := h4 j v hj
 refine ⟨by have := hb.size; omega, ?_⟩
 rw [hb.cell (p := ⟨g, b + j, none⟩) (by show g < n; omega)]; exact h6⟩
theorem FR.nil {w : World} : FR P e σ [] w := ⟨fun k cs T o hk => (by cases hk), fun k cs T o hk => (by cases hk)⟩
theorem FS.nil : FS P e σ [] := ⟨fun k cs T o hk => (by cases hk), fun k cs T o hk => (by cases hk)⟩
theorem lkM_cons {m : MB} {F : List MB} {k : Nat} {x : List C × TypeId × Bool} (h : lkM (m :: F) k = some x) : lkB m k = some x ∨ lkM F k = some x := by
 simp only [lkM] at h
 cases hl : lkB m k with
 | some y => rw [hl] at h; exact .inl h
 | none => rw [hl] at h; exact .inr h
theorem lkLM_cons {m : MB} {F : List MB} {k : Nat} {x : SE × Ks × TypeId} (h : lkLM (m :: F) k = some x) : lkL m k = some x ∨ lkLM F k = some x := by
 simp only [lkLM] at h
 cases hl : lkL m k with
 | some y => rw [hl] at h; exact .inl h
 | none => rw [hl] at h; exact .inr h
theorem FS.cons {m : MB} {F : List MB} {L : List Blk} (h : RM P e σ m L) (hF : FS P e σ F) : FS P e σ (m :: F) := ⟨fun k cs T o hk => by
 rcases lkM_cons hk with h1 | h1
 ·obtain ⟨g, c, vs, rest, a1, a2, _, a4, _⟩ := h.look2 h1
  exact ⟨g, 0, c, vs, a1, a2, fun ho => by obtain ⟨_, i, b1, b2⟩ := a4 ho; exact ⟨i, b1, by omega⟩⟩
 ·exact hF.n k cs T o h1, fun k x ks T hk => by
 rcases lkLM_cons hk with h1 | h1
 ·rcases h.lookL h1 with ⟨g, b, a1, a2, _⟩ | ⟨g, c, rest, a1, a2, a3, a4, a5, _⟩
  ·exact ⟨g, b, _, a1, by rw [a2]; exact Nat.zero_le _, fun _ => a2⟩
  ·exact ⟨g, 0, _, a1, by omega, fun q => by omega⟩
 ·exact hF.l k x ks T h1⟩
theorem FR.cons {m : MB} {F : List MB} {L L' : List Blk} {w0 w : World} (h : RM P e σ m L) (hw : Own w0 L' w) (hs : ∀ b ∈ L, b ∈ L') (hF : FR P e σ F w) : FR P e σ (m :: F) w := ⟨fun k cs T o hk => by
 rcases lkM_cons hk with h1 | h1
 ·obtain ⟨g, c, vs, rest, a1, a2, _, a4, a3, _⟩ := h.look2 h1
  have hm := hs _ a3
  have hheld : w.heap[g]? = some (.cells (vs ++ rest).toArray T (0, 0)) := hw.held _ hm
  refine ⟨g, 0, c, vs, a1, a2, (Array.getElem?_eq_some_iff.1 hheld).1, fun j v hj => ?_, fun ho => by obtain ⟨_, i, b1, b2⟩ := a4 ho; exact ⟨i, b1, by omega⟩⟩
  rw [cell_of_row w g (0 + j) (vs ++ rest).toArray T (0, 0) hheld]
  simp only [Nat.zero_add, List.getElem?_toArray]
  rw [List.getElem?_append_left (List.getElem?_eq_some_iff.1 hj).1]; exact hj
 ·exact hF.n k cs T o h1, fun k x ks T hk => by
 rcases lkLM_cons hk with h1 | h1
 ·rcases h.lookL h1 with ⟨g, b, a1, a2, _⟩ | ⟨g, c, rest, a1, a2, a3, a4, a5, a6, _⟩
  ·exact ⟨g, b, _, a1, by rw [a2]; exact Nat.zero_le _, fun _ => a2, fun j v hj => by rw [a2] at hj; simp [flatL] at hj⟩
  ·have hm := hs _ a6
   have hheld : w.heap[g]? = some (.cells (flatL ks (x.lst e) ++ rest).toArray T (0, 0)) := hw.held _ hm
   refine ⟨g, 0, _, a1, by omega, fun q => by omega, fun j v hj => ⟨(Array.getElem?_eq_some_iff.1 hheld).1, ?_⟩⟩
   rw [cell_of_row w g (0 + j) (flatL ks (x.lst e) ++ rest).toArray T (0, 0) hheld]
   simp only [Nat.zero_add, List.getElem?_toArray]
   rw [List.getElem?_append_left (List.getElem?_eq_some_iff.1 hj).1]; exact hj
 ·exact hF.l k x ks T h1⟩
end
end Go.Proofs.Ytedfbamihjnhhaa.Own
