/- A walk by reckoning: states as patterns, which are matched by states. -/
import Derived.Test.YtedfbamihjnhhaaFvY
namespace Go.Proofs.Ytedfbamihjnhhaa.Own
open Go Go.RowKit
set_option linter.unusedVariables false
set_option linter.unusedSimpArgs false
def frOf : List (Nat × V) → Tr
 | [] => .leaf
 | (t, v) :: r => (frOf r).put 12 (t + 1) v
theorem frOf_RF {e : Vl} {σ : List (Nat × Nat × Nat)} : ∀ {S : List (Nat × V)} {l : List (Nat × Value)}, (∀ p ∈ S, RelV e σ p.2 (look l p.1)) → RF e σ (frOf S) l
 | [], l, _ => fun t x hx => by simp [frOf, Tr.get] at hx
 | (t, v) :: r, l, h => fun t' x hx => by
  rcases get_put _ _ _ _ _ _ (by omega) (by omega) hx with ⟨h1, rfl⟩ | ⟨h1, h2⟩
  ·have : t' = t := by omega
   subst this; exact h _ (.head _)
  ·exact frOf_RF (fun p hp => h p (.tail _ hp)) t' x h2
theorem val_congr {E E' : Env} (h1 : E.iv = E'.iv) (h2 : E.bv = E'.bv) (h3 : E.F = E'.F) (x : SE) : x.val E = x.val E' ∧ x.vals E = x.vals E' := by
 induction x <;> (constructor <;> simp_all [SE.val, SE.vals])
def envX (F : Nat → List Int → List Int) (xs : List Int) (av : Nat → Value) (fr : List Blk) : Env :=
 { iv := fun i => xs.getD i 0, bv := fun i => xs.getD i 0 != 0, F := fun f i ys => (F f ys).getD i 0, pv := fun _ => .bool false, pv1 := fun _ => rfl, av := av, fr := fr }
theorem envX_val {F : Nat → List Int → List Int} {xs : List Int} {av : Nat → Value} {fr : List Blk} (x : SE) : x.val (envX F xs av fr) = x.val (envOf F xs) := (val_congr (E := envX F xs av fr) (E' := envOf F xs) rfl rfl rfl x).1
/-! ### what patterns are bound to: terms by number, blocks by number -/
structure Bd where
 ts : List SE
 ks : List (Nat × Option Nat)
def lookR : List (Nat × Option Nat) → Nat → Option (Option Nat)
 | [], _ => none
 | (k, y) :: r, t => bif Nat.beq k t then some y else lookR r t
def bindV (j : Nat) (x : SE) (b : Bd) : Option Bd :=
 bif Nat.beq j b.ts.length then some ⟨b.ts ++ [x], b.ks⟩ else
 match b.ts[j]? with
 | some y => bif decide (y = x) then some b else none
 | none => none
def bindK (kp : Nat) (ka : Option Nat) (b : Bd) : Option Bd :=
 match lookR b.ks kp with
 | none => some ⟨b.ts, (kp, ka) :: b.ks⟩
 | some ka' => bif decide (ka' = ka) then some b else none
mutual
def mCell (p c : C) (b : Bd) : Option Bd :=
 match p with
 | .opq (.ivar k j) => (match toK (some k) c with | some x => bindV j x b | none => none)
 | .opq (.bvar j) => (match toK none c with | some x => bindV j x b | none => none)
 | .sli kp (.lvar j) => (match c with
  | .sli ka x => (match bindK kp (some ka) b with | some b1 => bindV j x b1 | none => none)
  | .nils => (match bindK kp none b with | some b1 => bindV j .lnil b1 | none => none)
  | _ => none)
 | .opq (.len (.lvar j)) => (match toK (some .i64) c with | some x => (match b.ts[j]? with | some y => bif decide (x = lenT y) then some b else none | none => none) | none => none)
 | .sts (.lvar j) => (match strT c with | some x => bindV j x b | none => none)
 | .ptr kp o => (match c with | .ptr ka o' => bif Nat.beq o o' then bindK kp (some ka) b else none | _ => none)
 | .sl kp o l q => (match c with | .sl ka o' l' q' => bif Nat.beq o o' && (Nat.beq l l' && Nat.beq q q') then bindK kp (some ka) b else none | _ => none)
 | .slo kp l => (match c with | .slo ka l' => bif Nat.beq l l' then bindK kp (some ka) b else none | _ => none)
 | .fn f ps => (match c with | .fn f' cs => bif Nat.beq f f' then mCells ps cs b else none | _ => none)
 | .int k n => (match c with | .int k' n' => bif decide (k = k') && decide (n = n') then some b else none | _ => none)
 | .bool x => (match c with | .bool x' => bif x == x' then some b else none | _ => none)
 | .nilp => (match c with | .nilp => some b | _ => none)
 | .nils => (match c with | .nils => some b | _ => none)
 | .str s => (match c with | .str s' => bif decide (s = s') then some b else none | _ => none)
 | _ => none
def mCells (ps cs : List C) (b : Bd) : Option Bd :=
 match ps with
 | [] => (match cs with | [] => some b | _ => none)
 | p :: ps' => (match cs with
  | c :: cs' => (match mCell p c b with | some b1 => mCells ps' cs' b1 | none => none)
  | [] => none)
end
def mV (p v : V) (b : Bd) : Option Bd :=
 match p, v with
 | .one p, .one c => mCell p c b
 | .agg ps, .agg cs => mCells ps cs b
 | .any i, .any i' => bif Nat.beq i i' then some b else none
 | _, _ => none
def mS (en : Bool) : List (Nat × V) → Tr → Bd → Option Bd
 | [], _, b => some b
 | (t, p) :: r, fr, b =>
  bif (match p with | .any i => en && Nat.beq i t | _ => false) then mS en r fr b else
  match fr.get (t + 1) with
  | some v => (match mV p v b with | some b1 => mS en r fr b1 | none => none)
  | none => none
def mBlk (ps cs : List C) (b : Bd) : Option Bd :=
 match ps with
 | [.big (.lvar j) ks] => (match cs with | [.big x ks'] => bif decide (ks = ks') then bindV j x b else none | _ => none)
 | ps => bif isBig cs then none else mCells ps cs b
def mM : MB → MB → Bd → Option (Bd × MB)
 | [], m, b => some (b, m)
 | (kp, ps, T, o) :: r, m, b =>
  match lookR b.ks kp with
  | some (some ka) => (match outB m ka with
   | some ((_, cs, T', o'), m') => bif Nat.beq T T' && (o == o') then (match mBlk ps cs b with | some b1 => mM r m' b1 | none => none) else none
   | none => none)
  | some none => (match ps with | [.big (.lvar j) _] => (match bindV j .lnil b with | some b1 => mM r m b1 | none => none) | _ => none)
  | none => none
def mF : MB → List MB → Bd → Option Bd
 | [], _, b => some b
 | (kp, ps, T, o) :: r, F, b =>
  match lookR b.ks kp with
  | some (some ka) => (match ps with
   | [.big (.lvar j) ks] => (match lkLM F ka with
    | some (x, ks', T') => bif decide (ks = ks') && Nat.beq T T' then (match bindV j x b with | some b1 => mF r F b1 | none => none) else none
    | none => none)
   | ps => (match lkM F ka with
    | some (cs, T', o') => bif Nat.beq T T' && (o == o') then (match mCells ps cs b with | some b1 => mF r F b1 | none => none) else none
    | none => none))
  | some none => (match ps with | [.big (.lvar j) _] => (match bindV j .lnil b with | some b1 => mF r F b1 | none => none) | _ => none)
  | none => none
def keyC : C → Bool
 | .ptr _ _ | .sl _ _ _ _ | .slo _ _ | .sli _ _ | .fn _ (_ :: _) => true
 | _ => false
def late (p : Nat × V) : Bool := match p.2 with
 | .one c => !keyC c
 | .agg cs => !cs.any keyC
 | _ => true
def soon (p : Nat × V) : Bool := !late p
theorem soon_late {Q : Nat × V → Prop} {S : List (Nat × V)} (h1 : ∀ p ∈ S.filter soon, Q p) (h2 : ∀ p ∈ S.filter late, Q p) : ∀ p ∈ S, Q p := fun p hp => by
 cases hl : late p with
 | true => exact h2 p (List.mem_filter.2 ⟨hp, hl⟩)
 | false => exact h1 p (List.mem_filter.2 ⟨hp, by unfold soon; rw [hl]; rfl⟩)
/-! ### what is matched stands for the same -/
def SubB (b b' : Bd) : Prop := (∃ t, b'.ts = b.ts ++ t) ∧ ∀ kp o, lookR b.ks kp = some o → lookR b'.ks kp = some o
theorem SubB.refl (b : Bd) : SubB b b := ⟨⟨[], by simp⟩, fun _ _ h => h⟩
theorem SubB.trans {a b c : Bd} (h : SubB a b) (h' : SubB b c) : SubB a c := by
 obtain ⟨⟨t, ht⟩, h1⟩ := h
 obtain ⟨⟨u, hu⟩, h2⟩ := h'
 exact ⟨⟨t ++ u, by rw [hu, ht, List.append_assoc]⟩, fun k o q => h2 k o (h1 k o q)⟩
theorem SubB.get {b b' : Bd} (h : SubB b b') {j : Nat} {x : SE} (hx : b.ts[j]? = some x) : b'.ts[j]? = some x := by
 obtain ⟨⟨t, ht⟩, _⟩ := h
 rw [ht, List.getElem?_append_left (List.getElem?_eq_some_iff.1 hx).1]; exact hx
theorem bindV_spec {j : Nat} {x : SE} {b b' : Bd} (h : bindV j x b = some b') : SubB b b' ∧ b'.ts[j]? = some x := by
 unfold bindV at h
 cases hb : Nat.beq j b.ts.length with
 | true =>
  rw [hb, cond_true] at h; cases h
  have := Nat.eq_of_beq_eq_true hb
  subst this
  exact ⟨⟨⟨[x], rfl⟩, fun _ _ h => h⟩, by simp⟩
 | false =>
  rw [hb, cond_false] at h
  split at h
  ·rename_i y hy
   cases hd : decide (y = x) with
   | true => rw [hd, cond_true] at h; cases h; rw [← of_decide_eq_true hd]; exact ⟨SubB.refl _, hy⟩
   | false => rw [hd, cond_false] at h; cases h
  ·cases h
theorem bindK_spec {kp : Nat} {ka : Option Nat} {b b' : Bd} (h : bindK kp ka b = some b') : SubB b b' ∧ lookR b'.ks kp = some ka := by
 unfold bindK at h
 split at h
 ·rename_i hn
  cases h
  refine ⟨⟨⟨[], by simp⟩, fun k o q => ?_⟩, ?_⟩
  ·simp only [lookR]
   cases hb : Nat.beq kp k with
   | true => rw [Nat.eq_of_beq_eq_true hb, q] at hn; cases hn
   | false => exact q
  ·simp only [lookR, Nat.beq_refl, cond_true]
 ·rename_i ka' hk
  cases hd : decide (ka' = ka) with
  | true => rw [hd, cond_true] at h; cases h; rw [← of_decide_eq_true hd]; exact ⟨SubB.refl _, hk⟩
  | false => rw [hd, cond_false] at h; cases h
theorem bif_some2' {α : Type} {c : Bool} {x : Option α} {y : α} (h : (bif c then x else none) = some y) : x = some y := by cases c <;> first | exact h | cases h
theorem bif_some2 {α : Type} {c : Bool} {x : Option α} {y : α} (h : (bif c then x else none) = some y) : x = some y := by cases c <;> first | exact h | cases h
structure Tgt (b : Bd) (E E' : Env) (σ σ' : List (Nat × Nat × Nat)) : Prop where
 iv : ∀ j x, b.ts[j]? = some x → E'.iv j = x.val E
 bv : ∀ j x, b.ts[j]? = some x → E'.bv j = (x.val E != 0)
 ka : ∀ kp ka, lookR b.ks kp = some (some ka) → ∀ y, σ[ka]? = some y → σ'[kp]? = some y
 kn : ∀ kp, lookR b.ks kp = some none → ∃ g bb, σ'[kp]? = some (g, bb, 0)
theorem Tgt.sub {b b' : Bd} {E E' : Env} {σ σ' : List (Nat × Nat × Nat)} (h : Tgt b' E E' σ σ') (s : SubB b b') : Tgt b E E' σ σ' :=
 ⟨fun j x hx => h.iv j x (s.get hx), fun j x hx => h.bv j x (s.get hx), fun kp ka hk => h.ka kp ka (s.2 _ _ hk), fun kp hk => h.kn kp (s.2 _ _ hk)⟩
mutual
theorem mCell_sub : ∀ (p c : C) {b b' : Bd}, mCell p c b = some b' → SubB b b'
 | p, c, b, b', h => by
  unfold mCell at h
  split at h
  ·split at h
   ·exact (bindV_spec h).1
   ·cases h
  ·split at h
   ·exact (bindV_spec h).1
   ·cases h
  ·split at h
   ·split at h
    ·rename_i b1 h1; exact (bindK_spec h1).1.trans (bindV_spec h).1
    ·cases h
   ·split at h
    ·rename_i b1 h1; exact (bindK_spec h1).1.trans (bindV_spec h).1
    ·cases h
   ·cases h
  ·split at h
   ·split at h
    ·cases bif_some2 h; exact SubB.refl _
    ·cases h
   ·cases h
  ·split at h
   ·exact (bindV_spec h).1
   ·cases h
  ·split at h
   ·exact (bindK_spec (bif_some2 h)).1
   ·cases h
  ·split at h
   ·exact (bindK_spec (bif_some2 h)).1
   ·cases h
  ·split at h
   ·exact (bindK_spec (bif_some2 h)).1
   ·cases h
  ·split at h
   ·exact mCells_sub _ _ (bif_some2 h)
   ·cases h
  ·split at h
   ·cases bif_some2 h; exact SubB.refl _
   ·cases h
  ·split at h
   ·cases bif_some2 h; exact SubB.refl _
   ·cases h
  ·split at h
   ·cases h; exact SubB.refl _
   ·cases h
  ·split at h
   ·cases h; exact SubB.refl _
   ·cases h
  ·split at h
   ·cases bif_some2 h; exact SubB.refl _
   ·cases h
  ·cases h
theorem mCells_sub : ∀ (ps cs : List C) {b b' : Bd}, mCells ps cs b = some b' → SubB b b'
 | ps, cs, b, b', h => by
  unfold mCells at h
  split at h
  ·split at h
   ·cases h; exact SubB.refl _
   ·cases h
  ·split at h
   ·split at h
    ·rename_i b1 h1; exact (mCell_sub _ _ h1).trans (mCells_sub _ _ h)
    ·cases h
   ·cases h
end
section
variable {E E' : Env} {σ σ' : List (Nat × Nat × Nat)} {P : Program}
theorem Tgt.lst {b : Bd} (h : Tgt b E E' σ σ') {j : Nat} {x : SE} (hx : b.ts[j]? = some x) : (SE.lvar j).lst E' = x.lst E := by
 simp only [SE.lst, SE.val, h.iv j x hx]
mutual
theorem mCell_rel : ∀ (p c : C) {b b' : Bd} {v : Value}, mCell p c b = some b' → Tgt b' E E' σ σ' → RelC E σ c v → RelC E' σ' p v
 | p, c, b, b', v, h, g, hr => by
  unfold mCell at h
  split at h
  ·rename_i k j
   split at h
   ·rename_i x hx
    obtain ⟨_, hj⟩ := bindV_spec h
    obtain ⟨e1, e2⟩ := toK_rel hx hr
    have := rel_opq (e := E') (σ := σ') (.ivar k j)
    have e3 : eS E' (.ivar k j) = v := by
     rw [e1, eS_k (k := some k) rfl]
     simp only [SE.val, g.iv j x hj]
     rw [show k.wrap (x.val E) = x.val E from e2]
    rw [e3] at this; exact this
   ·cases h
  ·rename_i j
   split at h
   ·rename_i x hx
    obtain ⟨_, hj⟩ := bindV_spec h
    obtain ⟨e1, e2⟩ := toK_rel hx hr
    have := rel_opq (e := E') (σ := σ') (.bvar j)
    have e3 : eS E' (.bvar j) = v := by
     rw [e1, eS_k (k := none) rfl]
     simp only [SE.val, g.bv j x hj, cellV, b2i_ne]
    rw [e3] at this; exact this
   ·cases h
  ·rename_i kp j
   split at h
   ·rename_i ka x
    split at h
    ·rename_i b1 h1
     obtain ⟨s2, hj⟩ := bindV_spec h
     obtain ⟨_, hk⟩ := bindK_spec h1
     cases hr with | sli hg =>
     have := RelC.sli (e := E') (x := .lvar j) (g.ka _ _ (s2.2 _ _ hk) _ hg)
     rw [g.lst hj] at this; exact this
    ·cases h
   ·split at h
    ·rename_i b1 h1
     obtain ⟨s2, hj⟩ := bindV_spec h
     obtain ⟨_, hk⟩ := bindK_spec h1
     cases hr
     obtain ⟨gg, bb, hg⟩ := g.kn _ (s2.2 _ _ hk)
     have := RelC.sli (e := E') (x := .lvar j) hg
     rw [g.lst hj, lst_lnil] at this; exact this
    ·cases h
   ·cases h
  ·rename_i j
   split at h
   ·rename_i x hx
    split at h
    ·rename_i y hy
     cases hb : decide (x = lenT y) with
     | false => rw [hb, cond_false] at h; cases h
     | true =>
      rw [hb, cond_true] at h; cases h
      have hxy := of_decide_eq_true hb
      subst hxy
      obtain ⟨e1, _⟩ := toK_rel hx hr
      have := rel_opq (e := E') (σ := σ') (.len (.lvar j))
      have e3 : eS E' (.len (.lvar j)) = v := by
       have e4 := lenT_eS (e := E') (.lvar j)
       rw [g.lst hy] at e4
       have e5 := lenT_val (e := E) y
       rw [e1, e5.1]; exact e4
      rw [e3] at this; exact this
    ·cases h
   ·cases h
  ·rename_i j
   split at h
   ·rename_i x hx
    obtain ⟨_, hj⟩ := bindV_spec h
    rw [strT_rel hx hr, ← g.lst hj]
    exact .sts
   ·cases h
  ·rename_i kp o
   split at h
   ·rename_i ka o'
    cases hb : Nat.beq o o' with
    | false => rw [hb, cond_false] at h; cases h
    | true =>
     rw [hb, cond_true] at h
     have := Nat.eq_of_beq_eq_true hb
     subst this
     cases hr with | ptr hg =>
     exact .ptr (g.ka _ _ (bindK_spec h).2 _ hg)
   ·cases h
  ·rename_i kp o l q
   split at h
   ·rename_i ka o' l' q'
    cases hb : (Nat.beq o o' && (Nat.beq l l' && Nat.beq q q')) with
    | false => rw [hb, cond_false] at h; cases h
    | true =>
     rw [hb, cond_true] at h
     simp only [Bool.and_eq_true] at hb
     obtain ⟨h1, h2, h3⟩ := hb
     have h1 := Nat.eq_of_beq_eq_true h1
     have h2 := Nat.eq_of_beq_eq_true h2
     have h3 := Nat.eq_of_beq_eq_true h3
     subst h1; subst h2; subst h3
     cases hr with | sl hg =>
     exact .sl (g.ka _ _ (bindK_spec h).2 _ hg)
   ·cases h
  ·rename_i kp l
   split at h
   ·rename_i ka l'
    cases hb : Nat.beq l l' with
    | false => rw [hb, cond_false] at h; cases h
    | true =>
     rw [hb, cond_true] at h
     have := Nat.eq_of_beq_eq_true hb
     subst this
     cases hr with | slo hg =>
     exact .slo (g.ka _ _ (bindK_spec h).2 _ hg)
   ·cases h
  ·rename_i f ps
   split at h
   ·rename_i f' cs
    cases hb : Nat.beq f f' with
    | false => rw [hb, cond_false] at h; cases h
    | true =>
     rw [hb, cond_true] at h
     have := Nat.eq_of_beq_eq_true hb
     subst this
     cases hr with | fn hc =>
     exact .fn (mCells_rel _ _ h g hc)
   ·cases h
  ·rename_i k n
   split at h
   ·rename_i k' n'
    cases hb : (decide (k = k') && decide (n = n')) with
    | false => rw [hb, cond_false] at h; cases h
    | true =>
     simp only [Bool.and_eq_true, decide_eq_true_eq] at hb
     obtain ⟨rfl, rfl⟩ := hb
     cases hr; exact .int
   ·cases h
  ·rename_i x
   split at h
   ·rename_i x'
    cases hb : (x == x') with
    | false => rw [hb, cond_false] at h; cases h
    | true =>
     simp only [beq_iff_eq] at hb
     subst hb
     cases hr; exact .bool
   ·cases h
  ·split at h
   ·cases hr; exact .nilp
   ·cases h
  ·split at h
   ·cases hr; exact .nils
   ·cases h
  ·rename_i s
   split at h
   ·rename_i s'
    cases hb : decide (s = s') with
    | false => rw [hb, cond_false] at h; cases h
    | true =>
     have := of_decide_eq_true hb
     subst this
     cases hr; exact .str
   ·cases h
  ·cases h
theorem mCells_rel : ∀ (ps cs : List C) {b b' : Bd} {vs : List Value}, mCells ps cs b = some b' → Tgt b' E E' σ σ' → RelCs E σ cs vs → RelCs E' σ' ps vs
 | ps, cs, b, b', vs, h, g, hr => by
  unfold mCells at h
  split at h
  ·split at h
   ·cases hr; exact .nil
   ·cases h
  ·split at h
   ·split at h
    ·rename_i b1 h1
     cases hr with | cons r1 r2 =>
     exact .cons (mCell_rel _ _ h1 (g.sub (mCells_sub _ _ h)) r1) (mCells_rel _ _ h g r2)
    ·cases h
   ·cases h
end
theorem mV_sub {p x : V} {b b' : Bd} (h : mV p x b = some b') : SubB b b' := by
 unfold mV at h
 split at h
 ·exact mCell_sub _ _ h
 ·exact mCells_sub _ _ h
 ·cases bif_some2 h; exact SubB.refl _
 ·cases h
theorem mV_rel {p x : V} {b b' : Bd} {v : Value} (h : mV p x b = some b') (g : Tgt b' E E' σ σ') (hav : E'.av = E.av ∨ ∀ i, p ≠ .any i) (hr : RelV E σ x v) : RelV E' σ' p v := by
 unfold mV at h
 split at h
 ·exact .one (mCell_rel _ _ h g (iv_one hr))
 ·obtain ⟨vs, h1, rfl⟩ := iv_agg hr
  exact .agg (mCells_rel _ _ h g h1)
 ·rename_i i i'
  cases hb : Nat.beq i i' with
  | false => rw [hb, cond_false] at h; cases h
  | true =>
   have := Nat.eq_of_beq_eq_true hb
   subst this
   cases hr
   rcases hav with hav | hav
   ·rw [← hav]; exact .any
   ·exact absurd rfl (hav i)
 ·cases h
theorem mS_sub : ∀ {en : Bool} {S : List (Nat × V)} {fr : Tr} {b b' : Bd}, mS en S fr b = some b' → SubB b b'
 | en, [], _, _, _, h => by cases h; exact SubB.refl _
 | en, (t, p) :: r, fr, b, b', h => by
  simp only [mS] at h
  cases hb : (match p with | .any i => en && Nat.beq i t | _ => false) with
  | true => rw [hb, cond_true] at h; exact mS_sub h
  | false =>
   rw [hb, cond_false] at h
   split at h
   ·split at h
    ·rename_i b1 h1; exact (mV_sub h1).trans (mS_sub h)
    ·cases h
   ·cases h
theorem mS_rel : ∀ {en : Bool} {S : List (Nat × V)} {fr : Tr} {b b' : Bd} {l : List (Nat × Value)}, mS en S fr b = some b' → Tgt b' E E' σ σ' → (en = true → ∀ t, E'.av t = look l t) → (en = true → ∀ t i, (t, V.any i) ∈ S → i = t) → (en = false → E'.av = E.av) → RF E σ fr l → ∀ p ∈ S, RelV E' σ' p.2 (look l p.1)
 | en, [], _, _, _, _, _, _, _, _, _, _ => fun p hp => by cases hp
 | en, (t, q) :: r, fr, b, b', l, h, g, ha, hany, ha', hr => by
  simp only [mS] at h
  intro p hp
  cases hb : (match q with | .any i => en && Nat.beq i t | _ => false) with
  | true =>
   rw [hb, cond_true] at h
   rcases List.mem_cons.1 hp with rfl | hp
   ·split at hb
    ·rename_i i
     simp only [Bool.and_eq_true] at hb
     have := Nat.eq_of_beq_eq_true hb.2
     subst this
     rw [← ha hb.1]; exact .any
    ·cases hb
   ·exact mS_rel h g ha (fun e t i hm => hany e t i (.tail _ hm)) ha' hr p hp
  | false =>
   rw [hb, cond_false] at h
   split at h
   ·rename_i v hv
    split at h
    ·rename_i b1 h1
     rcases List.mem_cons.1 hp with rfl | hp
     ·refine mV_rel h1 (g.sub (mS_sub h)) ?_ (hr t v hv)
      cases en with
      | false => exact .inl (ha' rfl)
      | true =>
       refine .inr fun i hi => ?_
       subst hi
       have := hany rfl t i (.head _)
       subst this
       simp at hb
     ·exact mS_rel h g ha (fun e t i hm => hany e t i (.tail _ hm)) ha' hr p hp
    ·cases h
   ·cases h
theorem mBlk_sub {ps cs : List C} {b b' : Bd} (h : mBlk ps cs b = some b') : SubB b b' := by
 unfold mBlk at h
 split at h
 ·split at h
  ·exact (bindV_spec (bif_some2 h)).1
  ·cases h
 ·cases hb : isBig cs with
  | true => rw [hb, cond_true] at h; cases h
  | false => rw [hb, cond_false] at h; exact mCells_sub _ _ h
theorem outB_key : ∀ {M : MB} {k : Nat} {x : Nat × List C × TypeId × Bool} {M' : MB}, outB M k = some (x, M') → x.1 = k
 | [], _, _, _, h => by cases h
 | (k', y) :: r, k, x, M', h => by
  simp only [outB] at h
  cases hb : Nat.beq k' k with
  | true => simp only [hb, cond_true, Option.some.injEq, Prod.mk.injEq] at h; rw [← h.1]; exact Nat.eq_of_beq_eq_true hb
  | false =>
   simp only [hb, cond_false] at h
   split at h
   ·rename_i b r' hr; cases h; exact outB_key hr
   ·cases h
theorem outB_rel2 {M : MB} {LM : List Blk} (hm : RM P E σ M LM) {k : Nat} {b : Nat × List C × TypeId × Bool} {M' : MB} (h : outB M k = some (b, M')) : ∃ Lb LM', RM P E σ [b] Lb ∧ RM P E σ M' LM' ∧ LM.Perm (Lb ++ LM') := by
 exact outB_rel (c := { P := P, X := fun _ _ => none, H := fun _ _ => none, G := fun _ _ => none, D := fun _ => none, E := fun _ _ => [], S := fun _ _ => [], L := fun _ _ _ _ _ _ _ => none }) hm h
theorem mBlk_rel {kp ka : Nat} {ps cs : List C} {T : TypeId} {o : Bool} {b b' : Bd} {Lb : List Blk} (h : mBlk ps cs b = some b') (g : Tgt b' E E' σ σ') (hk : lookR b'.ks kp = some (some ka)) (hr : RM P E σ [(ka, cs, T, o)] Lb) : RM P E' σ' [(kp, ps, T, o)] Lb := by
 unfold mBlk at h
 split at h
 ·rename_i j ks
  split at h
  ·rename_i x ks'
   cases hb : decide (ks = ks') with
   | false => rw [hb, cond_false] at h; cases h
   | true =>
    rw [hb, cond_true] at h
    have := of_decide_eq_true hb
    subst this
    have hj := (bindV_spec h).2
    have hl := g.lst hj
    cases hr with
    | cons hk' hc ho hr t => cases hc.notBig
    | big hk' hc hi hn hr t =>
     cases t
     rw [← hl] at hn hr ⊢
     exact .big (g.ka _ _ hk _ hk') hc hi hn hr .nil
    | big0 hk' he t =>
     cases t
     rw [← hl] at he
     exact .big0 (g.ka _ _ hk _ hk') he .nil
  ·cases h
 ·cases hb : isBig cs with
  | true => rw [hb, cond_true] at h; cases h
  | false =>
   rw [hb, cond_false] at h
   cases hr with
   | cons hk' hc ho hr t => cases t; exact .cons (g.ka _ _ hk _ hk') (mCells_rel _ _ h g hc) ho hr .nil
   | big => cases hb
   | big0 => cases hb
   | frm => cases hb
theorem mM_sub : ∀ {M m : MB} {b b' : Bd} {rest : MB}, mM M m b = some (b', rest) → SubB b b'
 | [], m, b, b', rest, h => by cases h; exact SubB.refl _
 | (kp, ps, T, o) :: r, m, b, b', rest, h => by
  simp only [mM] at h
  split at h
  ·split at h
   ·rename_i ka _ k' cs T' o' m' ho
    have h := bif_some2' h
    split at h
    ·rename_i b1 h1; exact (mBlk_sub h1).trans (mM_sub h)
    ·cases h
   ·cases h
  ·split at h
   ·split at h
    ·rename_i b1 h1; exact (bindV_spec h1).1.trans (mM_sub h)
    ·cases h
   ·cases h
  ·cases h
theorem mM_rel : ∀ {M m : MB} {b b' : Bd} {rest : MB} {L : List Blk}, mM M m b = some (b', rest) → RM P E σ m L → ∃ Lp Lr, RM P E σ rest Lr ∧ L.Perm (Lp ++ Lr) ∧ ∀ E' σ', Tgt b' E E' σ σ' → RM P E' σ' M Lp
 | [], m, b, b', rest, L, h, hr => by cases h; exact ⟨[], L, hr, List.Perm.refl _, fun _ _ _ => .nil⟩
 | (kp, ps, T, o) :: r, m, b, b', rest, L, h, hr => by
  simp only [mM] at h
  split at h
  ·rename_i ka hk
   split at h
   ·rename_i k' cs T' o' m' ho
    cases hb : (Nat.beq T T' && (o == o')) with
    | false => rw [hb, cond_false] at h; cases h
    | true =>
     rw [hb, cond_true] at h
     simp only [Bool.and_eq_true, beq_iff_eq] at hb
     obtain ⟨hT, rfl⟩ := hb
     have hT := Nat.eq_of_beq_eq_true hT
     subst hT
     split at h
     ·rename_i b1 h1
      obtain ⟨Lb, LM', a1, a2, a3⟩ := outB_rel2 hr ho
      have hkey : k' = ka := outB_key ho
      subst hkey
      have s1 := mBlk_sub h1
      have s2 := mM_sub h
      obtain ⟨Lp, Lr, c2, c3, c1⟩ := mM_rel h a2
      refine ⟨Lb ++ Lp, Lr, c2, ?_, fun E' σ' g => (mBlk_rel h1 (g.sub s2) (s1.2 _ _ hk) a1).app (c1 E' σ' g)⟩
      rw [List.append_assoc]
      exact a3.trans (c3.append_left Lb)
     ·cases h
   ·cases h
  ·rename_i hk
   split at h
   ·rename_i j ks
    split at h
    ·rename_i b1 h1
     obtain ⟨s1, hj⟩ := bindV_spec h1
     have s2 := mM_sub h
     obtain ⟨Lp, Lr, c2, c3, c1⟩ := mM_rel h hr
     refine ⟨Lp, Lr, c2, c3, fun E' σ' g => ?_⟩
     obtain ⟨gg, bb, hg⟩ := g.kn kp (s2.2 _ _ (s1.2 _ _ hk))
     refine .big0 hg ?_ (c1 E' σ' g)
     rw [g.lst (s2.get hj), lst_lnil]
    ·cases h
   ·cases h
  ·cases h
theorem mCells_big (y : SE) (ks : Ks) (cs : List C) (b : Bd) : mCells [.big y ks] cs b = none := by
 unfold mCells
 cases cs with
 | nil => rfl
 | cons c cs =>
  have : mCell (.big y ks) c b = none := by unfold mCell; rfl
  simp only [this]
theorem mF_sub : ∀ {F0 : MB} {F : List MB} {b b' : Bd}, mF F0 F b = some b' → SubB b b'
 | [], F, b, b', h => by cases h; exact SubB.refl _
 | (kp, ps, T, o) :: r, F, b, b', h => by
  simp only [mF] at h
  split at h
  ·split at h
   ·split at h
    ·have h := bif_some2' h
     split at h
     ·rename_i b1 h1; exact (bindV_spec h1).1.trans (mF_sub h)
     ·cases h
    ·cases h
   ·split at h
    ·have h := bif_some2' h
     split at h
     ·rename_i b1 h1; exact (mCells_sub _ _ h1).trans (mF_sub h)
     ·cases h
    ·cases h
  ·split at h
   ·split at h
    ·rename_i b1 h1; exact (bindV_spec h1).1.trans (mF_sub h)
    ·cases h
   ·cases h
  ·cases h
theorem mF_rel {F : List MB} {w : World} (hF : FR P E σ F w) : ∀ {F0 : MB} {b b' : Bd}, mF F0 F b = some b' → Tgt b' E E' σ σ' → FR P E' σ' [F0] w
 | [], b, b', h, g => ⟨fun k cs T o hk => (by cases hk), fun k x ks T hk => (by cases hk)⟩
 | (kp, ps, T, o) :: r, b, b', h, g => by
  have one : ∀ {k cs T' o'}, lkM [(kp, ps, T, o) :: r] k = some (cs, T', o') → (kp = k ∧ isBig ps = false ∧ cs = ps ∧ T' = T ∧ o' = o) ∨ lkM [r] k = some (cs, T', o') := fun {k cs T' o'} hk => by
   simp only [lkM, lkB] at hk ⊢
   cases hb : Nat.beq kp k with
   | true =>
    simp only [hb, cond_true] at hk
    cases hg : isBig ps with
    | true => simp only [hg, cond_true] at hk; cases hk
    | false =>
     simp only [hg, cond_false, Option.some.injEq, Prod.mk.injEq] at hk
     exact .inl ⟨Nat.eq_of_beq_eq_true hb, rfl, hk.1.symm, hk.2.1.symm, hk.2.2.symm⟩
   | false => simp only [hb, cond_false] at hk; exact .inr hk
  have two : ∀ {k x ks T'}, lkLM [(kp, ps, T, o) :: r] k = some (x, ks, T') → (kp = k ∧ ps = [.big x ks] ∧ T' = T) ∨ lkLM [r] k = some (x, ks, T') := fun {k x ks T'} hk => by
   simp only [lkLM, lkL] at hk ⊢
   cases hb : Nat.beq kp k with
   | true =>
    simp only [hb, cond_true] at hk
    split at hk
    ·rename_i y hy
     split at hy
     ·cases hy; cases hk; exact .inl ⟨Nat.eq_of_beq_eq_true hb, rfl, rfl⟩
     ·cases hy
    ·cases hk
   | false => simp only [hb, cond_false] at hk; exact .inr hk
  simp only [mF] at h
  split at h
  ·rename_i ka hk0
   split at h
   ·rename_i j ks0
    split at h
    ·rename_i x ks' T' hl
     cases hb : (decide (ks0 = ks') && Nat.beq T T') with
     | false => rw [hb, cond_false] at h; cases h
     | true =>
      rw [hb, cond_true] at h
      simp only [Bool.and_eq_true, decide_eq_true_eq] at hb
      obtain ⟨rfl, hT⟩ := hb
      split at h
      ·rename_i b1 h1
       obtain ⟨s1, hj⟩ := bindV_spec h1
       have s2 := mF_sub h
       have ih := mF_rel hF h g
       refine ⟨fun k cs T2 o2 hk => ?_, fun k y ks T2 hk => ?_⟩
       ·rcases one hk with ⟨_, hbig, _⟩ | hk
        ·cases hbig
        ·exact ih.n k cs T2 o2 hk
       ·rcases two hk with ⟨rfl, he, _⟩ | hk
        ·cases he
         obtain ⟨gg, bb, cc, f1, f2, f3, f4⟩ := hF.l _ _ _ _ hl
         rw [g.lst (s2.get hj)]
         exact ⟨gg, bb, cc, g.ka _ _ (s2.2 _ _ (s1.2 _ _ hk0)) _ f1, f2, f3, f4⟩
        ·exact ih.l k y ks T2 hk
      ·cases h
    ·cases h
   ·rename_i hnb
    split at h
    ·rename_i cs T' o' hl
     cases hb : (Nat.beq T T' && (o == o')) with
     | false => rw [hb, cond_false] at h; cases h
     | true =>
      rw [hb, cond_true] at h
      simp only [Bool.and_eq_true, beq_iff_eq] at hb
      obtain ⟨hT, rfl⟩ := hb
      have hT := Nat.eq_of_beq_eq_true hT
      subst hT
      split at h
      ·rename_i b1 h1
       have s1 := mCells_sub _ _ h1
       have s2 := mF_sub h
       have ih := mF_rel hF h g
       refine ⟨fun k cs T2 o2 hk => ?_, fun k y ks T2 hk => ?_⟩
       ·rcases one hk with ⟨rfl, hbig, rfl, rfl, rfl⟩ | hk
        ·obtain ⟨gg, bb, cc, vs, f1, f2, f3, f4, f5⟩ := hF.n _ _ _ _ hl
         exact ⟨gg, bb, cc, vs, g.ka _ _ (s2.2 _ _ (s1.2 _ _ hk0)) _ f1, mCells_rel _ _ h1 (g.sub s2) f2, f3, f4, f5⟩
        ·exact ih.n k cs T2 o2 hk
       ·rcases two hk with ⟨rfl, he, _⟩ | hk
        ·subst he
         exfalso
         rw [mCells_big] at h1; cases h1
        ·exact ih.l k y ks T2 hk
      ·cases h
    ·cases h
  ·rename_i hk0
   split at h
   ·rename_i j ks0
    split at h
    ·rename_i b1 h1
     obtain ⟨s1, hj⟩ := bindV_spec h1
     have s2 := mF_sub h
     have ih := mF_rel hF h g
     refine ⟨fun k cs T2 o2 hk => ?_, fun k y ks T2 hk => ?_⟩
     ·rcases one hk with ⟨_, hbig, _⟩ | hk
      ·cases hbig
      ·exact ih.n k cs T2 o2 hk
     ·rcases two hk with ⟨rfl, he, _⟩ | hk
      ·cases he
       obtain ⟨gg, bb, hg⟩ := g.kn kp (s2.2 _ _ (s1.2 _ _ hk0))
       have hl := g.lst (s2.get hj)
       rw [lst_lnil] at hl
       rw [hl]
       exact ⟨gg, bb, 0, hg, Nat.zero_le _, fun _ => rfl, fun j v hv => by simp [flatL] at hv⟩
      ·exact ih.l k y ks T2 hk
    ·cases h
   ·cases h
  ·cases h
end
end Go.Proofs.Ytedfbamihjnhhaa.Own
