/- A walk by reckoning: loops' contracts, and their use. -/
import Derived.Test.YtedfbamihjnhhaaFvQ
namespace Go.Proofs.Ytedfbamihjnhhaa.Own
open Go Go.RowKit
set_option linter.unusedVariables false
set_option linter.unusedSimpArgs false
structure LEnt where
 f : Nat
 id : Nat
 num : Nat
 nx : Nat
 S : List (Nat × V)
 M : MB
 F : MB
 kk : List Nat
 outs : List Out
 lv : List (Nat × Nat) := []
 sm : List Nat := []
 pre : List (SE × Bool) := []
def LCT (P : Program) (y : LEnt) (Fy : Nat → List Int → List Int) (g : List Int → List Int) : Prop := ∀ (a : Code), LoopOf P y.f a → fid a = y.id → ∀ (xs : List Int) (av : Nat → Value) (frs : List Blk) (n : Nat), (∃ fn, P.funcs[y.f]? = some fn ∧ fn.ntmps = n) →
 ∀ (w0 : World) (σ : List (Nat × Nat × Nat)) (l : List (Nat × Value)) (L : List Blk) (Q : Exit → Act → World → Prop), σ.length = y.nx → (∀ p ∈ y.S, RelV (envX Fy xs av frs) σ p.2 (look l p.1)) → RM P (envX Fy xs av frs) σ (frmE :: y.M) L → FR P (envX Fy xs av frs) σ [y.F] w0 → (∀ j ∈ y.sm, (dec (xs.getD j 0)).length ≤ 1000000) → (∀ c ∈ y.pre, (c.1.val (envX Fy xs av frs) != 0) = c.2) →
  (∀ (σ' : List (Nat × Nat × Nat)) (l' : List (Nat × Value)) (L' : List Blk) (e : Nat) (ys : List Int) (o : Out), g xs = (e : Int) :: ys → y.outs[e]? = some o → σ'.length = y.nx → (∀ k ∈ y.kk, σ'[k]? = σ[k]?) → (∀ p ∈ o.S, RelV (envX Fy ys av frs) σ' p.2 (look l' p.1)) → RM P (envX Fy ys av frs) σ' (frmE :: o.M) L' → X w0 Q (ex o.x) (frm n l') L') → H P w0 a Q (frm n l) L
def eqK : Option (Option IntKind) → Int → Int → Prop
 | none, a, b => a = b
 | some k, a, b => wrK k a = wrK k b
def Cst (y : LEnt) (g : List Int → List Int) : Prop := ∀ (xs : List Int) (e : Nat) (ys : List Int) (o : Out), g xs = (e : Int) :: ys → y.outs[e]? = some o → ∀ c ∈ o.cv, eqK c.2.2 (ys.getD c.1 0) (xs.getD c.2.1 0)
/-! ### exits, filled -/
structure Fl where
 num : Nat
 as : SE
 ts : List SE
 cv : List (Nat × Nat × Option (Option IntKind))
 kk : List Nat
 ks : List (Nat × Option Nat)
 base : Nat
def Fl.key (q : Fl) (k : Nat) : Nat := bif q.kk.contains k then (match lookR q.ks k with | some (some ka) => ka | _ => q.base + k) else q.base + k
def findC : List (Nat × Nat × Option (Option IntKind)) → Nat → Option (Option IntKind) → Option Nat
 | [], _, _ => none
 | (j', j0, κ') :: r, j, κ => bif Nat.beq j' j && decide (κ' = κ) then some j0 else findC r j κ
def Fl.dflt (q : Fl) (κ : Option (Option IntKind)) (j : Nat) : SE := match κ with
 | none => .lap q.num (j + 1) q.as
 | some k => .app q.num (j + 1) k q.as
def Fl.var (q : Fl) (κ : Option (Option IntKind)) (j : Nat) : SE :=
 match findC q.cv j κ with
 | some j0 => (match q.ts[j0]? with
  | some x => bif (match κ with | none => true | some k => decide (x.ty = some k)) then x else q.dflt κ j
  | none => q.dflt κ j)
 | none => q.dflt κ j
mutual
def Fl.fillC (q : Fl) : C → C
 | .opq (.ivar k j) => .opq (q.var (some (some k)) j)
 | .opq (.bvar j) => .opq (q.var (some none) j)
 | .opq (.len (.lvar j)) => .opq (lenT (q.var none j))
 | .sli k (.lvar j) => .sli (q.key k) (q.var none j)
 | .sts (.lvar j) => .sts (q.var none j)
 | .ptr k o => .ptr (q.key k) o
 | .sl k o l c => .sl (q.key k) o l c
 | .slo k l => .slo (q.key k) l
 | .fn f cs => .fn f (q.fillCs cs)
 | .big (.lvar j) ks => .big (q.var none j) ks
 | c => c
def Fl.fillCs (q : Fl) : List C → List C
 | [] => []
 | c :: cs => q.fillC c :: q.fillCs cs
end
def Fl.fillV (q : Fl) : V → V
 | .one c => .one (q.fillC c)
 | .agg cs => .agg (q.fillCs cs)
 | v => v
def Fl.fillS (q : Fl) (fr : Tr) : List (Nat × V) → List (Nat × V)
 | [] => []
 | (t, .any i) :: r => (match fr.get (i + 1) with | some v => (t, v) :: q.fillS fr r | none => q.fillS fr r)
 | (t, p) :: r => (t, q.fillV p) :: q.fillS fr r
def Fl.fillM (q : Fl) : MB → MB
 | [] => []
 | (k, cs, y) :: r => (q.key k, q.fillCs cs, y) :: q.fillM r
mutual
def patC : C → Bool
 | .opq (.ivar _ _) | .opq (.bvar _) | .opq (.len (.lvar _)) | .sli _ (.lvar _) | .sts (.lvar _) | .ptr _ _ | .sl _ _ _ _ | .slo _ _ | .int _ _ | .bool _ | .nilp | .nils | .str _ => true
 | .fn _ cs => patCs cs
 | _ => false
def patCs : List C → Bool
 | [] => true
 | c :: cs => patC c && patCs cs
end
def patV : V → Bool
 | .one c => patC c
 | .agg cs => patCs cs
 | .any _ => true
 | _ => false
def patM : MB → Bool
 | [] => true
 | (_, cs, _) :: r => (match cs with | [.big (.lvar _) _] => true | cs => patCs cs) && patM r
structure FlOK (q : Fl) (E : Env) (ys : List Int) (σ' σo : List (Nat × Nat × Nat)) : Prop where
 z : ∀ j, E.F q.num (j + 1) (q.as.vals E) = ys.getD j 0
 c : ∀ c ∈ q.cv, eqK c.2.2 (ys.getD c.1 0) ((q.ts.map (SE.val E)).getD c.2.1 0)
 k : ∀ k v, σ'[k]? = some v → σo[q.key k]? = some v
theorem findC_mem : ∀ {cv : List (Nat × Nat × Option (Option IntKind))} {j : Nat} {κ : Option (Option IntKind)} {j0 : Nat}, findC cv j κ = some j0 → (j, j0, κ) ∈ cv
 | [], _, _, _, h => by cases h
 | (j', j1, κ') :: r, j, κ, j0, h => by
  simp only [findC] at h
  cases hb : (Nat.beq j' j && decide (κ' = κ)) with
  | true =>
   rw [hb, cond_true] at h; cases h
   simp only [Bool.and_eq_true, decide_eq_true_eq] at hb
   rw [Nat.eq_of_beq_eq_true hb.1, hb.2]; exact .head _
  | false => rw [hb, cond_false] at h; exact .tail _ (findC_mem h)
section
variable {P : Program} {q : Fl} {E : Env} {Fy : Nat → List Int → List Int} {ys : List Int} {av : Nat → Value} {frs : List Blk} {σ' σo : List (Nat × Nat × Nat)}
theorem Fl.var_lst (h : FlOK q E ys σ' σo) (j : Nat) : (q.var none j).lst E = dec (ys.getD j 0) := by
 have d : (q.dflt none j).lst E = dec (ys.getD j 0) := by simp only [Fl.dflt, SE.lst, SE.val, h.z]
 unfold Fl.var
 split
 ·rename_i j0 hf
  split
  ·rename_i x hx
   simp only [cond_true]
   have hc : ys.getD j 0 = (q.ts.map (SE.val E)).getD j0 0 := h.c _ (findC_mem hf)
   rw [hc, List.getD_eq_getElem?_getD, List.getElem?_map, hx]; rfl
  ·exact d
 ·exact d
theorem val_kind {x : SE} {k : Option IntKind} (h : x.ty = some k) : wrK k (x.val E) = x.val E := by
 cases k with
 | some k => exact val_wrap E h
 | none => rw [val_bool h]; cases (x.val E != 0) <;> rfl
theorem Fl.var_eS (h : FlOK q E ys σ' σo) (k : Option IntKind) (j : Nat) : eS E (q.var (some k) j) = cellV k (wrK k (ys.getD j 0)) := by
 have d : eS E (q.dflt (some k) j) = cellV k (wrK k (ys.getD j 0)) := by
  simp only [Fl.dflt]
  rw [eS_k (k := k) rfl]; simp only [SE.val, h.z]
 unfold Fl.var
 split
 ·rename_i j0 hf
  split
  ·rename_i x hx
   cases hb : decide (x.ty = some k) with
   | false => simp only [hb, cond_false]; exact d
   | true =>
    simp only [hb, cond_true]
    have hty := of_decide_eq_true hb
    have hc : wrK k (ys.getD j 0) = wrK k ((q.ts.map (SE.val E)).getD j0 0) := h.c _ (findC_mem hf)
    have e : (q.ts.map (SE.val E)).getD j0 0 = x.val E := by rw [List.getD_eq_getElem?_getD, List.getElem?_map, hx]; rfl
    rw [hc, e, val_kind hty, eS_k hty]
  ·exact d
 ·exact d
mutual
theorem flC_rel (h : FlOK q E ys σ' σo) : ∀ {p : C} {v : Value}, patC p = true → RelC (envX Fy ys av frs) σ' p v → RelC E σo (q.fillC p) v
 | .opq x, v, hp, hr => by
  cases x <;> first | (exfalso; simp only [patC, Bool.false_eq_true] at hp; done) | skip
  ·rename_i k j
   cases hr
   have := rel_opq (e := E) (σ := σo) (q.var (some (some k)) j)
   rw [Fl.var_eS h] at this
   have e : eS (envX Fy ys av frs) (.ivar k j) = cellV (some k) (wrK (some k) (ys.getD j 0)) := by rw [eS_k (k := some k) rfl]; simp only [SE.val]; rfl
   show RelC E σo (.opq (q.var (some (some k)) j)) (eS (envX Fy ys av frs) (.ivar k j))
   rw [e]; exact this
  ·rename_i j
   cases hr
   have := rel_opq (e := E) (σ := σo) (q.var (some none) j)
   rw [Fl.var_eS h] at this
   have e : eS (envX Fy ys av frs) (.bvar j) = cellV none (wrK none (ys.getD j 0)) := by rw [eS_k (k := none) rfl]; simp only [SE.val]; rfl
   show RelC E σo (.opq (q.var (some none) j)) (eS (envX Fy ys av frs) (.bvar j))
   rw [e]; exact this
  ·rename_i z
   cases z <;> first | (exfalso; simp only [patC, Bool.false_eq_true] at hp; done) | skip
   rename_i j
   cases hr
   have := rel_opq (e := E) (σ := σo) (lenT (q.var none j))
   rw [lenT_eS, Fl.var_lst h] at this
   have e : eS (envX Fy ys av frs) (.len (.lvar j)) = .int .i64 ((sat (dec (ys.getD j 0)).length : Nat) : Int) := by
    have := lenT_eS (e := envX Fy ys av frs) (.lvar j)
    simp only [lenT] at this
    rw [this]
    have e2 : (SE.lvar j).lst (envX Fy ys av frs) = dec (ys.getD j 0) := by simp only [SE.lst, SE.val]; rfl
    rw [e2]
   show RelC E σo (.opq (lenT (q.var none j))) (eS (envX Fy ys av frs) (.len (.lvar j)))
   rw [e]; exact this
 | .sli k x, v, hp, hr => by
  cases x <;> simp only [patC, Bool.false_eq_true] at hp
  rename_i j
  cases hr with | sli hg =>
  have := RelC.sli (e := E) (x := q.var none j) (h.k _ _ hg)
  rw [Fl.var_lst h] at this
  exact this
 | .sts x, v, hp, hr => by
  cases x <;> simp only [patC, Bool.false_eq_true] at hp
  rename_i j
  cases hr
  have := RelC.sts (e := E) (σ := σo) (x := q.var none j)
  rw [Fl.var_lst h] at this
  exact this
 | .ptr k o, v, _, hr => by cases hr with | ptr hg => exact .ptr (h.k _ _ hg)
 | .sl k o l c, v, _, hr => by cases hr with | sl hg => exact .sl (h.k _ _ hg)
 | .slo k l, v, _, hr => by cases hr with | slo hg => exact .slo (h.k _ _ hg)
 | .int k n, v, _, hr => by cases hr; exact .int
 | .bool b, v, _, hr => by cases hr; exact .bool
 | .nilp, v, _, hr => by cases hr; exact .nilp
 | .nils, v, _, hr => by cases hr; exact .nils
 | .str s, v, _, hr => by cases hr; exact .str
 | .fn f cs, v, hp, hr => by cases hr with | fn hc => exact .fn (flCs_rel h (by simpa only [patC] using hp) hc)
 | .slt _ _ _ _, v, hp, hr => by simp only [patC, Bool.false_eq_true] at hp
 | .val _, v, hp, hr => by simp only [patC, Bool.false_eq_true] at hp
 | .pel _ _ _ _, v, hp, hr => by simp only [patC, Bool.false_eq_true] at hp
 | .big _ _, v, hp, hr => by simp only [patC, Bool.false_eq_true] at hp
 | .frm, v, hp, hr => by simp only [patC, Bool.false_eq_true] at hp
theorem flCs_rel (h : FlOK q E ys σ' σo) : ∀ {ps : List C} {vs : List Value}, patCs ps = true → RelCs (envX Fy ys av frs) σ' ps vs → RelCs E σo (q.fillCs ps) vs
 | [], vs, _, hr => by cases hr; exact .nil
 | p :: ps, vs, hp, hr => by
  simp only [patCs, Bool.and_eq_true] at hp
  cases hr with | cons r1 r2 =>
  exact .cons (flC_rel h hp.1 r1) (flCs_rel h hp.2 r2)
end
theorem flM_rel (h : FlOK q E ys σ' σo) : ∀ {M : MB} {L : List Blk}, patM M = true → RM P (envX Fy ys av frs) σ' M L → RM P E σo (q.fillM M) L
 | [], _, _, hr => by cases hr; exact .nil
 | (k, cs, T, o) :: r, L, hp, hr => by
  simp only [patM, Bool.and_eq_true] at hp
  obtain ⟨hp1, hp2⟩ := hp
  simp only [Fl.fillM]
  cases hr with
  | cons hk hc ho hr t =>
   have hpc : patCs cs = true := by
    split at hp1
    ·cases hc.notBig
    ·exact hp1
   exact .cons (h.k _ _ hk) (flCs_rel h hpc hc) ho hr (flM_rel h hp2 t)
  | big hk hc hi hn hr t =>
   rename_i g c x ks rest L
   cases x <;> first | (exfalso; simp only [patCs, patC, Bool.false_and, Bool.false_eq_true] at hp1; done) | skip
   rename_i j
   have hl : (q.var none j).lst E = (SE.lvar j).lst (envX Fy ys av frs) := Fl.var_lst h j
   rw [← hl] at hn hr ⊢
   exact .big (h.k _ _ hk) hc hi hn hr (flM_rel h hp2 t)
  | big0 hk he t =>
   rename_i g b x ks
   cases x <;> first | (exfalso; simp only [patCs, patC, Bool.false_and, Bool.false_eq_true] at hp1; done) | skip
   rename_i j
   have hl : (q.var none j).lst E = (SE.lvar j).lst (envX Fy ys av frs) := Fl.var_lst h j
   rw [← hl] at he
   exact .big0 (h.k _ _ hk) he (flM_rel h hp2 t)
  | frm t => simp only [patCs, patC, Bool.false_and, Bool.false_eq_true] at hp1
theorem flS_rel (h : FlOK q E ys σ' σo) {σ : List (Nat × Nat × Nat)} (hx : Ext σ σo) {fr : Tr} {l l' : List (Nat × Value)} (hfr : RF E σ fr l) (hav : ∀ t, av t = look l t) : ∀ {S : List (Nat × V)}, (S.all fun p => patV p.2) = true → (∀ p ∈ S, RelV (envX Fy ys av frs) σ' p.2 (look l' p.1)) → ∀ p ∈ q.fillS fr S, RelV E σo p.2 (look l' p.1)
 | [], _, _, p, hp => by cases hp
 | (t, v) :: r, hpat, hS, p, hp => by
  simp only [List.all_cons, Bool.and_eq_true] at hpat
  have ih := flS_rel h hx hfr hav hpat.2 fun p hp => hS p (.tail _ hp)
  have h0 := hS (t, v) (.head _)
  cases v with
  | any i =>
   simp only [Fl.fillS] at hp
   split at hp
   ·rename_i x hxv
    rcases List.mem_cons.1 hp with rfl | hp
    ·have e : look l' t = look l i := by
      have h0 : RelV (envX Fy ys av frs) σ' (.any i) (look l' t) := h0
      generalize look l' t = u at h0
      cases h0
      exact hav i
     show RelV E σo x (look l' t)
     rw [e]; exact (hfr i x hxv).mono hx
    ·exact ih p hp
   ·exact ih p hp
  | one c =>
   simp only [Fl.fillS] at hp
   rcases List.mem_cons.1 hp with rfl | hp
   ·exact .one (flC_rel h (by simpa only [patV] using hpat.1) (iv_one h0))
   ·exact ih p hp
  | agg cs =>
   simp only [Fl.fillS] at hp
   rcases List.mem_cons.1 hp with rfl | hp
   ·obtain ⟨vs, h1, h2⟩ := iv_agg h0
    have h2' : look l' t = .agg (List.toArray vs) := h2
    show RelV E σo (.agg (q.fillCs cs)) (look l' t)
    rw [h2']
    exact .agg (flCs_rel h (by simpa only [patV] using hpat.1) h1)
   ·exact ih p hp
  | tup vs => simp [patV] at hpat
end
/-! ### a loop's contract as a hook -/
def smD (D : SE → Option Bool) (x : SE) : Bool := smX D x
def findOut (D : SE → Option Bool) (num : Nat) (as : SE) : List Out → Nat → Option (Nat × Out)
 | [], _ => none
 | [o], j => some (j, o)
 | o :: o2 :: r, j => match D (.cmp .eql (.app num 0 (some .i64) as) (.lit .i64 (Int.ofNat j))) with
  | some true => some (j, o)
  | some false => findOut D num as (o2 :: r) (j + 1)
  | none => none
def subS (ts : List SE) : SE → Option SE
 | .ivar k j => (match ts[j]? with | some x => bif decide (x.ty = some (some k)) then some x else none | none => none)
 | .bvar j => (match ts[j]? with | some x => bif decide (x.ty = some none) then some x else none | none => none)
 | .lvar j => ts[j]?
 | .lit k n => some (.lit k n)
 | .len x => (match subS ts x with | some y => some (lenT y) | none => none)
 | .cmp op a b => (match subS ts a, subS ts b with | some x, some y => some (.cmp op x y) | _, _ => none)
 | .bin op k a b => (match subS ts a, subS ts b with | some x, some y => some (.bin op k x y) | _, _ => none)
 | .conv k a => (match subS ts a with | some x => some (.conv k x) | none => none)
 | _ => none
theorem subS_val {E : Env} {Fy : Nat → List Int → List Int} {av : Nat → Value} {frs : List Blk} {ts : List SE} : ∀ (x : SE) {y : SE}, subS ts x = some y → y.val E = x.val (envX Fy (ts.map (SE.val E)) av frs) := by
 have get : ∀ (j : Nat) (x : SE), ts[j]? = some x → (ts.map (SE.val E)).getD j 0 = x.val E := fun j x hx => by rw [List.getD_eq_getElem?_getD, List.getElem?_map, hx]; rfl
 intro x
 induction x with
 | ivar k j =>
  intro y h
  simp only [subS] at h
  split at h
  ·rename_i z hz
   cases hb : decide (z.ty = some (some k)) with
   | false => rw [hb, cond_false] at h; cases h
   | true =>
    rw [hb, cond_true] at h; cases h
    simp only [SE.val]
    show _ = k.wrap ((ts.map (SE.val E)).getD j 0)
    rw [get j _ hz]
    exact (val_wrap E (of_decide_eq_true hb)).symm
  ·cases h
 | bvar j =>
  intro y h
  simp only [subS] at h
  split at h
  ·rename_i z hz
   cases hb : decide (z.ty = some none) with
   | false => rw [hb, cond_false] at h; cases h
   | true =>
    rw [hb, cond_true] at h; cases h
    simp only [SE.val]
    show _ = b2i ((ts.map (SE.val E)).getD j 0 != 0)
    rw [get j _ hz]
    exact val_bool (of_decide_eq_true hb)
  ·cases h
 | lvar j => intro y h; simp only [subS] at h; simp only [SE.val]; exact (get j _ h).symm
 | lit k n => intro y h; cases h; simp only [SE.val]
 | len x ih =>
  intro y h
  simp only [subS] at h
  split at h
  ·rename_i z hz
   cases h
   rw [(lenT_val z).1, val_len]
   simp only [SE.lst, ih hz]
  ·cases h
 | cmp op a b iha ihb =>
  intro y h
  simp only [subS] at h
  split at h
  ·rename_i p q hp hq; cases h; simp only [SE.val, iha hp, ihb hq]
  ·cases h
 | bin op k a b iha ihb =>
  intro y h
  simp only [subS] at h
  split at h
  ·rename_i p q hp hq; cases h; simp only [SE.val, iha hp, ihb hq]
  ·cases h
 | conv k a iha =>
  intro y h
  simp only [subS] at h
  split at h
  ·rename_i p hp; cases h; simp only [SE.val, iha hp]
  ·cases h
 | _ => intro y h; cases h
def preD (D : SE → Option Bool) (ts : List SE) (c : SE × Bool) : Bool := match subS ts c.1 with
 | some x => isBool x && (match D x with | some b => b == c.2 | none => false)
 | none => false
def lRun (y : LEnt) : LoopF := fun D fr M F nx =>
 match mS true (y.S.filter soon) fr ⟨[], []⟩ with
 | some b1 => (match mM y.M M b1 with
  | some (b2, rest) => (match (match mF y.F F b2 with | some b3 => mS true (y.S.filter late) fr b3 | none => none) with
   | some b => bif b.ks.all (fun p => Nat.blt p.1 y.nx) && b.ks.all (fun p => match p.2 with | some ka => Nat.blt ka nx | none => true) && y.sm.all (fun j => match b.ts[j]? with | some x => smD D x | none => false) && y.pre.all (preD D b.ts) then
     (match findOut D y.num (seL b.ts) y.outs 0 with
     | some (_, o) => some (o.x, frOf (Fl.fillS ⟨y.num, seL b.ts, b.ts, o.cv, y.kk, b.ks, nx⟩ fr o.S), Fl.fillM ⟨y.num, seL b.ts, b.ts, o.cv, y.kk, b.ks, nx⟩ o.M ++ rest, nx + y.nx)
     | none => none) else none
   | none => none)
  | none => none)
 | none => none
def lHook : List LEnt → Nat → Nat → LoopF
 | [], _, _ => fun _ _ _ _ _ => none
 | y :: r, f, id => fun D fr M F nx => bif Nat.beq f y.f && Nat.beq id y.id then (match lRun y D fr M F nx with | some x => some x | none => lHook r f id D fr M F nx) else lHook r f id D fr M F nx
theorem lHook_find : ∀ {Ls : List LEnt} {f id : Nat} {D : SE → Option Bool} {fr : Tr} {M : MB} {F : List MB} {nx : Nat} {r : Ex × Tr × MB × Nat}, lHook Ls f id D fr M F nx = some r → ∃ y ∈ Ls, f = y.f ∧ id = y.id ∧ lRun y D fr M F nx = some r
 | [], _, _, _, _, _, _, _, _, h => by cases h
 | y :: Ls, f, id, D, fr, M, F, nx, r, h => by
  simp only [lHook] at h
  cases hb : (Nat.beq f y.f && Nat.beq id y.id) with
  | true =>
   rw [hb, cond_true] at h
   simp only [Bool.and_eq_true] at hb
   split at h
   ·rename_i x hx; cases h
    exact ⟨y, .head _, Nat.eq_of_beq_eq_true hb.1, Nat.eq_of_beq_eq_true hb.2, hx⟩
   ·obtain ⟨z, h1, h2⟩ := lHook_find h
    exact ⟨z, .tail _ h1, h2⟩
  | false =>
   rw [hb, cond_false] at h
   obtain ⟨z, h1, h2⟩ := lHook_find h
   exact ⟨z, .tail _ h1, h2⟩
def anyOK (S : List (Nat × V)) : Bool := S.all fun p => match p.2 with | .any i => Nat.beq i p.1 | _ => true
def entOK (y : LEnt) : Bool := anyOK y.S && (Nat.ble y.outs.length 1000 && y.outs.all fun o => o.S.all (fun p => patV p.2) && patM o.M)
theorem findOut_spec {E : Env} {D : SE → Option Bool} (hd : ∀ x b, D x = some b → eS E x = .bool b) {num : Nat} {as : SE} {ev : Nat} (hev : E.F num 0 (as.vals E) = (ev : Int)) (hb : ev ≤ 1000) : ∀ {outs : List Out} {j : Nat} {e : Nat} {o : Out}, findOut D num as outs j = some (e, o) → j ≤ ev → ∀ {o' : Out}, outs[ev - j]? = some o' → o' = o
 | [], j, e, o, h, _, o', ho => by cases h
 | [o1], j, e, o, h, hj, o', ho => by
  simp only [findOut, Option.some.injEq, Prod.mk.injEq] at h
  obtain ⟨rfl, rfl⟩ := h
  cases hz : ev - j with
  | zero => rw [hz] at ho; simpa using ho.symm
  | succ k => rw [hz] at ho; simp at ho
 | o1 :: o2 :: r, j, e, o, h, hj, o', ho => by
  have hval : (SE.app num 0 (some .i64) as).val E = (ev : Int) := by
   simp only [SE.val, hev, wrK]
   rw [IntKind.wrap_i64]; omega
  have cmpv : ∀ v, eS E (.cmp .eql (.app num 0 (some .i64) as) (.lit .i64 (Int.ofNat j))) = .bool v → v = decide (ev = j) := fun v hh => by
   rw [eS_cmp, hval] at hh
   have hl : (SE.lit .i64 (Int.ofNat j)).val E = (j : Int) := by
    simp only [SE.val]
    rw [IntKind.wrap_i64, Int.ofNat_eq_natCast]; omega
   rw [hl] at hh
   simp only [valCmp, Value.bool.injEq] at hh
   rw [← hh]
   have : ((ev : Int) == (j : Int)) = decide (ev = j) := by
    by_cases hq : ev = j
    ·subst hq; simp
    ·simp [hq]; omega
   exact this
  simp only [findOut] at h
  split at h
  ·rename_i ht
   simp only [Option.some.injEq, Prod.mk.injEq] at h
   obtain ⟨rfl, rfl⟩ := h
   have := cmpv true (hd _ _ ht)
   have hq : ev = j := of_decide_eq_true this.symm
   subst hq
   rw [Nat.sub_self] at ho
   simpa using ho.symm
  ·rename_i ht
   have := cmpv false (hd _ _ ht)
   have hq : ev ≠ j := of_decide_eq_false this.symm
   have h1 : ev - j = (ev - (j + 1)) + 1 := by omega
   rw [h1, List.getElem?_cons_succ] at ho
   exact findOut_spec hd hev hb h (by omega) ho
  ·cases h
theorem smD_sound {E : Env} {D : SE → Option Bool} (hd : ∀ x b, D x = some b → eS E x = .bool b) {x : SE} (h : smD D x = true) : (x.lst E).length ≤ 1000000 := by
 exact smX_sound (e := eV E) hd h
theorem lHook_ok {b : Cfg} {Ls : List LEnt} (hL : b.L = lHook Ls) {Tb : List Ent} (h : ∀ y ∈ Ls, entOK y = true ∧ ∃ Fy, LCT b.P y Fy (FT Tb y.num) ∧ Cst y (FT Tb y.num)) : LB b Tb := by
 intro E hE ds hk0 σ0 f a hla fr M F nx x fr' M' nx' hr n hnf w0 σ l LM Q hn hx0 hfr hM hF hK
 have hr : b.L f (fid a) (dS ds) fr M F nx = some (x, fr', M', nx') := hr
 rw [hL] at hr
 obtain ⟨y, hy, rfl, hid, hrun⟩ := lHook_find hr
 obtain ⟨hp, Fy, hc, hcst⟩ := h y hy
 simp only [entOK, Bool.and_eq_true] at hp
 obtain ⟨hany, hle, hpo⟩ := hp
 have hle := Nat.le_of_ble_eq_true hle
 have hd : ∀ x b, dS ds x = some b → eS E x = .bool b := dS_ok hk0
 unfold lRun at hrun
 split at hrun
 ·rename_i b1 h1
  split at hrun
  ·rename_i b2 rest h2
   split at hrun
   ·rename_i bd h30
    split at h30
    rotate_left
    ·cases h30
    rename_i b3 h3
    have h5 := h30
    cases hb : (bd.ks.all (fun p => Nat.blt p.1 y.nx) && bd.ks.all (fun p => match p.2 with | some ka => Nat.blt ka nx | none => true) && y.sm.all (fun j => match bd.ts[j]? with | some x => smD (dS ds) x | none => false) && y.pre.all (preD (dS ds) bd.ts)) with
    | false => rw [hb, cond_false] at hrun; cases hrun
    | true =>
     rw [hb, cond_true] at hrun
     simp only [Bool.and_eq_true] at hb
     obtain ⟨⟨⟨hlt, hltk⟩, hsm⟩, hpre⟩ := hb
     split at hrun
     ·rename_i e0 o ho
      simp only [Option.some.injEq, Prod.mk.injEq] at hrun
      obtain ⟨rfl, rfl, rfl, rfl⟩ := hrun
      have s3 := mS_sub h5
      have s2 := (mF_sub h3).trans s3
      have s1 := mM_sub h2
      obtain ⟨Lp, Lr, c2, c3, c1⟩ := mM_rel h2 hM
      have g := Tgt.rebase (E := E) (F := Fy) (σ := σ) (av := fun t => look l t) (frs := Lr) hlt
      have c1 := c1 _ _ (g.sub s2)
      have anyK : ∀ t i, (t, V.any i) ∈ y.S → i = t := fun t i hm => by
       have := List.all_eq_true.1 hany _ hm
       exact Nat.eq_of_beq_eq_true this
      refine h_perm (c3.trans List.perm_append_comm) ?_
      refine hc a hla hid.symm.symm (bd.ts.map (SE.val E)) (fun t => look l t) Lr n hnf w0 (rebase σ y.nx bd) l (Lr ++ Lp) Q (by simp [rebase]) (soon_late (mS_rel h1 (g.sub (s1.trans s2)) (fun _ _ => rfl) (fun _ t i hm => anyK t i (List.mem_filter.1 hm).1) (fun q => by cases q) hfr) (mS_rel h5 g (fun _ _ => rfl) (fun _ t i hm => anyK t i (List.mem_filter.1 hm).1) (fun q => by cases q) hfr)) (.frm c1) (mF_rel hF h3 (g.sub s3)) (fun j hj => ?_) (fun c hc => ?_) fun σ' l' L' e ys o' hg ho' hl' hk' hS' hM' => ?_
      ·have := List.all_eq_true.1 hsm j hj
       split at this
       ·rename_i x hx
        have e : (bd.ts.map (SE.val E)).getD j 0 = x.val E := by rw [List.getD_eq_getElem?_getD, List.getElem?_map, hx]; rfl
        rw [e]; exact smD_sound hd this
       ·cases this
      ·have := List.all_eq_true.1 hpre c hc
       unfold preD at this
       split at this
       ·rename_i x hx
        simp only [Bool.and_eq_true] at this
        obtain ⟨hty, this⟩ := this
        have hty : x.ty = some none := by
         unfold isBool at hty
         split at hty
         ·assumption
         ·cases hty
        split at this
        ·rename_i bv hbv
         have hbv2 := hd _ _ hbv
         rw [beq_iff_eq.1 this, eS_k hty] at hbv2
         rw [← subS_val (E := E) c.1 hx]
         simpa [cellV] using hbv2
        ·cases this
       ·cases this
      ·have hFE : ∀ i, E.F y.num i ((seL bd.ts).vals E) = ((e : Int) :: ys).getD i 0 := fun i => by rw [hE, seL_vals]; show (FT Tb y.num (bd.ts.map (SE.val E))).getD i 0 = _; rw [hg]
       have helt : e < y.outs.length := (List.getElem?_eq_some_iff.1 ho').1
       have hoo : o' = o := findOut_spec hd (hFE 0) (by omega) ho (Nat.zero_le _) (by simpa using ho')
       subst hoo
       have hmem : o' ∈ y.outs := List.mem_of_getElem? ho'
       have hpo' := List.all_eq_true.1 hpo _ hmem
       simp only [Bool.and_eq_true] at hpo'
       have fok : FlOK ⟨y.num, seL bd.ts, bd.ts, o'.cv, y.kk, bd.ks, nx⟩ E ys σ' (σ ++ σ') := by
        refine ⟨fun j => by rw [hFE]; simp, fun c hc => hcst _ e ys o' hg ho' c hc, fun k v hkv => ?_⟩
        have hklt : k < y.nx := by have := (List.getElem?_eq_some_iff.1 hkv).1; omega
        have hdef : (σ ++ σ')[nx + k]? = some v := by rw [List.getElem?_append_right (by omega), hn, show nx + k - nx = k by omega]; exact hkv
        unfold Fl.key
        cases hcon : y.kk.contains k with
        | false => simp only [hcon, cond_false]; exact hdef
        | true =>
         simp only [hcon, cond_true]
         split
         ·rename_i ka hlk
          have hmk : k ∈ y.kk := List.contains_iff_mem.1 hcon
          have h5 := hk' k hmk
          rw [hkv] at h5
          unfold rebase at h5
          rw [List.getElem?_map, List.getElem?_range hklt] at h5
          simp only [Option.map_some, hlk] at h5
          cases hka : σ[ka]? with
          | none =>
           have h6 := List.all_eq_true.1 hltk _ (lookR_mem hlk)
           have h6 : ka < nx := by simpa [Nat.blt_eq] using h6
           rw [List.getElem?_eq_none_iff] at hka
           omega
          | some z =>
           rw [hka] at h5
           simp only [Option.getD_some, Option.some.injEq] at h5
           rw [h5]
           exact Ext.get ⟨σ', rfl⟩ hka
         ·exact hdef
       cases hM' with
       | frm t =>
        have hX := hK (σ ++ σ') l' _ ⟨σ', rfl⟩ (by simp [hn, hl']) (frOf_RF (flS_rel fok ⟨σ', rfl⟩ hfr (fun _ => rfl) hpo'.1 hS')) ((flM_rel fok hpo'.2 t).app (c2.mono ⟨σ', rfl⟩))
        exact x_perm List.perm_append_comm hX
       | cons hk1 hc1 ho1 hr1 t => cases hc1.notBig
     ·cases hrun
   ·cases hrun
  ·cases hrun
 ·cases hrun
end Go.Proofs.Ytedfbamihjnhhaa.Own
