/- A walk by reckoning: a function's contract as a tree of questions, checked by the kernel; tables of contracts. -/
import Derived.Test.YtedfbamihjnhhaaFvB
namespace Go.Proofs.Ytedfbamihjnhhaa.Own
open Go Go.RowKit
set_option linter.unusedVariables false
set_option linter.unusedSimpArgs false
inductive ST where
 | leaf (v : V)
 | ask (x : SE) (t e : ST)
noncomputable def ST.get (E : Env) : ST → V
 | .leaf v => v
 | .ask x t e => bif x.val E != 0 then t.get E else e.get E
noncomputable def valC (E : Env) : C → Int
 | .int _ n => n
 | .bool b => b2i b
 | .opq x => x.val E
 | _ => 0
def flatVs : List V → List C
 | [] => []
 | .one c :: r => c :: flatVs r
 | .agg cs :: r => cs ++ flatVs r
 | .tup _ :: r => flatVs r
 | .any _ :: r => flatVs r
def flatV : V → List C
 | .one c => [c]
 | .agg cs => cs
 | .tup vs => flatVs vs
 | .any _ => []
noncomputable def treeFn (T : ST) (F : Nat → List Int → List Int) (xs : List Int) : List Int := (flatV (T.get (envOf F xs))).map (valC (envOf F xs))
structure Ent where
 f : Nat
 as : List Sh
 r : Res
 fn : (Nat → List Int → List Int) → List Int → List Int
 lp : Bool := false
def FT : List Ent → Nat → List Int → List Int
 | [], _, _ => []
 | x :: r, f, xs => bif Nat.beq f x.f then x.fn (FT r) xs else FT r f xs
def plainS : SE → Bool
 | .lit _ _ => true
 | .cmp .eql (.lit _ _) (.lit _ _) => true
 | _ => false
def hT : List Ent → Hook
 | [], _, _ => none
 | x :: r, f, vs => bif Nat.beq f x.f && !x.lp then (match matchA x.as vs with | some l => bif l.all plainS then none else some (appR f (seL l) x.r) | none => none) else hT r f vs
def findT : List Ent → Nat → Option (List Sh × Res)
 | [], _ => none
 | x :: r, f => bif Nat.beq f x.f && !x.lp then some (x.as, x.r) else findT r f
def TbOK (P : Program) (Tb : List Ent) : Prop := ∀ f as r, findT Tb f = some (as, r) → isFn P f = true ∧ CTE P (FT Tb f) f as r
theorem tb_nil {P : Program} : TbOK P [] := fun _ _ _ h => by cases h
theorem tb_cons {P : Program} {Tb : List Ent} (h : TbOK P Tb) {x : Ent} (hlp : x.lp = false) (hf : isFn P x.f = true) (hc : CTE P (fun xs => x.fn (FT Tb) xs) x.f x.as x.r) : TbOK P (x :: Tb) := by
 intro f as r hfind
 simp only [findT, hlp, Bool.not_false, Bool.and_true] at hfind
 cases hb : Nat.beq f x.f with
 | true =>
  rw [hb, cond_true] at hfind
  cases hfind
  have := Nat.eq_of_beq_eq_true hb
  subst this
  have e : FT (x :: Tb) x.f = fun xs => x.fn (FT Tb) xs := by funext xs; simp only [FT, hb, cond_true]
  rw [e]; exact ⟨hf, hc⟩
 | false =>
  rw [hb, cond_false] at hfind
  have e : FT (x :: Tb) f = FT Tb f := by funext xs; simp only [FT, hb, cond_false]
  rw [e]; exact h f as r hfind
theorem tb_loop {P : Program} {Tb : List Ent} (h : TbOK P Tb) {x : Ent} (hlp : x.lp = true) (hn : findT Tb x.f = none) : TbOK P (x :: Tb) := by
 intro f as r hfind
 simp only [findT, hlp, Bool.not_true, Bool.and_false, cond_false] at hfind
 have hne : Nat.beq f x.f = false := by
  rw [Bool.eq_false_iff]; intro q
  rw [Nat.eq_of_beq_eq_true q, hn] at hfind; cases hfind
 have e : FT (x :: Tb) f = FT Tb f := by funext xs; simp only [FT, hne, cond_false]
 rw [e]; exact h f as r hfind
theorem hT_find : ∀ {Tb : List Ent} {f : Nat} {vs : List V} {v : V}, hT Tb f vs = some v → ∃ as r l, findT Tb f = some (as, r) ∧ matchA as vs = some l ∧ v = appR f (seL l) r
 | [], _, _, _, h => by cases h
 | x :: Tb, f, vs, v, h => by
  simp only [hT] at h
  simp only [findT]
  cases hb : (Nat.beq f x.f && !x.lp) with
  | true =>
   simp only [hb, cond_true] at h ⊢
   split at h
   ·rename_i l hl
    cases hp : l.all plainS with
    | true => rw [hp, cond_true] at h; cases h
    | false => rw [hp, cond_false] at h; cases h; exact ⟨_, _, l, rfl, hl, rfl⟩
   ·cases h
  | false => simp only [hb, cond_false] at h ⊢; exact hT_find h
theorem hT_ok {P : Program} {E : Env} {Tb : List Ent} (h : TbOK P Tb) (hE : E.F = fun f i ys => (FT Tb f ys).getD i 0) : HookOK P E (hT Tb) := by
 intro σ f vs v us hv hus
 obtain ⟨as, r, l, h1, h2, rfl⟩ := hT_find hv
 obtain ⟨hf, hc⟩ := h f as r h1
 obtain ⟨e1, e2⟩ := matchA_rel h2 hus
 obtain ⟨c1, c2⟩ := hc _ e2
 refine ⟨hf, _, appR_rel (σ := σ) (zs := FT Tb f (l.map (SE.val E))) (fun i => by rw [hE, seL_vals]) c1, ?_⟩
 rw [e1]; exact c2
/-! ### what a leaf is -/
def cellOK : Option IntKind → C → Bool
 | some k, .int k' n => decide (k = k') && decide (k.wrap n = n)
 | none, .bool _ => true
 | k, .opq x => decide (x.ty = some k)
 | _, _ => false
def shC : Ks → List C → Bool
 | [], [] => true
 | k :: ks, c :: cs => cellOK k c && shC ks cs
 | _, _ => false
def shL : List Sh → List V → Bool
 | [], [] => true
 | .one k :: r, .one c :: vs => cellOK k c && shL r vs
 | .agg ks :: r, .agg cs :: vs => shC ks cs && shL r vs
 | _, _ => false
def shB : Res → V → Bool
 | .one s, v => shL [s] [v]
 | .tup ss, .tup vs => shL ss vs
 | _, _ => false
def eqcB : C → C → Bool
 | .int k n, .int k' n' => decide (k = k') && decide (n = n')
 | .bool a, .bool b => a == b
 | .opq x, .opq y => decide (x = y)
 | _, _ => false
def eqlB : List C → List C → Bool
 | [], [] => true
 | a :: as, b :: bs => eqcB a b && eqlB as bs
 | _, _ => false
def eq1B : V → V → Bool
 | .one a, .one b => eqcB a b
 | .agg a, .agg b => eqlB a b
 | _, _ => false
def eqLB : List V → List V → Bool
 | [], [] => true
 | a :: as, b :: bs => eq1B a b && eqLB as bs
 | _, _ => false
def eqvB : V → V → Bool
 | .tup a, .tup b => eqLB a b
 | a, b => eq1B a b
theorem eqcB_eq {a b : C} (h : eqcB a b = true) : a = b := by
 unfold eqcB at h
 split at h
 ·simp only [Bool.and_eq_true, decide_eq_true_eq] at h; rw [h.1, h.2]
 ·simp only [beq_iff_eq] at h; rw [h]
 ·simp only [decide_eq_true_eq] at h; rw [h]
 ·cases h
theorem eqlB_eq : ∀ {a b : List C}, eqlB a b = true → a = b
 | [], [], _ => rfl
 | a :: as, b :: bs, h => by simp only [eqlB, Bool.and_eq_true] at h; rw [eqcB_eq h.1, eqlB_eq h.2]
 | [], b :: bs, h => by cases h
 | a :: as, [], h => by cases h
theorem eq1B_eq {a b : V} (h : eq1B a b = true) : a = b := by
 unfold eq1B at h
 split at h
 ·rw [eqcB_eq h]
 ·rw [eqlB_eq h]
 ·cases h
theorem eqLB_eq : ∀ {a b : List V}, eqLB a b = true → a = b
 | [], [], _ => rfl
 | a :: as, b :: bs, h => by simp only [eqLB, Bool.and_eq_true] at h; rw [eq1B_eq h.1, eqLB_eq h.2]
 | [], b :: bs, h => by cases h
 | a :: as, [], h => by cases h
theorem eqvB_eq {a b : V} (h : eqvB a b = true) : a = b := by
 unfold eqvB at h
 split at h
 ·rw [eqLB_eq h]
 ·exact eq1B_eq h
section
variable {E : Env} {σ : List (Nat × Nat × Nat)}
theorem cellOK_rel {k : Option IntKind} {c : C} (h : cellOK k c = true) : RelC (eV E) σ c (cellV k (valC E c)) ∧ inK k (valC E c) := by
 unfold cellOK at h
 split at h
 ·rename_i k k' n
  simp only [Bool.and_eq_true, decide_eq_true_eq] at h
  obtain ⟨rfl, h2⟩ := h
  exact ⟨.int, h2⟩
 ·rename_i b
  refine ⟨?_, b2i_or b⟩
  show RelC (eV E) σ (.bool b) (.bool (b2i b != 0))
  rw [b2i_ne]; exact .bool
 ·rename_i x
  have hty := of_decide_eq_true h
  have := rel_opq (σ := σ) (e := E) x
  cases k with
  | some k =>
   have e : eS E x = .int k (x.val E) := by simp only [eS, hty]
   rw [e] at this; exact ⟨this, val_wrap E hty⟩
  | none =>
   have e : eS E x = .bool (x.val E != 0) := by simp only [eS, hty]
   rw [e] at this
   refine ⟨this, ?_⟩
   show x.val E = 0 ∨ x.val E = 1
   rw [val_bool hty]; exact b2i_or _
 ·cases h
theorem shC_rel : ∀ {ks : Ks} {cs : List C}, shC ks cs = true → ∀ (t : List Int), RelCs (eV E) σ cs (cellsV ks (cs.map (valC E) ++ t)) ∧ InC ks (cs.map (valC E)) ∧ cs.length = ks.length
 | [], [], _, t => ⟨.nil, trivial, rfl⟩
 | k :: ks, c :: cs, h, t => by
  simp only [shC, Bool.and_eq_true] at h
  obtain ⟨h1, h2⟩ := cellOK_rel (E := E) (σ := σ) h.1
  obtain ⟨h3, h4, h5⟩ := shC_rel h.2 t
  exact ⟨.cons h1 h3, ⟨h2, h4⟩, by simp [h5]⟩
 | [], c :: cs, h, _ => by cases h
 | k :: ks, [], h, _ => by cases h
theorem shL_rel : ∀ {ss : List Sh} {vs : List V}, shL ss vs = true → RelVs (eV E) σ vs (mkSh ss ((flatVs vs).map (valC E))) ∧ InC (flat ss) ((flatVs vs).map (valC E))
 | [], [], _ => ⟨.nil, trivial⟩
 | .one k :: r, .one c :: vs, h => by
  simp only [shL, Bool.and_eq_true] at h
  obtain ⟨h1, h2⟩ := cellOK_rel (E := E) (σ := σ) h.1
  obtain ⟨h3, h4⟩ := shL_rel h.2
  exact ⟨.cons (.one h1) h3, ⟨h2, h4⟩⟩
 | .agg ks :: r, .agg cs :: vs, h => by
  simp only [shL, Bool.and_eq_true] at h
  obtain ⟨h1, h2, h5⟩ := shC_rel (E := E) (σ := σ) h.1 ((flatVs vs).map (valC E))
  obtain ⟨h3, h4⟩ := shL_rel h.2
  simp only [flatVs, mkSh, List.map_append]
  rw [List.drop_append_of_le_length (by simp [h5]), List.drop_eq_nil_of_le (by simp [h5])]
  exact ⟨.cons (.agg h1) h3, InC.append h2 h4⟩
 | [], v :: vs, h => by cases h
 | .one k :: r, [], h => by cases h
 | .agg ks :: r, [], h => by cases h
 | .one k :: r, .agg _ :: _, h => by cases h
 | .one k :: r, .tup _ :: _, h => by cases h
 | .agg k :: r, .one _ :: _, h => by cases h
 | .agg k :: r, .tup _ :: _, h => by cases h
theorem shB_rel {r : Res} {v : V} (h : shB r v = true) : RelV (eV E) σ v (mkRes r ((flatV v).map (valC E))) ∧ InC (flatR r) ((flatV v).map (valC E)) := by
 unfold shB at h
 split at h
 ·rename_i s
  obtain ⟨h1, h2⟩ := shL_rel (E := E) (σ := σ) h
  cases v with
  | one c =>
   cases s with
   | one k => cases h1 with | cons h1 _ => exact ⟨h1, h2⟩
   | agg ks => cases h
  | agg cs =>
   cases s with
   | one k => cases h
   | agg ks =>
    simp only [flatVs, List.append_nil] at h1 h2
    cases h1 with | cons h1 _ => exact ⟨h1, h2⟩
  | tup vs => cases s <;> cases h
  | any i => cases s <;> cases h
 ·obtain ⟨h1, h2⟩ := shL_rel (E := E) (σ := σ) h
  exact ⟨.tup h1, h2⟩
 ·cases h
end
/-! ### remainders by what is known to be above nought -/
def gR (D : SE → Option Bool) (o : Oper) (vs : List V) : Option V :=
 match o.op, vs with
 | .binOp .rem _ _ _ _, [.one a, .one b] => (match toI a, toI b with
  | some (k, x), some (k', y) => (match k, k' with
   | .i64, .i64 => (match D (.cmp .gtr y (.lit .i64 0)) with | some true => some (.one (.opq (.bin .rem .i64 x y))) | _ => none)
   | _, _ => none)
  | _, _ => none)
 | _, _ => none
theorem gR_sound {P : Program} {E : Env} {σ : List (Nat × Nat × Nat)} {D : SE → Option Bool} (hD : ∀ x b, D x = some b → eS E x = .bool b) {o : Oper} {vs : List V} {v : V} {us : List Value} (h : gR D o vs = some v) (hus : RelVs (eV E) σ vs us) :
  ∃ u, RelV (eV E) σ v u ∧ ∀ (ρ : Operand → Value), o.op.operands.toList.map ρ = us → ∀ (w0 : World) (L : List Blk), QV P w0 o ρ L u := by
 unfold gR at h
 split at h
 ·rename_i t x y ty a b ho
  cases hus with | cons ha t1 => cases t1 with | cons hb t2 => cases t2 with | nil =>
  cases ha with | one ha => cases hb with | one hb =>
  split at h
  ·rename_i k p k' q hp hq
   obtain ⟨e1, w1⟩ := toI_rel hp ha
   obtain ⟨e2, w2⟩ := toI_rel hq hb
   split at h
   ·split at h
    ·rename_i hd
     cases h
     have hp0 : 0 < q.val E := by
      have h1 := hD _ _ hd
      rw [eS_cmp] at h1
      injection h1 with h1
      have h2 : decide (q.val E > IntKind.i64.wrap 0) = true := h1
      have h3 := of_decide_eq_true h2
      rwa [show IntKind.i64.wrap 0 = 0 from rfl] at h3
     refine ⟨_, .one (rel_opq _), fun ρ hρ w0 L => ?_⟩
     rw [ho] at hρ
     simp [Op.operands] at hρ
     rw [eS_bin]
     have := q_rem (P := P) (w0 := w0) (L := L) ho (hρ.1.trans e1) (hρ.2.trans e2) (by rw [beq_eq_false_iff_ne]; exact Int.ne_of_gt hp0)
     simp only [valBin]
     rw [rem_wrap (.inr (.inl rfl)) (val_wrap E w1) hp0]
     exact this
    ·cases h
   ·cases h
  ·cases h
 ·cases h
/-! ### a tree is checked -/
def cfT (b : Cfg) (Tb : List Ent) (ds : List (SE × Bool)) : Cfg := { P := b.P, X := b.X, H := hT Tb, G := fun o vs => match gS b.P o vs with | some v => some v | none => (match gR (dS ds) o vs with | some v => some v | none => gB b.P (dS ds) o vs), D := dS ds, E := b.E, S := b.S, L := b.L, W := b.W, B := b.B }
def checkT (b : Cfg) (Tb : List Ent) (d f : Nat) (as : List Sh) (r : Res) : ST → List (SE × Bool) → Bool
 | .leaf v, ds => (match evF (cfT b Tb ds) d f (symA as 0) [] [] 0 with | some (v', _, _) => eqvB v' v | none => false) && shB r v
 | .ask x t e, ds => (match x.ty with | some none => true | _ => false) && (checkT b Tb d f as r t ((x, true) :: ds) && checkT b Tb d f as r e ((x, false) :: ds))
structure CfgOK (b : Cfg) : Prop where
 x : ∀ e σ0, XOK b e σ0
 mixed : b.P.follows .mixedOrders = true
 b : ∀ (E : Env) (σ0 : List (Nat × Nat × Nat)) (D : SE → Option Bool), (∀ x t, D x = some t → eS E x = .bool t) → CallOK b (eV E) σ0 (b.B D)
def LB (b : Cfg) (Tb : List Ent) : Prop := ∀ E : Env, E.F = (fun f i ys => (FT Tb f ys).getD i 0) → ∀ ds, Knows E ds → ∀ σ0, LOK (cfT b Tb ds) (eV E) σ0
theorem okT {b : Cfg} (hb : CfgOK b) {E : Env} {Tb : List Ent} (hlb : LB b Tb) (h : TbOK b.P Tb) (hE : E.F = fun f i ys => (FT Tb f ys).getD i 0) {ds : List (SE × Bool)} (hk : Knows E ds) {σ0 : List (Nat × Nat × Nat)} : OK (cfT b Tb ds) (eV E) σ0 :=
 ⟨⟨eS_one E, E.pv1⟩, fun σ hx f vs v us h1 h2 => hb.x (eV E) σ0 σ hx f vs v us h1 h2, fun σ hx f vs v us h1 h2 => hT_ok h hE σ f vs v us h1 h2, fun σ hx o vs us v h1 h2 => (by
  change (match gS b.P o vs with | some v => some v | none => (match gR (dS ds) o vs with | some v => some v | none => gB b.P (dS ds) o vs)) = some v at h1
  cases hg : gS b.P o vs with
  | some x => rw [hg] at h1; cases h1; exact gS_sound hg h2
  | none =>
   rw [hg] at h1
   cases hr : gR (dS ds) o vs with
   | some x => rw [hr] at h1; cases h1; exact gR_sound (dS_ok hk) hr h2
   | none => rw [hr] at h1; exact gB_sound (dS_ok hk) h1 h2), dS_ok hk, hlb E hE ds hk σ0, hb.b E σ0 (dS ds) (dS_ok hk), hb.mixed⟩
theorem tree_sound {b : Cfg} (hb : CfgOK b) {Tb : List Ent} (hlb : LB b Tb) (hT : TbOK b.P Tb) {d f : Nat} {as : List Sh} {r : Res} {xs : List Int} (hx : InC (flat as) xs) : ∀ (T : ST) (ds : List (SE × Bool)), checkT b Tb d f as r T ds = true → Knows (envOf (FT Tb) xs) ds →
  InC (flatR r) (treeFn T (FT Tb) xs) ∧ Pure b.P f (List.toArray (mkSh as xs)) (mkRes r (treeFn T (FT Tb) xs))
 | .leaf v, ds, h, hk => by
  simp only [checkT, Bool.and_eq_true] at h
  obtain ⟨h1, h2⟩ := h
  obtain ⟨h3, h4⟩ := shB_rel (E := envOf (FT Tb) xs) (σ := []) h2
  refine ⟨h4, ?_⟩
  refine pure_ev (c := cfT b Tb ds) (d := d) (okT hb hlb hT rfl hk) (v := v) ?_ (symA_rel (σ := []) as 0 xs (fun j _ => by rw [Nat.zero_add]) hx) h3
  split at h1
  ·rename_i v' M n hev
   rw [hev, ← eqvB_eq h1]; rfl
  ·cases h1
 | .ask x t e, ds, h, hk => by
  simp only [checkT, Bool.and_eq_true] at h
  obtain ⟨h0, h1, h2⟩ := h
  have hty : x.ty = some none := by
   split at h0
   ·assumption
   ·cases h0
  have e0 : eS (envOf (FT Tb) xs) x = .bool (x.val (envOf (FT Tb) xs) != 0) := by simp only [eS, hty]
  cases hb' : (x.val (envOf (FT Tb) xs) != 0) with
  | true =>
   have e1 : treeFn (.ask x t e) (FT Tb) xs = treeFn t (FT Tb) xs := by unfold treeFn; simp only [ST.get, hb', cond_true]
   rw [e1]
   exact tree_sound hb hlb hT hx t _ h1 (.cons (by rw [e0, hb']) hk)
  | false =>
   have e1 : treeFn (.ask x t e) (FT Tb) xs = treeFn e (FT Tb) xs := by unfold treeFn; simp only [ST.get, hb', cond_false]
   rw [e1]
   exact tree_sound hb hlb hT hx e _ h2 (.cons (by rw [e0, hb']) hk)
theorem tb_tree {b : Cfg} (hb : CfgOK b) {Tb : List Ent} (hlb : LB b Tb) (hT : TbOK b.P Tb) {d f : Nat} {as : List Sh} {r : Res} {T : ST} (hf : isFn b.P f = true) (h : checkT b Tb d f as r T [] = true) : TbOK b.P (⟨f, as, r, treeFn T, false⟩ :: Tb) :=
 tb_cons hT rfl hf fun xs hx => tree_sound hb hlb hT hx T [] h .nil
end Go.Proofs.Ytedfbamihjnhhaa.Own
