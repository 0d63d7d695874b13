/- A walk by reckoning: a loop whose rounds are counted. -/
import Derived.Test.YtedfbamihjnhhaaEvL
namespace Go.Proofs.Ytedfbamihjnhhaa.Own
open Go Go.RowKit
set_option linter.unusedVariables false
set_option linter.unusedSimpArgs false

/-- what a round makes of the variables -/
inductive RT where
  | next (ys : List SE)
  | ask (x : SE) (t e : RT)
def RT.get (E : Env) : RT → List Int
  | .next ys => ys.map (SE.val E)
  | .ask x t e => bif x.val E != 0 then t.get E else e.get E
def isBool (x : SE) : Bool := match x.ty with | none => true | some _ => false
def stB2 (S : List (Nat × V)) (M : MB) (fr : Tr) (m : MB) (ys : List SE) : Bool :=
  match mS S fr 0 with
  | some l1 => (match mM M m l1.length with | some l2 => decide (l1 ++ l2 = ys) | none => false)
  | none => false
def checkR (b : Cfg) (Tb : List Ent) (d f n : Nat) (a : Code) (S : List (Nat × V)) (M : MB) (nx : Nat) (S' : List (Nat × V)) (M' : MB) : RT → List (SE × Bool) → Bool
  | .next ys, ds => (match evC (cfT b Tb ds) d f n a (frOf S) M [] nx with | some (.normal, fr, m, _) => stB2 S' M' fr m ys | _ => false)
  | .ask x t e, ds => isBool x && (checkR b Tb d f n a S M nx S' M' t ((x, true) :: ds) && checkR b Tb d f n a S M nx S' M' e ((x, false) :: ds))
def exB : Ex → Ex → Bool
  | .normal, .normal => true
  | .ret, .ret => true
  | .exit i, .exit j => Nat.beq i j
  | _, _ => false
def checkX (b : Cfg) (Tb : List Ent) (d f n : Nat) (a : Code) (S : List (Nat × V)) (M : MB) (nx : Nat) (x : Ex) (S' : List (Nat × V)) (M' : MB) (ys : List SE) : Bool :=
  match x with
  | .normal => false
  | x => (match evC (cfT b Tb []) d f n a (frOf S) M [] nx with | some (x', fr, m, _) => exB x' x && stB2 S' M' fr m ys | none => false)
def runR (T : Nat → RT) (F : Nat → List Int → List Int) : Nat → Nat → List Int → List Int
  | _, 0, xs => xs
  | j, k + 1, xs => runR T F (j + 1) k ((T j).get (envOf F xs))
theorem exB_eq {x y : Ex} (h : exB x y = true) : x = y := by
  unfold exB at h
  split at h
  · rfl
  · rfl
  · rw [Nat.eq_of_beq_eq_true h]
  · cases h
section
variable {P : Program} {e : Vl} {σ σ' : List (Nat × Nat × Nat)}
theorem RelCs.shrink (he : (∀ i, oneC (e.s i) = true) ∧ ∀ i, oneC (e.v i) = true) (x : Ext σ σ') {cs : List C} {vs : List Value} (hl : C.ltL σ.length cs = true) (h : RelCs e σ' cs vs) : RelCs e σ cs vs := by
  obtain ⟨u, hu⟩ := C.exL he cs hl
  rw [← (hu.mono x).det h]; exact hu
theorem RelV.shrink (he : (∀ i, oneC (e.s i) = true) ∧ ∀ i, oneC (e.v i) = true) (x : Ext σ σ') {c : V} {v : Value} (hl : c.lt σ.length = true) (h : RelV e σ' c v) : RelV e σ c v := by
  obtain ⟨u, hu⟩ := V.ex he c hl
  rw [← (hu.mono x).det h]; exact hu
theorem RM.shrink (he : (∀ i, oneC (e.s i) = true) ∧ ∀ i, oneC (e.v i) = true) (x : Ext σ σ') : ∀ {M : MB} {L : List Blk}, (M.all fun b => Nat.blt b.1 σ.length && C.ltL σ.length b.2.1) = true → RM P e σ' M L → RM P e σ M L
  | _, _, _, .nil => .nil
  | _, _, hl, .cons hk hc ho hr t => by
    simp only [List.all_cons, Bool.and_eq_true] at hl
    have hlt := hl.1.1
    simp only [Nat.blt_eq] at hlt
    rw [x.back hlt] at hk
    exact .cons hk (hc.shrink he x hl.1.2) ho hr (RM.shrink he x hl.2 t)
theorem St.shrink (he : (∀ i, oneC (e.s i) = true) ∧ ∀ i, oneC (e.v i) = true) (x : Ext σ σ') {S : List (Nat × V)} {M : MB} {l : List (Nat × Value)} {L : List Blk} (hl : ltB σ.length S M = true) (h : St P e σ' S M l L) : St P e σ S M l L := by
  simp only [ltB, Bool.and_eq_true, List.all_eq_true] at hl
  exact ⟨fun p hp => (h.1 p hp).shrink he x (hl.1 p hp), h.2.shrink he x (by rw [List.all_eq_true]; intro b hb; rw [Bool.and_eq_true]; exact hl.2 b hb)⟩
end
section
variable {b : Cfg} {Tb : List Ent}
theorem envOf_one (F : Nat → List Int → List Int) (xs : List Int) : (∀ i, oneC ((eV (envOf F xs)).s i) = true) ∧ ∀ i, oneC ((eV (envOf F xs)).v i) = true := ⟨eS_one _, (envOf F xs).pv1⟩
theorem st_match {E : Env} {F : Nat → List Int → List Int} {σ : List (Nat × Nat × Nat)} {P : Program} {S : List (Nat × V)} {M m : MB} {fr : Tr} {ys : List SE} (h : stB2 S M fr m ys = true) {l : List (Nat × Value)} {L : List Blk} (hf : RF (eV E) σ fr l) (hm : RM P (eV E) σ m L) :
    ∃ L', St P (eV (envOf F (ys.map (SE.val E)))) σ S M l L' ∧ L'.Sublist L := by
  unfold stB2 at h
  split at h
  · rename_i l1 h1
    split at h
    · rename_i l2 h2
      have hy := of_decide_eq_true h
      subst hy
      rw [List.map_append]
      have ag : Agree (l1.map (SE.val E) ++ l2.map (SE.val E)) 0 (l1.map (SE.val E) ++ l2.map (SE.val E)) := fun j _ => by rw [Nat.zero_add]
      have ag2 := ag.right
      rw [Nat.zero_add, List.length_map] at ag2
      obtain ⟨L', a1, a2⟩ := mM_rel (F := F) h2 ag2 hm
      exact ⟨L', ⟨mS_rel h1 ag.left hf, a1⟩, a2⟩
    · cases h
  · cases h
/-- A loop, round by round; S says its slots at each round's head. -/
theorem counted (hb : CfgOK b) (hlb : LB b Tb) (hT : TbOK b.P Tb) {d f n nx : Nat} {a : Code} {S : Nat → List (Nat × V)} {M : MB} {T : Nat → RT} {N : Nat} {x : Ex} {S1 : List (Nat × V)} {M1 : MB} {ys : List SE}
    (hround : ∀ j, j < N → checkR b Tb d f n a (S j) M nx (S (j + 1)) M (T j) [] = true) (hexit : checkX b Tb d f n a (S N) M nx x S1 M1 ys = true) (hlt : ∀ j, j ≤ N → ltB nx (S j) M = true) (hlt1 : ltB nx S1 M1 = true)
    (hsub : ∀ y ∈ loopsOf a, LoopOf b.P f y) (hnf : ∃ fn, b.P.funcs[f]? = some fn ∧ fn.ntmps = n) {w0 : World} {σ : List (Nat × Nat × Nat)} (hn : σ.length = nx) {Q : Exit → Act → World → Prop} :
    ∀ (k j : Nat) (xs : List Int) (l : List (Nat × Value)) (LM : List Blk), j + k = N → St b.P (eV (envOf (FT Tb) xs)) σ (S j) M l LM →
      (∀ l' LM', St b.P (eV (envOf (FT Tb) (ys.map (SE.val (envOf (FT Tb) (runR T (FT Tb) j k xs)))))) σ S1 M1 l' LM' → X w0 Q (ex x) (frm n l') LM') → H b.P w0 a Q (frm n l) LM
  | 0, j, xs, l, LM, hjk, hst, hK => by
    have hj : j = N := by omega
    subst hj
    refine j_round_k fun NN hN => ?_
    unfold checkX at hexit
    have key : ∀ x' fr m nx', evC (cfT b Tb []) d f n a (frOf (S j)) M [] nx = some (x', fr, m, nx') → x' = x → x ≠ .normal → stB2 S1 M1 fr m ys = true → J b.P w0 a (Exit.then NN Q) (frm n l) LM := by
      intro x' fr m nx' hev hxx hne hst2
      subst hxx
      refine (evC_sound (okT hb hlb hT rfl .nil) d f n a _ M [] nx _ fr m nx' hev hsub hnf w0 σ l LM _ hn (Ext.refl σ) (frOf_RF hst.1) hst.2 FR.nil fun σ' l' LM' hx hlen hfr hm => ?_).1
      obtain ⟨L', h1, h2⟩ := st_match (F := FT Tb) hst2 hfr hm
      have h3 := hK l' L' (h1.shrink (envOf_one _ _) hx (by rw [hn]; exact hlt1))
      cases x' with
      | normal => exact absurd rfl hne
      | ret => exact x_then_ret (x_sub h2 h3)
      | exit id => exact x_then_exit (x_sub h2 h3)
    cases x with
    | normal => cases hexit
    | ret =>
      simp only at hexit
      split at hexit
      · rename_i x' fr m nx' hev
        simp only [Bool.and_eq_true] at hexit
        exact key _ _ _ _ hev (exB_eq hexit.1) (by simp) hexit.2
      · cases hexit
    | exit id =>
      simp only at hexit
      split at hexit
      · rename_i x' fr m nx' hev
        simp only [Bool.and_eq_true] at hexit
        exact key _ _ _ _ hev (exB_eq hexit.1) (by simp) hexit.2
      · cases hexit
  | k + 1, j, xs, l, LM, hjk, hst, hK => by
    refine j_round_k fun NN hN => ?_
    have key : ∀ (t : RT) (ds : List (SE × Bool)), checkR b Tb d f n a (S j) M nx (S (j + 1)) M t ds = true → Knows (envOf (FT Tb) xs) ds → t.get (envOf (FT Tb) xs) = (T j).get (envOf (FT Tb) xs) → J b.P w0 a (Exit.then NN Q) (frm n l) LM := by
      intro t
      induction t with
      | next zs =>
        intro ds hc hk heq
        simp only [checkR] at hc
        split at hc
        · rename_i fr m nx' hev
          refine (evC_sound (okT hb hlb hT rfl hk) d f n a _ M [] nx _ fr m nx' hev hsub hnf w0 σ l LM _ hn (Ext.refl σ) (frOf_RF hst.1) hst.2 FR.nil fun σ' l' LM' hx hlen hfr hm => ?_).1
          obtain ⟨L', h1, h2⟩ := st_match (F := FT Tb) hc hfr hm
          refine hN _ _ (h_sub h2 (counted hb hlb hT hround hexit hlt hlt1 hsub hnf hn k (j + 1) ((T j).get (envOf (FT Tb) xs)) l' L' (by omega) ?_ hK))
          have := h1.shrink (envOf_one _ _) hx (by rw [hn]; exact hlt (j + 1) (by omega))
          have e1 : zs.map (SE.val (envOf (FT Tb) xs)) = (T j).get (envOf (FT Tb) xs) := heq
          rw [e1] at this
          exact this
        · cases hc
      | ask q t e iht ihe =>
        intro ds hc hk heq
        simp only [checkR, Bool.and_eq_true] at hc
        obtain ⟨h0, h1, h2⟩ := hc
        have hty : q.ty = none := by
          unfold isBool at h0
          split at h0
          · assumption
          · cases h0
        have e0 : eS (envOf (FT Tb) xs) q = .bool (q.val (envOf (FT Tb) xs) != 0) := by simp only [eS, hty]
        cases hb' : (q.val (envOf (FT Tb) xs) != 0) with
        | true => exact iht _ h1 (.cons (by rw [e0, hb']) hk) (by rw [← heq]; simp only [RT.get, hb', cond_true])
        | false => exact ihe _ h2 (.cons (by rw [e0, hb']) hk) (by rw [← heq]; simp only [RT.get, hb', cond_false])
    exact key (T j) [] (hround j (by omega)) .nil rfl
end
/-! ### a loop's contract as a hook -/
def fillP (f : Nat) (as : SE) : C → C
  | .opq (.ivar k j) => .opq (.app f j (some k) as)
  | .opq (.bvar j) => .opq (.app f j none as)
  | c => c
def fillPV (f : Nat) (as : SE) : V → V
  | .one c => .one (fillP f as c)
  | .agg cs => .agg (cs.map (fillP f as))
  | v => v
structure LEnt where
  f : Nat
  id : Nat
  num : Nat
  nx : Nat
  S0 : List (Nat × V)
  M0 : MB
  x : Ex
  S1 : List (Nat × V)
  M1 : MB
def lRun (y : LEnt) : LoopF := fun fr M _ nx =>
  bif Nat.beq nx y.nx then
    (match mS y.S0 fr 0 with
    | some l1 => (match mM y.M0 M l1.length with
      | some l2 => some (y.x, frOf (y.S1.map fun p => (p.1, fillPV y.num (seL (l1 ++ l2)) p.2)), y.M1.map (fun b => (b.1, b.2.1.map (fillP y.num (seL (l1 ++ l2))), b.2.2)), y.nx)
      | none => none)
    | none => none) else none
def lHook : List LEnt → Nat → Nat → LoopF
  | [], _, _ => fun _ _ _ _ => none
  | y :: r, f, id => bif Nat.beq f y.f && Nat.beq id y.id then lRun y else lHook r f id
end Go.Proofs.Ytedfbamihjnhhaa.Own
