/- A walk by reckoning: closed values that are known beforehand. -/
import Derived.Test.YtedfbamihjnhhaaFvO
namespace Go.Proofs.Ytedfbamihjnhhaa.Own
open Go Go.RowKit Go.Proofs
set_option linter.unusedVariables false
set_option linter.unusedSimpArgs false
def cfK (b : Cfg) (Tb : List Ent) (K : Hook) (ds : List (SE × Bool)) : Cfg := { cfT b Tb ds with H := fun f vs => match K f vs with | some v => some v | none => hT Tb f vs }
def KOK (P : Program) (K : Hook) : Prop := ∀ (e : Vl) (σ : List (Nat × Nat × Nat)) (f : Nat) (vs : List V) (v : V) (us : List Value), K f vs = some v → RelVs e σ vs us → isFn P f = true ∧ ∃ u, RelV e σ v u ∧ Pure P f (List.toArray us) u
theorem okK {b : Cfg} (hb : CfgOK b) {E : Env} {Tb : List Ent} {K : Hook} (hK : KOK b.P K) (hlb : LB b Tb) (h : TbOK b.P Tb) (hE : E.F = fun f i ys => (FT Tb f ys).getD i 0) {ds : List (SE × Bool)} (hk : Knows E ds) {σ0 : List (Nat × Nat × Nat)} : OK (cfK b Tb K ds) (eV E) σ0 :=
  have o := okT hb hlb h hE hk (σ0 := σ0)
  ⟨o.he, o.x, fun σ hx f vs v us h1 h2 => by
    change (match K f vs with | some v => some v | none => hT Tb f vs) = some v at h1
    cases hf : K f vs with
    | some x => rw [hf] at h1; cases h1; exact hK _ σ f vs _ us hf h2
    | none => rw [hf] at h1; exact o.h σ hx f vs v us h1 h2, o.g, o.d, o.l, o.mixed⟩
def checkK (b : Cfg) (Tb : List Ent) (K : Hook) (d f : Nat) (args : List V) (F : MB) (nx : Nat) : LT → List (SE × Bool) → Bool
  | .done, ds => (match evF (cfK b Tb K ds) d f args [] [F] nx with | some (.one (.bool r), _, _) => r | _ => false)
  | .ask x t e, ds => isBool x && (checkK b Tb K d f args F nx t ((x, true) :: ds) && checkK b Tb K d f args F nx e ((x, false) :: ds))
  | .know x v t, ds => isBool x && checkK b Tb K d f args F nx t ((x, v) :: ds)
theorem law_soundK {b : Cfg} {Tb : List Ent} {K : Hook} (hb : CfgOK b) (hK : KOK b.P K) (hlb : LB b Tb) (hT : TbOK b.P Tb) {E : Env} (hE : E.F = fun f i ys => (FT Tb f ys).getD i 0) {σ : List (Nat × Nat × Nat)} {d f nx : Nat} {args : List V} {us : List Value} {F : MB} {w : World} (hn : σ.length = nx) (hus : RelVs E σ args us) (hF : FR b.P E σ [F] w) :
    ∀ (T : LT) (ds : List (SE × Bool)), checkK b Tb K d f args F nx T ds = true → Knows E ds → T.ok E → Calls b.P f (List.toArray us) w fun en w' => en = .returned (.bool true) ∧ Below w.heap.size w w'
  | .done, ds, h, hk, _ => by
    simp only [checkK] at h
    split at h
    · rename_i r M n hev
      subst h
      exact calls_ev (c := cfK b Tb K ds) (σ0 := σ) (okK hb hK hlb hT hE hk) hn hF (by rw [hev]; rfl) hus (.one .bool)
    · cases h
  | .ask x t e, ds, h, hk, hok => by
    simp only [checkK, Bool.and_eq_true] at h
    obtain ⟨h0, h1, h2⟩ := h
    have e0 : eS E x = .bool (x.val E != 0) := by rw [eS_k (isBool_ty h0)]; rfl
    cases hb' : (x.val E != 0) with
    | true => exact law_soundK hb hK hlb hT hE hn hus hF t _ h1 (.cons (by rw [e0, hb']) hk) (hok.1 hb')
    | false => exact law_soundK hb hK hlb hT hE hn hus hF e _ h2 (.cons (by rw [e0, hb']) hk) (hok.2 hb')
  | .know x v t, ds, h, hk, hok => by
    simp only [checkK, Bool.and_eq_true] at h
    obtain ⟨h0, h1⟩ := h
    have e0 : eS E x = .bool (x.val E != 0) := by rw [eS_k (isBool_ty h0)]; rfl
    exact law_soundK hb hK hlb hT hE hn hus hF t _ h1 (.cons (by rw [e0, hok.1]) hk) hok.2
/-! ### literals -/
def litC : C → Option Value
  | .int k n => some (.int k n)
  | .bool b => some (.bool b)
  | .nils => some (.slice none 0 0)
  | _ => none
def litCs : List C → Option (List Value)
  | [] => some []
  | c :: cs => match litC c, litCs cs with | some v, some vs => some (v :: vs) | _, _ => none
def litV : V → Option Value
  | .one c => litC c
  | .agg cs => (match litCs cs with | some vs => some (.agg (List.toArray vs)) | none => none)
  | _ => none
def litVs : List V → Option (List Value)
  | [] => some []
  | c :: cs => match litV c, litVs cs with | some v, some vs => some (v :: vs) | _, _ => none
section
variable {e : Vl} {σ : List (Nat × Nat × Nat)}
theorem litC_rel {c : C} {u v : Value} (h : litC c = some u) (hr : RelC e σ c v) : v = u := by
  cases hr <;> cases h <;> rfl
theorem litC_mk {c : C} {u : Value} (h : litC c = some u) : RelC e σ c u := by
  cases c <;> cases h <;> constructor
theorem litCs_rel : ∀ {cs : List C} {us vs : List Value}, litCs cs = some us → RelCs e σ cs vs → vs = us
  | _, us, _, h, .nil => by cases h; rfl
  | c :: cs, us, _, h, .cons hc ht => by
    simp only [litCs] at h
    split at h
    · rename_i v vs h1 h2
      cases h
      rw [litC_rel h1 hc, litCs_rel h2 ht]
    · cases h
theorem litCs_mk : ∀ {cs : List C} {us : List Value}, litCs cs = some us → RelCs e σ cs us
  | [], us, h => by cases h; exact .nil
  | c :: cs, us, h => by
    simp only [litCs] at h
    split at h
    · rename_i v vs h1 h2
      cases h
      exact .cons (litC_mk h1) (litCs_mk h2)
    · cases h
theorem litV_rel {x : V} {u v : Value} (h : litV x = some u) (hr : RelV e σ x v) : v = u := by
  cases hr with
  | one hc => exact litC_rel h hc
  | agg hc =>
    simp only [litV] at h
    split at h
    · rename_i vs h1; cases h; rw [litCs_rel h1 hc]
    · cases h
  | tup _ => cases h
  | any => cases h
theorem litV_mk {x : V} {u : Value} (h : litV x = some u) : RelV e σ x u := by
  cases x with
  | one c => exact .one (litC_mk h)
  | agg cs =>
    simp only [litV] at h
    split at h
    · rename_i vs h1; cases h; exact .agg (litCs_mk h1)
    · cases h
  | tup _ => cases h
  | any => cases h
theorem litVs_rel : ∀ {xs : List V} {us vs : List Value}, litVs xs = some us → RelVs e σ xs vs → vs = us
  | _, us, _, h, .nil => by cases h; rfl
  | c :: cs, us, _, h, .cons hc ht => by
    simp only [litVs] at h
    split at h
    · rename_i v vs h1 h2
      cases h
      rw [litV_rel h1 hc, litVs_rel h2 ht]
    · cases h
theorem litVs_mk : ∀ {xs : List V} {us : List Value}, litVs xs = some us → RelVs e σ xs us
  | [], us, h => by cases h; exact .nil
  | c :: cs, us, h => by
    simp only [litVs] at h
    split at h
    · rename_i v vs h1 h2
      cases h
      exact .cons (litV_mk h1) (litVs_mk h2)
    · cases h
end
def eqcK : C → C → Bool
  | .nils, .nils => true
  | a, b => eqcB a b
theorem eqcK_eq {a b : C} (h : eqcK a b = true) : a = b := by
  unfold eqcK at h
  split at h
  · rfl
  · exact eqcB_eq h
def eqlK : List C → List C → Bool
  | [], [] => true
  | a :: as, b :: bs => eqcK a b && eqlK as bs
  | _, _ => false
theorem eqlK_eq : ∀ {a b : List C}, eqlK a b = true → a = b
  | [], [], _ => rfl
  | a :: as, b :: bs, h => by simp only [eqlK, Bool.and_eq_true] at h; rw [eqcK_eq h.1, eqlK_eq h.2]
  | [], b :: bs, h => by cases h
  | a :: as, [], h => by cases h
def eqvK : V → V → Bool
  | .one a, .one b => eqcK a b
  | .agg a, .agg b => eqlK a b
  | _, _ => false
theorem eqvK_eq {a b : V} (h : eqvK a b = true) : a = b := by
  unfold eqvK at h
  split at h
  · rw [eqcK_eq h]
  · rw [eqlK_eq h]
  · cases h
def eqvsB : List V → List V → Bool
  | [], [] => true
  | a :: as, b :: bs => eqvK a b && eqvsB as bs
  | _, _ => false
theorem eqvsB_eq : ∀ {a b : List V}, eqvsB a b = true → a = b
  | [], [], _ => rfl
  | a :: as, b :: bs, h => by
    simp only [eqvsB, Bool.and_eq_true] at h
    rw [eqvK_eq h.1, eqvsB_eq h.2]
  | [], _ :: _, h => by cases h
  | _ :: _, [], h => by cases h
structure KEnt where
  f : Nat
  vs : List V
  v : V
def kL : List KEnt → Hook
  | [], _, _ => none
  | k :: r, f, vs => bif Nat.beq k.f f && eqvsB k.vs vs then some k.v else kL r f vs
def KE (P : Program) (k : KEnt) : Prop := isFn P k.f = true ∧ ∃ us u, litVs k.vs = some us ∧ litV k.v = some u ∧ Pure P k.f (List.toArray us) u
theorem kL_ok {P : Program} : ∀ {l : List KEnt}, (∀ k ∈ l, KE P k) → KOK P (kL l)
  | [], _ => fun _ _ _ _ _ _ h => by cases h
  | k :: r, hl => fun e σ f vs v us h hr => by
    simp only [kL] at h
    cases hb : (Nat.beq k.f f && eqvsB k.vs vs) with
    | true =>
      rw [hb, cond_true] at h
      cases h
      simp only [Bool.and_eq_true] at hb
      obtain ⟨h1, us', u, h2, h3, h4⟩ := hl k (.head _)
      have e1 := Nat.eq_of_beq_eq_true hb.1
      have e2 := eqvsB_eq hb.2
      subst e1; subst e2
      rw [litVs_rel h2 hr]
      exact ⟨h1, u, litV_mk h3, h4⟩
    | false =>
      rw [hb, cond_false] at h
      exact kL_ok (fun k hk => hl k (.tail _ hk)) e σ f vs v us h hr
def kOr (K L : Hook) : Hook := fun f vs => match K f vs with | some v => some v | none => L f vs
theorem kOr_ok {P : Program} {K L : Hook} (hK : KOK P K) (hL : KOK P L) : KOK P (kOr K L) := fun e σ f vs v us h hr => by
  unfold kOr at h
  cases hf : K f vs with
  | some x => rw [hf] at h; cases h; exact hK e σ f vs _ us hf hr
  | none => rw [hf] at h; exact hL e σ f vs v us h hr
end Go.Proofs.Ytedfbamihjnhhaa.Own
