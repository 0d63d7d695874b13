/- A walk by reckoning: tables of contracts; a function's contract as a tree that the kernel checks. -/
import Derived.Test.YtedfbamihjnhhaaFvU
namespace Go.Proofs.Ytedfbamihjnhhaa.Own
open Go Go.RowKit
set_option linter.unusedVariables false
set_option linter.unusedSimpArgs false

inductive Sh where
  | one (k : Option IntKind)
  | agg (ks : Ks)
inductive Res where
  | one (s : Sh)
  | tup (ss : List Sh)
def cellsV : Ks → List Int → List Value
  | [], _ => []
  | k :: ks, xs => cellV k (xs.headD 0) :: cellsV ks xs.tail
def mkSh : List Sh → List Int → List Value
  | [], _ => []
  | .one k :: r, xs => cellV k (xs.headD 0) :: mkSh r xs.tail
  | .agg ks :: r, xs => .agg (List.toArray (cellsV ks xs)) :: mkSh r (xs.drop ks.length)
def flat : List Sh → Ks
  | [] => []
  | .one k :: r => k :: flat r
  | .agg ks :: r => ks ++ flat r
def flatR : Res → Ks
  | .one s => flat [s]
  | .tup ss => flat ss
def mkRes (r : Res) (xs : List Int) : Value := match r with
  | .one s => (mkSh [s] xs).headD undef
  | .tup ss => .tuple (List.toArray (mkSh ss xs))
theorem InC.split : ∀ {ks ks' : Ks} {xs : List Int}, InC (ks ++ ks') xs → InC ks (xs.take ks.length) ∧ InC ks' (xs.drop ks.length)
  | [], _, _, h => by simpa [InC] using h
  | k :: ks, ks', [], h => by cases h
  | k :: ks, ks', x :: xs, h => by
    obtain ⟨h1, h2⟩ := h
    have := InC.split h2
    exact ⟨⟨h1, this.1⟩, this.2⟩
theorem cellsV_take : ∀ (ks : Ks) (xs : List Int), cellsV ks (xs.take ks.length) = cellsV ks xs
  | [], _ => rfl
  | k :: ks, [] => by simp [cellsV]
  | k :: ks, x :: xs => by simp [cellsV, cellsV_take ks xs]

/-! ### arguments that are terms -/
def symC : Ks → Nat → List C
  | [], _ => []
  | some k :: ks, i => .opq (.ivar k i) :: symC ks (i + 1)
  | none :: ks, i => .opq (.bvar i) :: symC ks (i + 1)
def symA : List Sh → Nat → List V
  | [], _ => []
  | .one (some k) :: r, i => .one (.opq (.ivar k i)) :: symA r (i + 1)
  | .one none :: r, i => .one (.opq (.bvar i)) :: symA r (i + 1)
  | .agg ks :: r, i => .agg (symC ks i) :: symA r (i + ks.length)
def envOf (F : Nat → List Int → List Int) (xs : List Int) : Env := { iv := fun i => xs.getD i 0, bv := fun i => xs.getD i 0 != 0, F := fun f i ys => (F f ys).getD i 0, pv := fun _ => .bool false, pv1 := fun _ => rfl }
section
variable {F : Nat → List Int → List Int} {xs : List Int} {σ : List (Nat × Nat × Nat)}
theorem sym_one {k : Option IntKind} {i : Nat} {y : Int} (hy : xs.getD i 0 = y) (h : inK k y) : RelC (eV (envOf F xs)) σ (match k with | some k => C.opq (.ivar k i) | none => C.opq (.bvar i)) (cellV k y) := by
  subst hy
  cases k with
  | some k =>
    have e : eS (envOf F xs) (.ivar k i) = .int k (xs.getD i 0) := by
      have h : k.wrap (xs.getD i 0) = xs.getD i 0 := h
      show Value.int k (k.wrap (xs.getD i 0)) = _
      rw [h]
    have := rel_opq (σ := σ) (e := envOf F xs) (.ivar k i)
    rw [e] at this
    exact this
  | none =>
    have e : eS (envOf F xs) (.bvar i) = .bool (xs.getD i 0 != 0) := by
      show Value.bool (b2i (xs.getD i 0 != 0) != 0) = _
      rw [b2i_ne]
    have := rel_opq (σ := σ) (e := envOf F xs) (.bvar i)
    rw [e] at this
    exact this
theorem symC_rel : ∀ (ks : Ks) (i : Nat) (ys : List Int), (∀ j, j < ys.length → xs.getD (i + j) 0 = ys.getD j 0) → InC ks ys → RelCs (eV (envOf F xs)) σ (symC ks i) (cellsV ks ys)
  | [], i, ys, _, _ => .nil
  | k :: ks, i, [], _, h => by cases h
  | k :: ks, i, y :: ys, hx, h => by
    have h0 := hx 0 (by simp)
    simp only [Nat.add_zero, List.getD_cons_zero] at h0
    have h1 := sym_one (F := F) (σ := σ) h0 h.1
    have h2 := symC_rel ks (i + 1) ys (fun j hj => by have := hx (j + 1) (by simp; omega); rw [show i + 1 + j = i + (j + 1) from by omega]; simpa using this) h.2
    cases k with
    | some k => exact .cons h1 h2
    | none => exact .cons h1 h2
theorem symA_rel : ∀ (as : List Sh) (i : Nat) (ys : List Int), (∀ j, j < ys.length → xs.getD (i + j) 0 = ys.getD j 0) → InC (flat as) ys → RelVs (eV (envOf F xs)) σ (symA as i) (mkSh as ys)
  | [], i, ys, _, _ => .nil
  | .one k :: r, i, [], _, h => by cases h
  | .one k :: r, i, y :: ys, hx, h => by
    have h0 := hx 0 (by simp)
    simp only [Nat.add_zero, List.getD_cons_zero] at h0
    have h1 := sym_one (F := F) (σ := σ) h0 h.1
    have h2 := symA_rel r (i + 1) ys (fun j hj => by have := hx (j + 1) (by simp; omega); rw [show i + 1 + j = i + (j + 1) from by omega]; simpa using this) h.2
    cases k with
    | some k => exact .cons (.one h1) h2
    | none => exact .cons (.one h1) h2
  | .agg ks :: r, i, ys, hx, h => by
    obtain ⟨h1, h2⟩ := InC.split h
    have a1 := symC_rel (F := F) (σ := σ) (xs := xs) ks i (ys.take ks.length) (fun j hj => by
      rw [hx j (by simp at hj; omega)]
      simp only [List.length_take] at hj
      rw [List.getD_eq_getElem?_getD, List.getD_eq_getElem?_getD, List.getElem?_take, if_pos (by omega)]) h1
    rw [cellsV_take] at a1
    have a2 := symA_rel r (i + ks.length) (ys.drop ks.length) (fun j hj => by
      simp only [List.length_drop] at hj
      rw [show i + ks.length + j = i + (ks.length + j) from by omega, hx _ (by omega)]
      rw [List.getD_eq_getElem?_getD, List.getD_eq_getElem?_getD, List.getElem?_drop]) h2
    exact .cons (.agg a1) a2
end

/-! ### a contract by whole numbers -/
def CTE (P : Program) (g : List Int → List Int) (f : Nat) (as : List Sh) (r : Res) : Prop := ∀ xs, InC (flat as) xs → InC (flatR r) (g xs) ∧ Pure P f (List.toArray (mkSh as xs)) (mkRes r (g xs))
/-- arguments as terms -/
def matchA : List Sh → List V → Option (List SE)
  | [], [] => some []
  | .one k :: r, .one c :: vs => (match toK k c, matchA r vs with | some x, some l => some (x :: l) | _, _ => none)
  | .agg ks :: r, .agg cs :: vs => (match matchC ks cs, matchA r vs with | some x, some l => some (x ++ l) | _, _ => none)
  | _, _ => none
section
variable {E : Env} {σ : List (Nat × Nat × Nat)}
theorem matchC_rel : ∀ {ks : Ks} {cs : List C} {l : List SE} {vs : List Value}, matchC ks cs = some l → RelCs (eV E) σ cs vs → ∀ (t : List Int), vs = cellsV ks (l.map (SE.val E) ++ t) ∧ InC ks (l.map (SE.val E)) ∧ l.length = ks.length
  | [], [], l, vs, h, hr, t => by cases h; cases hr; exact ⟨rfl, trivial, rfl⟩
  | k :: ks, c :: cs, l, vs, h, hr, t => by
    simp only [matchC] at h
    split at h
    · rename_i x l' hx hl
      cases h
      cases hr with | cons h1 h2 =>
      obtain ⟨e1, e2⟩ := toK_rel hx h1
      obtain ⟨e3, e4, e5⟩ := matchC_rel hl h2 t
      refine ⟨?_, ⟨e2, e4⟩, by simp [e5]⟩
      simp only [List.map_cons, List.cons_append, cellsV, List.headD_cons, List.tail_cons]
      rw [e1, e3]
    · cases h
  | [], c :: cs, l, vs, h, hr, t => by cases h
  | k :: ks, [], l, vs, h, hr, t => by cases h
theorem InC.append : ∀ {ks ks' : Ks} {xs ys : List Int}, InC ks xs → InC ks' ys → InC (ks ++ ks') (xs ++ ys)
  | [], _, [], _, _, h => h
  | [], _, x :: xs, _, h, _ => by cases h
  | k :: ks, _, [], _, h, _ => by cases h
  | k :: ks, ks', x :: xs, ys, h, h' => ⟨h.1, InC.append h.2 h'⟩
theorem matchA_rel : ∀ {as : List Sh} {vs : List V} {l : List SE} {us : List Value}, matchA as vs = some l → RelVs (eV E) σ vs us → us = mkSh as (l.map (SE.val E)) ∧ InC (flat as) (l.map (SE.val E))
  | [], [], l, us, h, hr => by cases h; cases hr; exact ⟨rfl, trivial⟩
  | .one k :: r, .one c :: vs, l, us, h, hr => by
    simp only [matchA] at h
    split at h
    · rename_i x l' hx hl
      cases h
      cases hr with | cons h1 h2 =>
      obtain ⟨e1, e2⟩ := toK_rel hx (iv_one h1)
      obtain ⟨e3, e4⟩ := matchA_rel hl h2
      refine ⟨?_, ⟨e2, e4⟩⟩
      simp only [List.map_cons, mkSh, List.headD_cons, List.tail_cons]
      rw [e1, e3]
    · cases h
  | .agg ks :: r, .agg cs :: vs, l, us, h, hr => by
    simp only [matchA] at h
    split at h
    · rename_i x l' hx hl
      cases h
      cases hr with | cons h1 h2 =>
      obtain ⟨ws, hw, e0⟩ := iv_agg h1
      obtain ⟨e1, e2, e5⟩ := matchC_rel hx hw (l'.map (SE.val E))
      obtain ⟨e3, e4⟩ := matchA_rel hl h2
      refine ⟨?_, by rw [List.map_append]; exact InC.append e2 e4⟩
      simp only [mkSh, List.map_append]
      rw [e0, e1, e3]
      rw [List.drop_append_of_le_length (by simp [e5]), List.drop_eq_nil_of_le (by simp [e5])]
      simp
    · cases h
  | [], v :: vs, l, us, h, hr => by cases h
  | .one k :: r, [], l, us, h, hr => by cases h
  | .agg ks :: r, [], l, us, h, hr => by cases h
  | .one k :: r, .agg _ :: _, l, us, h, hr => by cases h
  | .one k :: r, .tup _ :: _, l, us, h, hr => by cases h
  | .agg k :: r, .one _ :: _, l, us, h, hr => by cases h
  | .agg k :: r, .tup _ :: _, l, us, h, hr => by cases h
/-! results as terms -/
def appC (f : Nat) (as : SE) : Ks → Nat → List C
  | [], _ => []
  | k :: ks, i => .opq (.app f i k as) :: appC f as ks (i + 1)
def appA (f : Nat) (as : SE) : List Sh → Nat → List V
  | [], _ => []
  | .one k :: r, i => .one (.opq (.app f i k as)) :: appA f as r (i + 1)
  | .agg ks :: r, i => .agg (appC f as ks i) :: appA f as r (i + ks.length)
def appR (f : Nat) (as : SE) : Res → V
  | .one s => (appA f as [s] 0).headD (.tup [])
  | .tup ss => .tup (appA f as ss 0)
theorem app_one {f i : Nat} {as : SE} {k : Option IntKind} {y : Int} (hy : E.F f i (as.vals E) = y) (h : inK k y) : RelC (eV E) σ (.opq (.app f i k as)) (cellV k y) := by
  have := rel_opq (σ := σ) (e := E) (.app f i k as)
  have e : eS E (.app f i k as) = cellV k y := by rw [eS_k (k := k) rfl]; simp only [SE.val]; rw [hy, wrK_in h]
  rw [e] at this; exact this
theorem appC_rel {f : Nat} {as : SE} {zs : List Int} (hz : ∀ i, E.F f i (as.vals E) = zs.getD i 0) : ∀ (ks : Ks) (i : Nat) (ys : List Int), (∀ j, j < ys.length → zs.getD (i + j) 0 = ys.getD j 0) → InC ks ys → RelCs (eV E) σ (appC f as ks i) (cellsV ks ys)
  | [], i, ys, _, _ => .nil
  | k :: ks, i, [], _, h => by cases h
  | k :: ks, i, y :: ys, hx, h => by
    have h0 := hx 0 (by simp)
    simp only [Nat.add_zero, List.getD_cons_zero] at h0
    have h1 := app_one (σ := σ) (k := k) ((hz i).trans h0) h.1
    have h2 := appC_rel hz ks (i + 1) ys (fun j hj => by have := hx (j + 1) (by simp; omega); rw [show i + 1 + j = i + (j + 1) from by omega]; simpa using this) h.2
    exact .cons h1 h2
theorem appA_rel {f : Nat} {as : SE} {zs : List Int} (hz : ∀ i, E.F f i (as.vals E) = zs.getD i 0) : ∀ (ss : List Sh) (i : Nat) (ys : List Int), (∀ j, j < ys.length → zs.getD (i + j) 0 = ys.getD j 0) → InC (flat ss) ys → RelVs (eV E) σ (appA f as ss i) (mkSh ss ys)
  | [], i, ys, _, _ => .nil
  | .one k :: r, i, [], _, h => by cases h
  | .one k :: r, i, y :: ys, hx, h => by
    have h0 := hx 0 (by simp)
    simp only [Nat.add_zero, List.getD_cons_zero] at h0
    have h1 := app_one (σ := σ) (k := k) ((hz i).trans h0) h.1
    have h2 := appA_rel hz r (i + 1) ys (fun j hj => by have := hx (j + 1) (by simp; omega); rw [show i + 1 + j = i + (j + 1) from by omega]; simpa using this) h.2
    exact .cons (.one h1) h2
  | .agg ks :: r, i, ys, hx, h => by
    obtain ⟨h1, h2⟩ := InC.split h
    have a1 := appC_rel (σ := σ) hz ks i (ys.take ks.length) (fun j hj => by
      rw [hx j (by simp at hj; omega)]
      simp only [List.length_take] at hj
      rw [List.getD_eq_getElem?_getD, List.getD_eq_getElem?_getD, List.getElem?_take, if_pos (by omega)]) h1
    rw [cellsV_take] at a1
    have a2 := appA_rel hz r (i + ks.length) (ys.drop ks.length) (fun j hj => by
      simp only [List.length_drop] at hj
      rw [show i + ks.length + j = i + (ks.length + j) from by omega, hx _ (by omega)]
      rw [List.getD_eq_getElem?_getD, List.getD_eq_getElem?_getD, List.getElem?_drop]) h2
    exact .cons (.agg a1) a2
theorem appR_rel {f : Nat} {as : SE} {zs : List Int} (hz : ∀ i, E.F f i (as.vals E) = zs.getD i 0) {r : Res} (h : InC (flatR r) zs) : RelV (eV E) σ (appR f as r) (mkRes r zs) := by
  cases r with
  | one s =>
    have := appA_rel (σ := σ) hz [s] 0 zs (fun j _ => by rw [Nat.zero_add]) h
    cases s with
    | one k => cases this with | cons h _ => exact h
    | agg ks => cases this with | cons h _ => exact h
  | tup ss => exact .tup (appA_rel (σ := σ) hz ss 0 zs (fun j _ => by rw [Nat.zero_add]) h)
end
end Go.Proofs.Ytedfbamihjnhhaa.Own
