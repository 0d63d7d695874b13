/- A walk by reckoning: tables of contracts; a function's contract as a tree that the kernel checks. -/
/- A walk by reckoning: pieces of strings and of arrays. -/
import Derived.Test.YtedfbamihjnhhaaFvU
section
namespace Go.Proofs.Ytedfbamihjnhhaa.Own
open Go Go.RowKit
set_option linter.unusedVariables false
set_option linter.unusedSimpArgs false
inductive Sh where
 | one (k : Option IntKind)
 | agg (ks : Ks)
inductive Res where
 | one (s : Sh)
 | tup (ss : List Sh)
def cellsV : Ks → List Int → List Value
 | [], _ => []
 | k :: ks, xs => cellV k (xs.headD 0) :: cellsV ks xs.tail
def mkSh : List Sh → List Int → List Value
 | [], _ => []
 | .one k :: r, xs => cellV k (xs.headD 0) :: mkSh r xs.tail
 | .agg ks :: r, xs => .agg (List.toArray (cellsV ks xs)) :: mkSh r (xs.drop ks.length)
def flat : List Sh → Ks
 | [] => []
 | .one k :: r => k :: flat r
 | .agg ks :: r => ks ++ flat r
def flatR : Res → Ks
 | .one s => flat [s]
 | .tup ss => flat ss
def mkRes (r : Res) (xs : List Int) : Value := match r with
 | .one s => (mkSh [s] xs).headD undef
 | .tup ss => .tuple (List.toArray (mkSh ss xs))
theorem InC.split : ∀ {ks ks' : Ks} {xs : List Int}, InC (ks ++ ks') xs → InC ks (xs.take ks.length) ∧ InC ks' (xs.drop ks.length)
 | [], _, _, h => by simpa [InC] using h
 | k :: ks, ks', [], h => by cases h
 | k :: ks, ks', x :: xs, h => by
  obtain ⟨h1, h2⟩ := h
  have := InC.split h2
  exact ⟨⟨h1, this.1⟩, this.2⟩
theorem cellsV_take : ∀ (ks : Ks) (xs : List Int), cellsV ks (xs.take ks.length) = cellsV ks xs
 | [], _ => rfl
 | k :: ks, [] => by simp [cellsV]
 | k :: ks, x :: xs => by simp [cellsV, cellsV_take ks xs]
/-! ### arguments that are terms -/
def symC : Ks → Nat → List C
 | [], _ => []
 | some k :: ks, i => .opq (.ivar k i) :: symC ks (i + 1)
 | none :: ks, i => .opq (.bvar i) :: symC ks (i + 1)
def symA : List Sh → Nat → List V
 | [], _ => []
 | .one (some k) :: r, i => .one (.opq (.ivar k i)) :: symA r (i + 1)
 | .one none :: r, i => .one (.opq (.bvar i)) :: symA r (i + 1)
 | .agg ks :: r, i => .agg (symC ks i) :: symA r (i + ks.length)
def envOf (F : Nat → List Int → List Int) (xs : List Int) : Env := { iv := fun i => xs.getD i 0, bv := fun i => xs.getD i 0 != 0, F := fun f i ys => (F f ys).getD i 0, pv := fun _ => .bool false, pv1 := fun _ => rfl }
section
variable {F : Nat → List Int → List Int} {xs : List Int} {σ : List (Nat × Nat × Nat)}
theorem sym_one {k : Option IntKind} {i : Nat} {y : Int} (hy : xs.getD i 0 = y) (h : inK k y) : RelC (eV (envOf F xs)) σ (match k with | some k => C.opq (.ivar k i) | none => C.opq (.bvar i)) (cellV k y) := by
 subst hy
 cases k with
 | some k =>
  have e : eS (envOf F xs) (.ivar k i) = .int k (xs.getD i 0) := by
   have h : k.wrap (xs.getD i 0) = xs.getD i 0 := h
   show Value.int k (k.wrap (xs.getD i 0)) = _
   rw [h]
  have := rel_opq (σ := σ) (e := envOf F xs) (.ivar k i)
  rw [e] at this
  exact this
 | none =>
  have e : eS (envOf F xs) (.bvar i) = .bool (xs.getD i 0 != 0) := by
   show Value.bool (b2i (xs.getD i 0 != 0) != 0) = _
   rw [b2i_ne]
  have := rel_opq (σ := σ) (e := envOf F xs) (.bvar i)
  rw [e] at this
  exact this
theorem symC_rel : ∀ (ks : Ks) (i : Nat) (ys : List Int), (∀ j, j < ys.length → xs.getD (i + j) 0 = ys.getD j 0) → InC ks ys → RelCs (eV (envOf F xs)) σ (symC ks i) (cellsV ks ys)
 | [], i, ys, _, _ => .nil
 | k :: ks, i, [], _, h => by cases h
 | k :: ks, i, y :: ys, hx, h => by
  have h0 := hx 0 (by simp)
  simp only [Nat.add_zero, List.getD_cons_zero] at h0
  have h1 := sym_one (F := F) (σ := σ) h0 h.1
  have h2 := symC_rel ks (i + 1) ys (fun j hj => by have := hx (j + 1) (by simp; omega); rw [show i + 1 + j = i + (j + 1) from by omega]; simpa using this) h.2
  cases k with
  | some k => exact .cons h1 h2
  | none => exact .cons h1 h2
theorem symA_rel : ∀ (as : List Sh) (i : Nat) (ys : List Int), (∀ j, j < ys.length → xs.getD (i + j) 0 = ys.getD j 0) → InC (flat as) ys → RelVs (eV (envOf F xs)) σ (symA as i) (mkSh as ys)
 | [], i, ys, _, _ => .nil
 | .one k :: r, i, [], _, h => by cases h
 | .one k :: r, i, y :: ys, hx, h => by
  have h0 := hx 0 (by simp)
  simp only [Nat.add_zero, List.getD_cons_zero] at h0
  have h1 := sym_one (F := F) (σ := σ) h0 h.1
  have h2 := symA_rel r (i + 1) ys (fun j hj => by have := hx (j + 1) (by simp; omega); rw [show i + 1 + j = i + (j + 1) from by omega]; simpa using this) h.2
  cases k with
  | some k => exact .cons (.one h1) h2
  | none => exact .cons (.one h1) h2
 | .agg ks :: r, i, ys, hx, h => by
  obtain ⟨h1, h2⟩ := InC.split h
  have a1 := symC_rel (F := F) (σ := σ) (xs := xs) ks i (ys.take ks.length) (fun j hj => by
   rw [hx j (by simp at hj; omega)]
   simp only [List.length_take] at hj
   rw [List.getD_eq_getElem?_getD, List.getD_eq_getElem?_getD, List.getElem?_take, if_pos (by omega)]) h1
  rw [cellsV_take] at a1
  have a2 := symA_rel r (i + ks.length) (ys.drop ks.length) (fun j hj => by
   simp only [List.length_drop] at hj
   rw [show i + ks.length + j = i + (ks.length + j) from by omega, hx _ (by omega)]
   rw [List.getD_eq_getElem?_getD, List.getD_eq_getElem?_getD, List.getElem?_drop]) h2
  exact .cons (.agg a1) a2
end
/-! ### a contract by whole numbers -/
def CTE (P : Program) (g : List Int → List Int) (f : Nat) (as : List Sh) (r : Res) : Prop := ∀ xs, InC (flat as) xs → InC (flatR r) (g xs) ∧ Pure P f (List.toArray (mkSh as xs)) (mkRes r (g xs))
def matchA : List Sh → List V → Option (List SE)
 | [], [] => some []
 | .one k :: r, .one c :: vs => (match toK k c, matchA r vs with | some x, some l => some (x :: l) | _, _ => none)
 | .agg ks :: r, .agg cs :: vs => (match matchC ks cs, matchA r vs with | some x, some l => some (x ++ l) | _, _ => none)
 | _, _ => none
section
variable {E : Env} {σ : List (Nat × Nat × Nat)}
theorem matchC_rel : ∀ {ks : Ks} {cs : List C} {l : List SE} {vs : List Value}, matchC ks cs = some l → RelCs (eV E) σ cs vs → ∀ (t : List Int), vs = cellsV ks (l.map (SE.val E) ++ t) ∧ InC ks (l.map (SE.val E)) ∧ l.length = ks.length
 | [], [], l, vs, h, hr, t => by cases h; cases hr; exact ⟨rfl, trivial, rfl⟩
 | k :: ks, c :: cs, l, vs, h, hr, t => by
  simp only [matchC] at h
  split at h
  ·rename_i x l' hx hl
   cases h
   cases hr with | cons h1 h2 =>
   obtain ⟨e1, e2⟩ := toK_rel hx h1
   obtain ⟨e3, e4, e5⟩ := matchC_rel hl h2 t
   refine ⟨?_, ⟨e2, e4⟩, by simp [e5]⟩
   simp only [List.map_cons, List.cons_append, cellsV, List.headD_cons, List.tail_cons]
   rw [e1, e3]
  ·cases h
 | [], c :: cs, l, vs, h, hr, t => by cases h
 | k :: ks, [], l, vs, h, hr, t => by cases h
theorem InC.append : ∀ {ks ks' : Ks} {xs ys : List Int}, InC ks xs → InC ks' ys → InC (ks ++ ks') (xs ++ ys)
 | [], _, [], _, _, h => h
 | [], _, x :: xs, _, h, _ => by cases h
 | k :: ks, _, [], _, h, _ => by cases h
 | k :: ks, ks', x :: xs, ys, h, h' => ⟨h.1, InC.append h.2 h'⟩
theorem matchA_rel : ∀ {as : List Sh} {vs : List V} {l : List SE} {us : List Value}, matchA as vs = some l → RelVs (eV E) σ vs us → us = mkSh as (l.map (SE.val E)) ∧ InC (flat as) (l.map (SE.val E))
 | [], [], l, us, h, hr => by cases h; cases hr; exact ⟨rfl, trivial⟩
 | .one k :: r, .one c :: vs, l, us, h, hr => by
  simp only [matchA] at h
  split at h
  ·rename_i x l' hx hl
   cases h
   cases hr with | cons h1 h2 =>
   obtain ⟨e1, e2⟩ := toK_rel hx (iv_one h1)
   obtain ⟨e3, e4⟩ := matchA_rel hl h2
   refine ⟨?_, ⟨e2, e4⟩⟩
   simp only [List.map_cons, mkSh, List.headD_cons, List.tail_cons]
   rw [e1, e3]
  ·cases h
 | .agg ks :: r, .agg cs :: vs, l, us, h, hr => by
  simp only [matchA] at h
  split at h
  ·rename_i x l' hx hl
   cases h
   cases hr with | cons h1 h2 =>
   obtain ⟨ws, hw, e0⟩ := iv_agg h1
   obtain ⟨e1, e2, e5⟩ := matchC_rel hx hw (l'.map (SE.val E))
   obtain ⟨e3, e4⟩ := matchA_rel hl h2
   refine ⟨?_, by rw [List.map_append]; exact InC.append e2 e4⟩
   simp only [mkSh, List.map_append]
   rw [e0, e1, e3]
   rw [List.drop_append_of_le_length (by simp [e5]), List.drop_eq_nil_of_le (by simp [e5])]
   simp
  ·cases h
 | [], v :: vs, l, us, h, hr => by cases h
 | .one k :: r, [], l, us, h, hr => by cases h
 | .agg ks :: r, [], l, us, h, hr => by cases h
 | .one k :: r, .agg _ :: _, l, us, h, hr => by cases h
 | .one k :: r, .tup _ :: _, l, us, h, hr => by cases h
 | .agg k :: r, .one _ :: _, l, us, h, hr => by cases h
 | .agg k :: r, .tup _ :: _, l, us, h, hr => by cases h
/-! results as terms -/
def appC (f : Nat) (as : SE) : Ks → Nat → List C
 | [], _ => []
 | k :: ks, i => .opq (.app f i k as) :: appC f as ks (i + 1)
def appA (f : Nat) (as : SE) : List Sh → Nat → List V
 | [], _ => []
 | .one k :: r, i => .one (.opq (.app f i k as)) :: appA f as r (i + 1)
 | .agg ks :: r, i => .agg (appC f as ks i) :: appA f as r (i + ks.length)
def appR (f : Nat) (as : SE) : Res → V
 | .one s => (appA f as [s] 0).headD (.tup [])
 | .tup ss => .tup (appA f as ss 0)
theorem app_one {f i : Nat} {as : SE} {k : Option IntKind} {y : Int} (hy : E.F f i (as.vals E) = y) (h : inK k y) : RelC (eV E) σ (.opq (.app f i k as)) (cellV k y) := by
 have := rel_opq (σ := σ) (e := E) (.app f i k as)
 have e : eS E (.app f i k as) = cellV k y := by rw [eS_k (k := k) rfl]; simp only [SE.val]; rw [hy, wrK_in h]
 rw [e] at this; exact this
theorem appC_rel {f : Nat} {as : SE} {zs : List Int} (hz : ∀ i, E.F f i (as.vals E) = zs.getD i 0) : ∀ (ks : Ks) (i : Nat) (ys : List Int), (∀ j, j < ys.length → zs.getD (i + j) 0 = ys.getD j 0) → InC ks ys → RelCs (eV E) σ (appC f as ks i) (cellsV ks ys)
 | [], i, ys, _, _ => .nil
 | k :: ks, i, [], _, h => by cases h
 | k :: ks, i, y :: ys, hx, h => by
  have h0 := hx 0 (by simp)
  simp only [Nat.add_zero, List.getD_cons_zero] at h0
  have h1 := app_one (σ := σ) (k := k) ((hz i).trans h0) h.1
  have h2 := appC_rel hz ks (i + 1) ys (fun j hj => by have := hx (j + 1) (by simp; omega); rw [show i + 1 + j = i + (j + 1) from by omega]; simpa using this) h.2
  exact .cons h1 h2
theorem appA_rel {f : Nat} {as : SE} {zs : List Int} (hz : ∀ i, E.F f i (as.vals E) = zs.getD i 0) : ∀ (ss : List Sh) (i : Nat) (ys : List Int), (∀ j, j < ys.length → zs.getD (i + j) 0 = ys.getD j 0) → InC (flat ss) ys → RelVs (eV E) σ (appA f as ss i) (mkSh ss ys)
 | [], i, ys, _, _ => .nil
 | .one k :: r, i, [], _, h => by cases h
 | .one k :: r, i, y :: ys, hx, h => by
  have h0 := hx 0 (by simp)
  simp only [Nat.add_zero, List.getD_cons_zero] at h0
  have h1 := app_one (σ := σ) (k := k) ((hz i).trans h0) h.1
  have h2 := appA_rel hz r (i + 1) ys (fun j hj => by have := hx (j + 1) (by simp; omega); rw [show i + 1 + j = i + (j + 1) from by omega]; simpa using this) h.2
  exact .cons (.one h1) h2
 | .agg ks :: r, i, ys, hx, h => by
  obtain ⟨h1, h2⟩ := InC.split h
  have a1 := appC_rel (σ := σ) hz ks i (ys.take ks.length) (fun j hj => by
   rw [hx j (by simp at hj; omega)]
   simp only [List.length_take] at hj
   rw [List.getD_eq_getElem?_getD, List.getD_eq_getElem?_getD, List.getElem?_take, if_pos (by omega)]) h1
  rw [cellsV_take] at a1
  have a2 := appA_rel hz r (i + ks.length) (ys.drop ks.length) (fun j hj => by
   simp only [List.length_drop] at hj
   rw [show i + ks.length + j = i + (ks.length + j) from by omega, hx _ (by omega)]
   rw [List.getD_eq_getElem?_getD, List.getD_eq_getElem?_getD, List.getElem?_drop]) h2
  exact .cons (.agg a1) a2
theorem appR_rel {f : Nat} {as : SE} {zs : List Int} (hz : ∀ i, E.F f i (as.vals E) = zs.getD i 0) {r : Res} (h : InC (flatR r) zs) : RelV (eV E) σ (appR f as r) (mkRes r zs) := by
 cases r with
 | one s =>
  have := appA_rel (σ := σ) hz [s] 0 zs (fun j _ => by rw [Nat.zero_add]) h
  cases s with
  | one k => cases this with | cons h _ => exact h
  | agg ks => cases this with | cons h _ => exact h
 | tup ss => exact .tup (appA_rel (σ := σ) hz ss 0 zs (fun j _ => by rw [Nat.zero_add]) h)
end
end Go.Proofs.Ytedfbamihjnhhaa.Own
end
section
namespace Go.Proofs.Ytedfbamihjnhhaa.Own
open Go Go.RowKit
set_option linter.unusedVariables false
set_option linter.unusedSimpArgs false
set_option linter.unusedSectionVars false
theorem ext_low (s : ByteArray) (l : Nat) : s.extract l s.size = ⟨(s.data.toList.drop l).toArray⟩ := by
 apply ByteArray.ext
 rw [ByteArray.data_extract]
 apply Array.toList_inj.1
 rw [Array.toList_extract]
 show List.extract s.data.toList l s.data.size = _
 rw [List.extract_eq_take_drop, ← Array.length_toList, List.take_of_length_le (by rw [List.length_drop]; exact Nat.le_refl _)]
theorem ext_high (s : ByteArray) (h : Nat) : s.extract 0 h = ⟨(s.data.toList.take h).toArray⟩ := by
 apply ByteArray.ext
 rw [ByteArray.data_extract]
 apply Array.toList_inj.1
 rw [Array.toList_extract]
 show List.extract s.data.toList 0 h = _
 rw [List.extract_eq_take_drop]
 simp
theorem bytes_drop (l : List (List Int)) (n : Nat) : (⟨((bytesOf l).data.toList.drop n).toArray⟩ : ByteArray) = bytesOf (l.drop n) := by
 unfold bytesOf; simp [List.map_drop]
theorem bytes_take (l : List (List Int)) (n : Nat) : (⟨((bytesOf l).data.toList.take n).toArray⟩ : ByteArray) = bytesOf (l.take n) := by
 unfold bytesOf; simp [List.map_take]
section
variable {P : Program} {w0 : World} {o : Oper} {ρ : Operand → Value} {L : List Blk}
theorem q_slice_arr {t e len m : Nat} {b : Bool} {x : Operand} {g off : Nat} (ha : P.underlying t = some (.array len e)) (hi : tinfo P e = some (b, m)) (hl : 0 < len) (ho : o.op = .slice t x none none none) (hx : ρ x = .pointer (some ⟨g, off, none⟩)) :
  QV P w0 o ρ L (.slice (some ⟨g, off, none⟩) len len) :=
 q_of fun w _ => by
  simp only [execOp, ho, hx, Option.map_none]
  refine run_v ?_
  simp only [Instr.sliceAt, Sem.run_bind, run_underlying ha w, Result.andThen_ok, Instr.sliceBounds, Sem.run_pure, Instr.sureAddr, run_sizeOf' hi w]
  by_cases q : len = 0
  ·omega
  ·simp [q, add_cell]
theorem q_slice_str_low {t : Nat} {x lo : Operand} {s : ByteArray} {k : IntKind} {l : Nat} (hs : P.underlying t = some .string) (ho : o.op = .slice t x (some lo) none none) (hx : ρ x = .string s) (hl : ρ lo = .int k (.ofNat l)) (h : l ≤ s.size) :
  QV P w0 o ρ L (.string ⟨(s.data.toList.drop l).toArray⟩) :=
 q_of fun w _ => by
  have h1 : (0 : Int) ≤ Int.ofNat l ∧ Int.ofNat l ≤ (s.size : Int) := ⟨Int.natCast_nonneg l, by show (l : Int) ≤ s.size; omega⟩
  simp only [execOp, ho, hx, hl, Option.map_some, Option.map_none]
  refine run_v ?_
  simp only [Instr.sliceAt, Instr.slice, Sem.run_bind, run_underlying hs w, Result.andThen_ok, Option.isSome_none, Bool.false_eq_true, if_false, Instr.sliceBounds, Instr.sliceBound, asIntOf, Sem.run_pure, h1, and_self, if_true]
  rw [← ext_low]; rfl
theorem q_slice_str_high {t : Nat} {x hi : Operand} {s : ByteArray} {k : IntKind} {n : Nat} (hs : P.underlying t = some .string) (ho : o.op = .slice t x none (some hi) none) (hx : ρ x = .string s) (hl : ρ hi = .int k (.ofNat n)) (h : n ≤ s.size) :
  QV P w0 o ρ L (.string ⟨(s.data.toList.take n).toArray⟩) :=
 q_of fun w _ => by
  have h1 : (0 : Int) ≤ Int.ofNat n ∧ Int.ofNat n ≤ (s.size : Int) := ⟨Int.natCast_nonneg n, by show (n : Int) ≤ s.size; omega⟩
  simp only [execOp, ho, hx, hl, Option.map_some, Option.map_none]
  refine run_v ?_
  simp only [Instr.sliceAt, Instr.slice, Sem.run_bind, run_underlying hs w, Result.andThen_ok, Option.isSome_none, Bool.false_eq_true, if_false, Instr.sliceBounds, Instr.sliceBound, asIntOf, Sem.run_pure, h1, and_self, if_true]
  rw [← ext_high]; rfl
end
def gB (P : Program) (D : SE → Option Bool) (o : Oper) (vs : List V) : Option V :=
 match o.op, vs with
 | .slice t _ none none none, [.one (.ptr k off)] => (match P.underlying t with
  | some (.array len e) => (match tinfo P e with | some _ => bif Nat.blt 0 len then some (.one (.sl k off len len)) else none | none => none)
  | _ => none)
 | .slice t _ (some _) none none, [.one (.str s), .one (.int _ (.ofNat l))] => (match P.underlying t with
  | some .string => bif Nat.ble l s.size then some (.one (.str ⟨(s.data.toList.drop l).toArray⟩)) else none
  | _ => none)
 | .slice t _ none (some _) none, [.one (.str s), .one (.int _ (.ofNat l))] => (match P.underlying t with
  | some .string => bif Nat.ble l s.size then some (.one (.str ⟨(s.data.toList.take l).toArray⟩)) else none
  | _ => none)
 | .slice t _ (some _) none none, [.one (.sts z), .one (.int _ (.ofNat l))] => (match P.underlying t, D (.cmp .leq (.lit .i64 l) (lenT z)) with
  | some .string, some true => bif Nat.ble l 1000000 then some (.one (.sts (.ldr z (.lit .i64 l)))) else none
  | _, _ => none)
 | .slice t _ none (some _) none, [.one (.sts z), .one (.int _ (.ofNat l))] => (match P.underlying t, D (.cmp .leq (.lit .i64 l) (lenT z)) with
  | some .string, some true => bif Nat.ble l 1000000 then some (.one (.sts (.ltk z (.lit .i64 l)))) else none
  | _, _ => none)
 | _, _ => none
theorem le_of_D {e : Env} {D : SE → Option Bool} (hD : ∀ x b, D x = some b → eS e x = .bool b) {z : SE} {l : Nat} (h : D (.cmp .leq (.lit .i64 l) (lenT z)) = some true) (hl : l ≤ 1000000) : l ≤ (z.lst e).length := by
 have h1 := hD _ _ h
 rw [eS_cmp] at h1
 injection h1 with h1
 have h2 : decide (IntKind.i64.wrap l ≤ (lenT z).val e) = true := h1
 have h3 := of_decide_eq_true h2
 rw [(lenT_val z).1, i64_nat (by unfold maxLen; omega)] at h3
 exact Nat.le_trans (by omega) (sat_min _)
theorem gB_sound {P : Program} {E : Env} {σ : List (Nat × Nat × Nat)} {D : SE → Option Bool} (hD : ∀ x b, D x = some b → eS E x = .bool b) {o : Oper} {vs : List V} {v : V} {us : List Value} (h : gB P D o vs = some v) (hus : RelVs (eV E) σ vs us) :
  ∃ u, RelV (eV E) σ v u ∧ ∀ (ρ : Operand → Value), o.op.operands.toList.map ρ = us → ∀ (w0 : World) (L : List Blk), QV P w0 o ρ L u := by
 unfold gB at h
 split at h
 ·rename_i t x k off ho
  cases hus with | cons ha t1 => cases t1 with | nil =>
  obtain ⟨g, b, c, hg, rfl⟩ := iv_ptr ha
  split at h
  ·rename_i len e hu
   split at h
   ·rename_i y hy
    obtain ⟨yb, ym⟩ := y
    cases hl : Nat.blt 0 len with
    | false => rw [hl, cond_false] at h; cases h
    | true =>
     rw [hl, cond_true] at h; cases h
     refine ⟨_, .one (.sl hg), fun ρ hρ w0 L => ?_⟩
     rw [ho] at hρ
     simp [Op.operands] at hρ
     exact q_slice_arr hu hy (Nat.le_of_ble_eq_true hl) ho hρ
   ·cases h
  ·cases h
 ·rename_i t x lo s k l ho
  cases hus with | cons ha t1 => cases t1 with | cons hb t2 => cases t2 with | nil =>
  split at h
  ·rename_i hu
   cases hl : Nat.ble l s.size with
   | false => rw [hl, cond_false] at h; cases h
   | true =>
    rw [hl, cond_true] at h; cases h
    refine ⟨_, .one .str, fun ρ hρ w0 L => ?_⟩
    rw [ho] at hρ
    simp [Op.operands] at hρ
    exact q_slice_str_low hu ho (hρ.1.trans (iv_str ha)) (hρ.2.trans (iv_int hb)) (Nat.le_of_ble_eq_true hl)
  ·cases h
 ·rename_i t x lo s k l ho
  cases hus with | cons ha t1 => cases t1 with | cons hb t2 => cases t2 with | nil =>
  split at h
  ·rename_i hu
   cases hl : Nat.ble l s.size with
   | false => rw [hl, cond_false] at h; cases h
   | true =>
    rw [hl, cond_true] at h; cases h
    refine ⟨_, .one .str, fun ρ hρ w0 L => ?_⟩
    rw [ho] at hρ
    simp [Op.operands] at hρ
    exact q_slice_str_high hu ho (hρ.1.trans (iv_str ha)) (hρ.2.trans (iv_int hb)) (Nat.le_of_ble_eq_true hl)
  ·cases h
 ·rename_i t x lo z k l ho
  cases hus with | cons ha t1 => cases t1 with | cons hb t2 => cases t2 with | nil =>
  split at h
  ·rename_i hu hd
   cases hl : Nat.ble l 1000000 with
   | false => rw [hl, cond_false] at h; cases h
   | true =>
    rw [hl, cond_true] at h; cases h
    have hl' := Nat.le_of_ble_eq_true hl
    have hle := le_of_D (e := E) hD hd hl'
    refine ⟨_, .one .sts, fun ρ hρ w0 L => ?_⟩
    rw [ho] at hρ
    simp [Op.operands] at hρ
    have := q_slice_str_low (P := P) (w0 := w0) (L := L) hu ho (hρ.1.trans (iv_sts ha)) (hρ.2.trans (iv_int hb)) (by rw [bytes_size]; exact hle)
    rw [bytes_drop] at this
    have e : (SE.ldr z (.lit .i64 l)).lst (eV E) = (z.lst (eV E)).drop l := by
     simp only [SE.lst, SE.val, dec_enc]
     rw [show (IntKind.i64.wrap ((l : Nat) : Int)).toNat = l by rw [i64_nat (by unfold maxLen; omega)]; rfl]
    rw [e]; exact this
  ·cases h
 ·rename_i t x lo z k l ho
  cases hus with | cons ha t1 => cases t1 with | cons hb t2 => cases t2 with | nil =>
  split at h
  ·rename_i hu hd
   cases hl : Nat.ble l 1000000 with
   | false => rw [hl, cond_false] at h; cases h
   | true =>
    rw [hl, cond_true] at h; cases h
    have hl' := Nat.le_of_ble_eq_true hl
    have hle := le_of_D (e := E) hD hd hl'
    refine ⟨_, .one .sts, fun ρ hρ w0 L => ?_⟩
    rw [ho] at hρ
    simp [Op.operands] at hρ
    have := q_slice_str_high (P := P) (w0 := w0) (L := L) hu ho (hρ.1.trans (iv_sts ha)) (hρ.2.trans (iv_int hb)) (by rw [bytes_size]; exact hle)
    rw [bytes_take] at this
    have e : (SE.ltk z (.lit .i64 l)).lst (eV E) = (z.lst (eV E)).take l := by
     simp only [SE.lst, SE.val, dec_enc]
     rw [show (IntKind.i64.wrap ((l : Nat) : Int)).toNat = l by rw [i64_nat (by unfold maxLen; omega)]; rfl]
    rw [e]; exact this
  ·cases h
 ·cases h
end Go.Proofs.Ytedfbamihjnhhaa.Own
end
