/- A walk by reckoning: operations that only compute. -/
import Derived.Test.YtedfbamihjnhhaaFv2
namespace Go.Proofs.Ytedfbamihjnhhaa.Own
open Go Go.RowKit
set_option linter.unusedVariables false
set_option linter.unusedSimpArgs false
section
variable {e : Vl} {σ : List (Nat × Nat × Nat)} {P : Program} {w0 : World} {u : Value}
theorem iv_int {k : IntKind} {n : Int} (h : RelV e σ (.one (.int k n)) u) : u = .int k n := by cases h with | one h => cases h; rfl
theorem iv_bool {b : Bool} (h : RelV e σ (.one (.bool b)) u) : u = .bool b := by cases h with | one h => cases h; rfl
theorem iv_ptr {k off : Nat} (h : RelV e σ (.one (.ptr k off)) u) : ∃ g b c, σ[k]? = some (g, b, c) ∧ u = .pointer (some ⟨g, b + off, none⟩) := by cases h with | one h => cases h with | ptr h => exact ⟨_, _, _, h, rfl⟩
theorem iv_sl {k off n m : Nat} (h : RelV e σ (.one (.sl k off n m)) u) : ∃ g b c, σ[k]? = some (g, b, c) ∧ u = .slice (some ⟨g, b + off, none⟩) n m := by cases h with | one h => cases h with | sl h => exact ⟨_, _, _, h, rfl⟩
theorem iv_slo {k n : Nat} (h : RelV e σ (.one (.slo k n)) u) : ∃ g b c, σ[k]? = some (g, b, c) ∧ u = .slice (some ⟨g, b, none⟩) n c := by cases h with | one h => cases h with | slo h => exact ⟨_, _, _, h, rfl⟩
theorem iv_slt {k l sz n : Nat} (h : RelV e σ (.one (.slt k l sz n)) u) : ∃ g b c, σ[k]? = some (g, b, c) ∧ u = .slice (some ⟨g, if c = l then b else b + l * sz, none⟩) n (c - l) := by cases h with | one h => cases h with | slt h => exact ⟨_, _, _, h, rfl⟩
theorem iv_nils (h : RelV e σ (.one .nils) u) : u = .slice none 0 0 := by cases h with | one h => cases h; rfl
theorem iv_str {s : ByteArray} (h : RelV e σ (.one (.str s)) u) : u = .string s := by cases h with | one h => cases h; rfl
theorem iv_fn {f : Nat} {cs : List C} (h : RelV e σ (.one (.fn f cs)) u) : ∃ vs, RelCs e σ cs vs ∧ u = .func (.func f) #[] (List.toArray vs) := by cases h with | one h => cases h with | fn h => exact ⟨_, h, rfl⟩
theorem iv_agg {cs : List C} (h : RelV e σ (.agg cs) u) : ∃ vs, RelCs e σ cs vs ∧ u = .agg (List.toArray vs) := by cases h with | agg h => exact ⟨_, h, rfl⟩
theorem iv_tup {xs : List V} (h : RelV e σ (.tup xs) u) : ∃ vs, RelVs e σ xs vs ∧ u = .tuple (List.toArray vs) := by cases h with | tup h => exact ⟨_, h, rfl⟩
theorem iv_one {c : C} (h : RelV e σ (.one c) u) : RelC e σ c u := by cases h with | one h => exact h
theorem RelCs.get : ∀ {cs : List C} {vs : List Value}, RelCs e σ cs vs → ∀ {i : Nat} {c : C}, cs[i]? = some c → ∃ v, vs[i]? = some v ∧ RelC e σ c v
 | _, _, .nil, i, c, h => by simp at h
 | _, _, .cons h t, 0, c, hc => by simp at hc; subst hc; exact ⟨_, rfl, h⟩
 | _, _, .cons h t, i + 1, c, hc => by simp at hc; obtain ⟨v, h1, h2⟩ := RelCs.get t hc; exact ⟨v, by simpa using h1, h2⟩
theorem RelCs.drop : ∀ {cs : List C} {vs : List Value}, RelCs e σ cs vs → ∀ (n : Nat), RelCs e σ (cs.drop n) (vs.drop n)
 | _, _, .nil, n => by simpa using .nil
 | _, _, .cons h t, 0 => .cons h t
 | _, _, .cons h t, n + 1 => by simpa using RelCs.drop t n
theorem RelCs.take : ∀ {cs : List C} {vs : List Value}, RelCs e σ cs vs → ∀ (n : Nat), RelCs e σ (cs.take n) (vs.take n)
 | _, _, .nil, n => by simpa using .nil
 | _, _, .cons h t, 0 => .nil
 | _, _, .cons h t, n + 1 => by simpa using .cons h (RelCs.take t n)
theorem RelCs.app : ∀ {cs : List C} {vs : List Value}, RelCs e σ cs vs → ∀ {cs' : List C} {vs' : List Value}, RelCs e σ cs' vs' → RelCs e σ (cs ++ cs') (vs ++ vs')
 | _, _, .nil, _, _, h => h
 | _, _, .cons h t, _, _, h' => .cons h (RelCs.app t h')
theorem RelVs.get : ∀ {cs : List V} {vs : List Value}, RelVs e σ cs vs → ∀ {i : Nat} {c : V}, cs[i]? = some c → ∃ v, vs[i]? = some v ∧ RelV e σ c v
 | _, _, .nil, i, c, h => by simp at h
 | _, _, .cons h t, 0, c, hc => by simp at hc; subst hc; exact ⟨_, rfl, h⟩
 | _, _, .cons h t, i + 1, c, hc => by simp at hc; obtain ⟨v, h1, h2⟩ := RelVs.get t hc; exact ⟨v, by simpa using h1, h2⟩
theorem RelVs.app : ∀ {cs : List V} {vs : List Value}, RelVs e σ cs vs → ∀ {cs' : List V} {vs' : List Value}, RelVs e σ cs' vs' → RelVs e σ (cs ++ cs') (vs ++ vs')
 | _, _, .nil, _, _, h => h
 | _, _, .cons h t, _, _, h' => .cons h (RelVs.app t h')
theorem RelVs.len : ∀ {cs : List V} {vs : List Value}, RelVs e σ cs vs → vs.length = cs.length
 | _, _, .nil => rfl
 | _, _, .cons h t => by simp [RelVs.len t]
theorem RelCs.ofOnes : ∀ {cs : List C} {vs : List Value}, RelCs e σ cs vs → RelVs e σ (cs.map .one) vs
 | _, _, .nil => .nil
 | _, _, .cons h t => .cons (.one h) (RelCs.ofOnes t)
theorem spliceC_rel {cs us : List C} {vs xs : List Value} (h : RelCs e σ cs vs) (h' : RelCs e σ us xs) (off : Nat) : RelCs e σ (spliceC cs off us) (splice vs off xs) := by
 unfold spliceC splice
 rw [h'.len]
 exact (h.take off).app (h'.app (h.drop _))
theorem partC_rel {t : TypeId} {cs : List C} {vs : List Value} {off : Nat} {x : V} (h : partC P t cs off = some x) (hc : RelCs e σ cs vs) :
  (∃ n us, tinfo P t = some (true, n) ∧ (vs.drop off).take n = us ∧ us.length = n ∧ RelV e σ x (.agg (List.toArray us)) ∧ x ≠ .tup []) ∨ (∃ n v, tinfo P t = some (false, n) ∧ vs[off]? = some v ∧ RelV e σ x v ∧ oneC v = true) := by
 unfold partC at h
 split at h
 ·rename_i n hi
  simp only at h
  cases hb : Nat.beq ((cs.drop off).take n).length n with
  | true =>
   simp only [hb, cond_true, Option.some.injEq] at h
   subst h
   have hr := (hc.drop off).take n
   exact .inl ⟨n, _, hi, rfl, by rw [hr.len]; exact Nat.eq_of_beq_eq_true hb, .agg hr, by simp⟩
  | false => rw [hb, cond_false] at h; cases h
 ·rename_i n hi
  split at h
  ·rename_i c hcc
   cases h
   obtain ⟨v, h1, h2⟩ := hc.get hcc
   exact .inr ⟨n, v, hi, h1, .one h2, h2.one⟩
  ·cases h
 ·cases h
theorem cells_rel {v : V} {u : Value} {cs : List C} (h : v.cs = some cs) (hv : RelV e σ v u) : RelCs e σ cs u.cells.toList := by
 cases v with
 | one c =>
  cases h
  have hc := iv_one hv
  have : u.cells.toList = [u] := by have := hc.one; cases u <;> simp [oneC] at this <;> rfl
  rw [this]; exact .cons hc .nil
 | agg l => cases h; obtain ⟨vs, h1, rfl⟩ := iv_agg hv; exact h1
 | tup l => cases h
 | any i => cases h
inductive PRel (e : Vl) (σ : List (Nat × Nat × Nat)) : List (Nat × V) → List (Nat × Value) → Prop where
 | nil : PRel e σ [] []
 | cons {i v u l l'} (h : RelV e σ v u) (t : PRel e σ l l') : PRel e σ ((i, v) :: l) ((i, u) :: l')
variable {ρ' : Operand → Option V} {ρ : Operand → Value}
theorem opsL_rel (hρ : ∀ x v, ρ' x = some v → RelV e σ v (ρ x)) : ∀ {ps : List (Nat × Operand)} {l : List (Nat × V)}, opsL ρ' ps = some l → PRel e σ l (ps.map fun x => (x.1, ρ x.2))
 | [], _, h => by cases h; exact .nil
 | (i, x) :: r, l, h => by
  simp only [opsL] at h
  split at h
  ·rename_i v l' hv hl; cases h; exact .cons (hρ _ _ hv) (opsL_rel hρ hl)
  ·cases h
theorem argsL_rel (hρ : ∀ x v, ρ' x = some v → RelV e σ v (ρ x)) : ∀ {ps : List Operand} {l : List V}, argsL ρ' ps = some l → RelVs e σ l (ps.map ρ)
 | [], _, h => by cases h; exact .nil
 | x :: r, l, h => by
  simp only [argsL] at h
  split at h
  ·rename_i v l' hv hl; cases h; exact .cons (hρ _ _ hv) (argsL_rel hρ hl)
  ·cases h
theorem fillC_rel {pl : List (Nat × Nat)} : ∀ {l : List (Nat × V)} {l' : List (Nat × Value)}, PRel e σ l l' → ∀ {z cs : List C} {z' : List Value}, fillC pl z l = some cs → RelCs e σ z z' → ∃ vs, RelCs e σ cs vs ∧ fillL pl z' l' = some vs
 | _, _, .nil, z, cs, z', h, hz => by cases h; exact ⟨z', hz, rfl⟩
 | _, _, .cons (i := i) (v := v) (u := u) hv t, z, cs, z', h, hz => by
  simp only [fillC] at h
  split at h
  ·rename_i off n us hp hu
   have hc := cells_rel hu hv
   cases hb : (Nat.beq us.length n && Nat.ble (off + us.length) z.length) with
   | true =>
    simp only [hb, cond_true] at h
    obtain ⟨vs, h1, h2⟩ := fillC_rel t h (spliceC_rel hz hc off)
    refine ⟨vs, h1, ?_⟩
    have hsz : u.cells.size = us.length := by rw [← hc.len]; simp
    simp only [fillL, hp, hsz, hz.len, hb, cond_true]
    exact h2
   | false => simp [hb] at h
  ·cases h
/-! equality -/
theorem eqC_sound : ∀ (d : Nat) {t : TypeId} {x y : V} {b : Bool} {u v : Value}, eqC P d t x y = some b → RelV e σ x u → RelV e σ y v → EqR P d t u v b
 | 0, _, _, _, _, _, _, h, _, _ => by cases h
 | d + 1, t, x, y, b, u, v, h, hx, hy => by
  simp only [eqC] at h
  split at h
  ·rename_i k k1 a k2 b' hu
   cases hk : decide (k1 = k2) with
   | false => simp [hk] at h
   | true =>
    have hk := of_decide_eq_true hk
    subst hk
    simp only [decide_true, cond_true, Option.some.injEq] at h
    subst h
    rw [iv_int hx, iv_int hy]
    intro w
    simp [Op.equalIn, Sem.run_bind, run_underlying hu w]
  ·rename_i a b' hu
   cases h
   rw [iv_bool hx, iv_bool hy]
   exact eq_bool (hi := hu)
  ·rename_i fs xs ys hu
   cases hs : P.stoodInHeld t with
   | true => simp [hs] at h
   | false =>
    simp only [hs, cond_false] at h
    obtain ⟨us, hus, rfl⟩ := iv_agg hx
    obtain ⟨vs, hvs, rfl⟩ := iv_agg hy
    have key : ∀ (fl : List Field) (b : Bool), fl.foldr (fun f r => bif decide (f.name = "_") then none else
      match partC P f.type xs f.offset, partC P f.type ys f.offset with
      | some u, some v => (match eqC P d f.type u v, r with | some b, some b' => some (b && b') | _, _ => none)
      | _, _ => none) (some true) = some b → FEq P d us vs fl b := by
     intro fl
     induction fl with
     | nil => intro b hb; cases hb; exact .nil
     | cons f fl ih =>
      intro b hb
      simp only [List.foldr_cons] at hb
      cases hn : decide (f.name = "_") with
      | true => simp [hn] at hb
      | false =>
       simp only [hn, cond_false] at hb
       split at hb
       ·rename_i p q hp hq
        split at hb
        ·rename_i b1 b2 h1 h2
         cases hb
         have hne : f.name ≠ "_" := of_decide_eq_false hn
         rcases partC_rel hp hus with ⟨n, ps, i1, i2, i3, i4, _⟩ | ⟨n, pv, i1, i2, i3, i4⟩
         ·rcases partC_rel hq hvs with ⟨n', qs, j1, j2, j3, j4, _⟩ | ⟨n', qv, j1, j2, j3, j4⟩
          ·rw [i1] at j1; cases j1
           exact .agg hne i1 i2 j2 (eqC_sound d h1 i4 j4) (ih _ h2)
          ·rw [i1] at j1; cases j1
         ·rcases partC_rel hq hvs with ⟨n', qs, j1, j2, j3, j4, _⟩ | ⟨n', qv, j1, j2, j3, j4⟩
          ·rw [i1] at j1; cases j1
          ·rw [i1] at j1; cases j1
           exact .one hne i1 i2 j2 (eqC_sound d h1 i3 j3) (ih _ h2)
        ·cases hb
       ·cases hb
    have hf := key fs.toList b h
    exact eq_struct (fs := fs.toList) (by simpa using hu) hs hf
  ·cases h
/-! building -/
theorem plOf_run : ∀ {fs : List Field} {pl : List (Nat × Nat)}, plOf P fs = some pl → ∀ w, (fs.mapM fun f => do pure (f.offset, ← sizeOf f.type) : Sem (List (Nat × Nat))).run P w = .ok pl w
 | [], _, h, w => by cases h; simp
 | f :: r, pl, h, w => by
  simp only [plOf] at h
  split at h
  ·rename_i b n l hi hl
   cases h
   simp only [List.mapM_cons, Sem.run_bind, run_sizeOf' hi w, Result.andThen_ok, Sem.run_pure, plOf_run hl w]
  ·cases h
theorem bi_of {t : TypeId} {fs : Array Field} {z : List Value} {pl : List (Nat × Nat)} (hu : P.underlying t = some (.struct fs)) (hz : zinfo P t = some (.agg (List.toArray z))) (hp : plOf P fs.toList = some pl) : BI P t z pl := by
 refine ⟨hz, fun w => ?_⟩
 simp only [Sem.run_bind, run_underlying hu w, Result.andThen_ok]
 rw [Array.mapM_eq_mapM_toList]
 simp only [Sem.run_map, plOf_run hp w]
 rfl
theorem fill_congr {p p' : Nat → Option (Nat × Nat)} (h : ∀ i x, p i = some x → p' i = some x) : ∀ (l : List (Nat × Value)) (cs r : Array Value), Instr.fill p cs l = some r → Instr.fill p' cs l = some r
 | [], _, _, h' => h'
 | (i, v) :: l, cs, r, h' => by
  simp only [Instr.fill] at h' ⊢
  cases hp : p i with
  | none => simp [hp] at h'
  | some x =>
   simp only [hp] at h'
   simp only [h i x hp]
   split at h'
   ·cases h'
   ·rename_i hc; rw [if_neg hc]; exact fill_congr h l _ _ h'
variable {o : Oper} {L : List Blk}
theorem q_buildArr {t el : TypeId} {len m : Nat} {b : Bool} {z : List Value} (hu : P.underlying t = some (.array len el)) (hi : tinfo P el = some (b, m)) (hz : zinfo P t = some (.agg (List.toArray z))) {parts : Array (Nat × Operand)} {pv : List (Nat × Value)} {cs : List Value} (ho : o.op = .build t parts)
  (hp : parts.toList.map (fun x => (x.1, ρ x.2)) = pv) (hf : fillL ((List.range len).map fun i => (i * m, m)) z pv = some cs) : QV P w0 o ρ L (.agg (List.toArray cs)) :=
 q_of fun w _ => by
  simp only [execOp, ho]
  refine run_v ?_
  have hzr : (zeroValue t).run P w = .ok (.agg (List.toArray z)) w := by
   unfold zinfo at hz
   simp only [Option.bind_eq_some_iff] at hz
   obtain ⟨i, h1, h2⟩ := hz
   simp [zeroValue, typeInfo, h1, h2, go_sem]
  have hpv : (parts.map fun (x : Nat × Operand) => (x.1, ρ x.2)).toList = pv := by rw [← hp]; simp
  have hfe := fill_eq _ _ _ _ hf
  have hfe2 := fill_congr (p' := fun i => some (i * m, m)) (fun i x hx => by
   simp only [List.getElem?_toArray, List.getElem?_map, Option.map_eq_some_iff] at hx
   obtain ⟨j, hj, rfl⟩ := hx
   have : j = i := by
    rw [List.getElem?_range] at hj
    ·cases hj; rfl
    ·by_cases q : i < len
     ·exact q
     ·rw [List.getElem?_eq_none (by simpa using q)] at hj; cases hj
   subst this; rfl) _ _ _ hfe
  rw [← hpv] at hfe2
  unfold Instr.build
  simp only [Sem.run_bind, hzr, Result.andThen_ok, run_underlying hu w, run_sizeOf' hi w]
  show Sem.run P (match Instr.fill (fun i => some (i * m, m)) (Value.agg (List.toArray z)).cells (parts.map fun (x : Nat × Operand) => (x.1, ρ x.2)).toList with | some cells => pure (Value.agg cells) | _ => stuck "build: a part of the wrong size") w = _
  rw [show Instr.fill (fun i => some (i * m, m)) (Value.agg (List.toArray z)).cells (parts.map fun (x : Nat × Operand) => (x.1, ρ x.2)).toList = some (List.toArray cs) from hfe2]
  rfl
/-! single operations that the engine lacks -/
theorem q_load_agg_h {t : TypeId} {n : Nat} (hi : tinfo P t = some (true, n)) {x : Operand} {g off : Nat} {vs : List Value} (ho : o.op = .load t x) (hx : ρ x = .pointer (some ⟨g, off, none⟩)) (hl : vs.length = n)
  (hc : ∀ w, Own w0 L w → ∀ j v, vs[j]? = some v → w.cell? ⟨g, off + j, none⟩ = some v) : QV P w0 o ρ L (.agg (List.toArray vs)) :=
 q_of fun w hw => by
  simp only [execOp, ho, hx, Instr.loadAt, Instr.sureAddr]
  exact run_v (run_loadVar_agg hi hl (hc w hw))
theorem q_load_one_h {t : TypeId} {n : Nat} (hi : tinfo P t = some (false, n)) {x : Operand} {g off : Nat} {v : Value} (ho : o.op = .load t x) (hx : ρ x = .pointer (some ⟨g, off, none⟩))
  (hc : ∀ w, Own w0 L w → w.cell? ⟨g, off, none⟩ = some v) : QV P w0 o ρ L v :=
 q_of fun w hw => by
  simp only [execOp, ho, hx, Instr.loadAt, Instr.sureAddr]
  exact run_v (run_loadVar_one hi (hc w hw))
theorem q_indexAddrA {t el len n : Nat} {b : Bool} (ha : P.underlying t = some (.array len el)) (hi : tinfo P el = some (b, n)) {x y : Operand} {g off : Nat} {k : IntKind} {i : Int} (ho : o.op = .indexAddr t x y) (hx : ρ x = .pointer (some ⟨g, off, none⟩)) (hy : ρ y = .int k i)
  (hb : 0 ≤ i ∧ i < (len : Int)) : QV P w0 o ρ L (.pointer (some ⟨g, off + i.toNat * n, none⟩)) :=
 q_of fun w _ => by
  simp only [execOp, ho, hx, hy]
  refine run_v ?_
  simp only [Instr.indexAt, asIntOf, Sem.run_bind, Sem.run_pure, Result.andThen_ok, run_underlying ha w, Instr.sureAddr, hb, and_self, if_true, run_sizeOf' hi w, add_cell]
theorem q_index_str {t : TypeId} (hs : P.underlying t = some .string) {x y : Operand} {s : ByteArray} {k : IntKind} {i : Int} {b : UInt8} (ho : o.op = .index t x y) (hx : ρ x = .string s) (hy : ρ y = .int k i) (h0 : 0 ≤ i) (hb : s[i.toNat]? = some b) : QV P w0 o ρ L (.int .u8 b.toNat) :=
 q_of fun w _ => by
  simp only [execOp, ho, hx, hy]
  refine run_v ?_
  simp only [Instr.index, asIntOf, Sem.run_bind, Sem.run_pure, Result.andThen_ok, run_underlying hs w, h0, if_true, hb]
theorem q_slice_low {t el sz : Nat} {bb : Bool} (hs : P.underlying t = some (.slice el)) (hi : tinfo P el = some (bb, sz)) {x lo : Operand} {g b n c l : Nat} {k : IntKind} (ho : o.op = .slice t x (some lo) none none) (hx : ρ x = .slice (some ⟨g, b, none⟩) n c) (hl : ρ lo = .int k (Int.ofNat l)) (hle : l ≤ n) :
  QV P w0 o ρ L (.slice (some ⟨g, if c = l then b else b + l * sz, none⟩) (n - l) (c - l)) :=
 q_of fun w _ => by
  have h1 : (0 : Int) ≤ Int.ofNat l ∧ Int.ofNat l ≤ (n : Int) := ⟨Int.natCast_nonneg l, by show (l : Int) ≤ n; omega⟩
  simp only [execOp, ho, hx, hl, Option.map_some, Option.map_none]
  refine run_v ?_
  simp only [Instr.sliceAt, Instr.slice, Sem.run_bind, run_underlying hs w, Result.andThen_ok, Instr.sliceBounds, Instr.sliceBound, asIntOf, Sem.run_pure, h1, and_self, if_true, run_sizeOf' hi w, Option.isSome_none]
  by_cases q : c = l
  ·simp [q]
  ·simp [q, add_cell]
theorem q_max {c : Call} {x y : Operand} {k k' : IntKind} {a b : Int} (ho : o.op = .call c) (hc : c.callee = .builtin .max) (ha : c.args = #[x, y]) (hx : ρ x = .int k a) (hy : ρ y = .int k' b) : QV P w0 o ρ L (.int k (bif decide (b > a) then b else a)) :=
 q_of fun w _ => by
  have : (if b > a then b else a) = (bif decide (b > a) then b else a) := by by_cases q : b > a <;> simp [q]
  rw [← this]
  simp [execOp, ho, resolve, hc, ha, hx, hy, Sem.run_bind, invoke, builtin, Builtin.max_, Builtin.max2]
theorem q_min {c : Call} {x y : Operand} {k k' : IntKind} {a b : Int} (ho : o.op = .call c) (hc : c.callee = .builtin .min) (ha : c.args = #[x, y]) (hx : ρ x = .int k a) (hy : ρ y = .int k' b) : QV P w0 o ρ L (.int k (bif decide (b < a) then b else a)) :=
 q_of fun w _ => by
  have : (if b < a then b else a) = (bif decide (b < a) then b else a) := by by_cases q : b < a <;> simp [q]
  rw [← this]
  simp [execOp, ho, resolve, hc, ha, hx, hy, Sem.run_bind, invoke, builtin, Builtin.min_, Builtin.min2]
theorem evBin_sound {op : BinOp} {t ty : TypeId} {x y : Operand} {k k' : IntKind} {a b : Int} {z : C} (h : evBin op k a k' b = some z) (ho : o.op = .binOp op t x y ty) (hx : ρ x = .int k a) (hy : ρ y = .int k' b) : ∃ u, RelC e σ z u ∧ QV P w0 o ρ L u := by
 unfold evBin at h
 split at h
 ·cases hb : decide (b < 0) with
  | true => simp [hb] at h
  | false => simp only [hb, cond_false, Option.some.injEq] at h; subst h; exact ⟨_, .int, q_shl ho hx hy hb⟩
 ·cases hb : decide (b < 0) with
  | true => simp [hb] at h
  | false => simp only [hb, cond_false, Option.some.injEq] at h; subst h; exact ⟨_, .int, q_shr ho hx hy hb⟩
 ·cases hk : decide (k = k') with
  | false => simp [hk] at h
  | true =>
   have hk := of_decide_eq_true hk
   subst hk
   simp only [decide_true, cond_true] at h
   split at h
   case h_13 =>
    cases hb : (b == 0) with
    | true => simp [hb] at h
    | false => simp only [hb, cond_false, Option.some.injEq] at h; subst h; exact ⟨_, .int, q_quo ho hx hy hb⟩
   case h_14 =>
    cases hb : (b == 0) with
    | true => simp [hb] at h
    | false => simp only [hb, cond_false, Option.some.injEq] at h; subst h; exact ⟨_, .int, q_rem ho hx hy hb⟩
   case h_15 => cases h
   all_goals (cases h; first | exact ⟨_, .int, q_bin ho hx hy rfl⟩ | exact ⟨_, .bool, q_bin ho hx hy rfl⟩)
/-! ### terms and lists -/
theorem iv_sli {k : Nat} {x : SE} (h : RelV e σ (.one (.sli k x)) u) : ∃ g b c, σ[k]? = some (g, b, c) ∧ u = slV (sat (x.lst e).length) g b c := by cases h with | one h => cases h with | sli h => exact ⟨_, _, _, h, rfl⟩
theorem iv_pel {k sz off : Nat} {i : SE} (h : RelV e σ (.one (.pel k i sz off)) u) : ∃ g b c, σ[k]? = some (g, b, c) ∧ u = .pointer (some ⟨g, b + ((i.val e).toNat * sz + off), none⟩) := by cases h with | one h => cases h with | pel h => exact ⟨_, _, _, h, rfl⟩
theorem iv_sts {x : SE} (h : RelV e σ (.one (.sts x)) u) : u = .string (bytesOf (x.lst e)) := by cases h with | one h => cases h; rfl
theorem rel_opq (x : SE) : RelC e σ (.opq x) (eS e x) := .opq (eS_one e x)
theorem toI_rel {c : C} {k : IntKind} {x : SE} {u : Value} (h : toI c = some (k, x)) (hr : RelC e σ c u) : u = .int k (x.val e) ∧ x.ty = some (some k) := by
 unfold toI at h
 split at h
 ·rename_i k' n
  cases hb : decide (k'.wrap n = n) with
  | false => rw [hb, cond_false] at h; cases h
  | true =>
   rw [hb, cond_true] at h; cases h
   cases hr
   simp only [SE.val, SE.ty, of_decide_eq_true hb, and_self]
 ·rename_i y
  split at h
  ·rename_i k' hk; cases h; cases hr; exact ⟨by simp only [eS, hk], hk⟩
  ·cases h
 ·cases h
theorem toB_rel {c : C} {x : SE} {u : Value} (h : toB c = some x) (hr : RelC e σ c u) : u = .bool (x.val e != 0) ∧ x.ty = some none := by
 unfold toB at h
 split at h
 ·rename_i b; cases h; cases hr
  exact ⟨by cases b <;> simp [SE.val, valCmp, b2i, IntKind.wrap_i64], rfl⟩
 ·rename_i y
  split at h
  ·rename_i hk; cases h; cases hr; exact ⟨by simp only [eS, hk], hk⟩
  ·cases h
 ·cases h
theorem b2i_or (b : Bool) : b2i b = 0 ∨ b2i b = 1 := by cases b <;> simp [b2i]
theorem toK_rel {k : Option IntKind} {c : C} {x : SE} {u : Value} (h : toK k c = some x) (hr : RelC e σ c u) : u = cellV k (x.val e) ∧ inK k (x.val e) := by
 unfold toK at h
 split at h
 ·rename_i k
  split at h
  ·rename_i k' y hy
   cases hk : decide (k = k') with
   | false => rw [hk, cond_false] at h; cases h
   | true =>
    rw [hk, cond_true] at h; cases h
    have hk := of_decide_eq_true hk
    subst hk
    obtain ⟨e1, e2⟩ := toI_rel hy hr
    exact ⟨e1, val_wrap e e2⟩
  ·cases h
 ·obtain ⟨e1, e2⟩ := toB_rel h hr
  refine ⟨e1, ?_⟩
  show x.val e = 0 ∨ x.val e = 1
  rw [val_bool e2]
  exact b2i_or _
theorem seL_vals : ∀ (l : List SE), (seL l).vals e = l.map (SE.val e)
 | [] => by simp [seL, SE.vals]
 | x :: l => by simp [seL, SE.vals, seL_vals l]
theorem matchC_row : ∀ {ks : Ks} {cs : List C} {l : List SE} {vs : List Value} {j : Nat} {el : List Int}, matchC ks cs = some l → RelCs e σ cs vs → (∀ i, i < l.length → el.getD (j + i) 0 = (l.map (SE.val e)).getD i 0) → vs = rowV ks j el ∧ l.length = ks.length
 | [], [], l, vs, j, el, h, hr, _ => by cases h; cases hr; exact ⟨rfl, rfl⟩
 | k :: ks, c :: cs, l, vs, j, el, h, hr, hel => by
  simp only [matchC] at h
  split at h
  ·rename_i x l' hx hl
   cases h
   cases hr with | cons h1 h2 =>
   obtain ⟨e1, e2⟩ := toK_rel hx h1
   obtain ⟨e3, e4⟩ := matchC_row (j := j + 1) (el := el) hl h2 fun i hi => by
    have := hel (i + 1) (by simp; omega)
    rw [show j + 1 + i = j + (i + 1) by omega]; simpa using this
   have e0 := hel 0 (by simp)
   simp only [Nat.add_zero, List.map_cons, List.getD_cons_zero] at e0
   exact ⟨by rw [rowV, e0, wrK_in e2, e1, e3], by simp [e4]⟩
  ·cases h
 | [], c :: cs, l, vs, _, _, h, hr, _ => by cases h
 | k :: ks, [], l, vs, _, _, h, hr, _ => by cases h
theorem lst_lone (as : SE) : (SE.lone as).lst e = [as.vals e] := by simp only [SE.lst, SE.val, dec_enc]
theorem lst_lcat (x y : SE) : (SE.lcat x y).lst e = x.lst e ++ y.lst e := by simp only [SE.lst, SE.val, dec_enc]
theorem lst_lnil : (SE.lnil).lst e = [] := by simp only [SE.lst, SE.val, dec_enc]
theorem lst_lset (x i : SE) (off : Nat) (as : SE) : (SE.lset x i off as).lst e = setL (x.lst e) (i.val e).toNat off (as.vals e) := by simp only [SE.lst, SE.val, dec_enc]
theorem lst_lbs (l : List Nat) : (SE.lbs l).lst e = l.map fun b => [Int.ofNat b] := by simp only [SE.lst, SE.val, dec_enc]
theorem setL_len (l : List (List Int)) (i off : Nat) (as : List Int) : (setL l i off as).length = l.length := by unfold setL; rw [List.length_set]
theorem lenT_val : ∀ (x : SE), (lenT x).val e = ((sat (x.lst e).length : Nat) : Int) ∧ (lenT x).ty = some (some .i64)
 | .lset x i off as => by
  obtain ⟨h1, h2⟩ := lenT_val x
  simp only [lenT]
  rw [lst_lset, setL_len]; exact ⟨h1, h2⟩
 | .ivar _ _ | .bvar _ | .lit _ _ | .bin _ _ _ _ | .cmp _ _ _ | .and _ _ | .mx _ _ _ | .mn _ _ _ | .conv _ _ | .not _ | .app _ _ _ _ | .nil | .cons _ _ | .len _ | .el _ _ _ _ | .seq _ _ | .lvar _ | .lap _ _ _ | .lnil | .lcat _ _ | .lone _ | .lrep _ _ | .ltk _ _ | .ldr _ _ | .lbs _ => by
  simp only [lenT]
  exact ⟨val_len _ _, rfl⟩
theorem lenT_eS (x : SE) : eS e (lenT x) = .int .i64 ((sat (x.lst e).length : Nat) : Int) := by
 obtain ⟨h1, h2⟩ := lenT_val (e := e) x
 rw [eS_k h2, h1]; rfl
def DOK (c : Cfg) (e : Vl) : Prop := ∀ x b, c.D x = some b → e.s x = .bool b
theorem dok_cmp {c : Cfg} (hd : DOK c e) {op : BinOp} {x y : SE} (h : (match c.D (.cmp op x y) with | some b => b | none => false) = true) : valCmp op (x.val e) (y.val e) = true := by
 split at h
 ·rename_i b hb
  have := hd _ _ hb
  rw [h] at this
  have h2 : eS e (.cmp op x y) = .bool true := this
  rw [eS_cmp] at h2
  simpa using h2
 ·cases h
theorem geB_sound {c : Cfg} (hd : DOK c e) {i : SE} (h : geB c i = true) : 0 ≤ i.val e := by
 unfold geB at h
 split at h
 ·simp only [SE.val]; exact of_decide_eq_true h
 ·have := dok_cmp hd h
  have h0 : (SE.lit .i64 0).val e = 0 := by simp only [SE.val]; rfl
  rw [h0] at this
  exact of_decide_eq_true this
theorem inB_sound {c : Cfg} (hd : DOK c e) {i x : SE} (h : inB c i x = true) : 0 ≤ i.val e ∧ (i.val e).toNat < sat (x.lst e).length := by
 simp only [inB, Bool.and_eq_true] at h
 have h1 := geB_sound hd h.1
 have h2 := dok_cmp hd h.2
 rw [(lenT_val x).1] at h2
 have h2 : i.val e < ((sat (x.lst e).length : Nat) : Int) := of_decide_eq_true h2
 omega
theorem len_le {D : SE → Option Bool} (hd : ∀ x b, D x = some b → e.s x = .bool b) {x : SE} {m : Nat} (h : D (.cmp .leq (lenT x) (.lit .i64 m)) = some true) (hm : m ≤ 1000000) : (x.lst e).length ≤ m := by
 have := dok_cmp (c := { P := default, X := fun _ _ => none, H := fun _ _ => none, G := fun _ _ => none, D := D, E := fun _ _ => [], S := fun _ _ => [], L := fun _ _ _ _ _ _ _ => none }) hd (x := lenT x) (y := .lit .i64 m) (op := .leq) (by simp only [h])
 rw [(lenT_val x).1] at this
 have h0 : (SE.lit .i64 m).val e = m := by simp only [SE.val]; exact i64_nat (by unfold maxLen; omega)
 rw [h0] at this
 have h2 : ((sat (x.lst e).length : Nat) : Int) ≤ m := of_decide_eq_true this
 exact sat_small (by omega) (by unfold maxLen; omega)
theorem sm6_sound {D : SE → Option Bool} (hd : ∀ x b, D x = some b → e.s x = .bool b) {x : SE} (h : sm6 D x = true) : (x.lst e).length ≤ 1000000 := by
 unfold sm6 at h
 split at h
 ·rename_i b hb; subst h; exact len_le hd hb (Nat.le_refl _)
 ·cases h
theorem bndL_sound {D : SE → Option Bool} (hd : ∀ x b, D x = some b → e.s x = .bool b) : ∀ {x : SE} {n : Nat}, bndL D x = some n → (x.lst e).length ≤ n := by
 intro x
 induction x with
 | lcat a b iha ihb =>
  intro n h
  simp only [bndL] at h
  split at h
  ·rename_i nb hb
   split at h
   ·rename_i na ha
    cases h
    rw [lst_lcat, List.length_append]
    exact Nat.add_le_add (iha ha) (ihb hb)
   ·cases h
  ·cases h
 | lnil => intro n h; rw [lst_lnil]; exact Nat.zero_le _
 | lone a => intro n h; cases h; rw [lst_lone]; simp
 | lbs l => intro n h; cases h; rw [lst_lbs, List.length_map]; exact Nat.le_refl _
 | _ =>
  intro n h
  unfold bndL at h
  split at h
  ·rename_i hb; cases h; exact len_le hd hb (by decide)
  ·cases h
theorem smX_sound {D : SE → Option Bool} (hd : ∀ x b, D x = some b → e.s x = .bool b) {x : SE} (h : smX D x = true) : (x.lst e).length ≤ 1000000 := by
 unfold smX at h
 split at h
 ·rw [lst_lnil]; exact Nat.zero_le _
 ·rw [lst_lone]; simp
 ·rw [lst_lbs, List.length_map]; exact Nat.le_of_ble_eq_true h
 ·split at h
  ·rename_i n hn; exact Nat.le_trans (bndL_sound hd hn) (Nat.le_of_ble_eq_true h)
  ·exact sm6_sound hd h
 ·exact sm6_sound hd h
theorem smB_sound {c : Cfg} (hd : DOK c e) {x : SE} (h : smB c x = true) : (x.lst e).length ≤ 1000000 := smX_sound hd h
theorem toIx_rel {v : V} {i : SE} {u : Value} (h : toIx v = some i) (hr : RelV e σ v u) : ∃ k, u = .int k (i.val e) := by
 unfold toIx at h
 split at h
 ·split at h
  ·rename_i k x hx; cases h
   obtain ⟨e1, _⟩ := toI_rel hx (iv_one hr)
   exact ⟨_, e1⟩
  ·cases h
 ·cases h
theorem el_rel (k : Option IntKind) (x i : SE) (j : Nat) : RelC e σ (.opq (.el k x i j)) (cellV k (wrK k (((x.lst e).getD (i.val e).toNat []).getD j 0))) := by
 have := rel_opq (e := e) (σ := σ) (.el k x i j)
 have h2 : eS e (.el k x i j) = cellV k (wrK k (((x.lst e).getD (i.val e).toNat []).getD j 0)) := by
  rw [eS_k (k := k) rfl]; simp only [SE.val, SE.lst]
 rw [h2] at this; exact this
theorem elC_rel (x i : SE) : ∀ (ks : Ks) (j : Nat), RelCs e σ (elC x i ks j) (rowV ks j ((x.lst e).getD (i.val e).toNat []))
 | [], _ => .nil
 | k :: ks, j => .cons (el_rel k x i j) (elC_rel x i ks (j + 1))
theorem partL_rel {t : TypeId} {x i : SE} {ks : Ks} {off : Nat} {y : V} (h : partL P t x i ks off = some y) :
  (∃ n us, tinfo P t = some (true, n) ∧ ((rowV ks 0 ((x.lst e).getD (i.val e).toNat [])).drop off).take n = us ∧ us.length = n ∧ RelV e σ y (.agg (List.toArray us))) ∨ (∃ n v, tinfo P t = some (false, n) ∧ (rowV ks 0 ((x.lst e).getD (i.val e).toNat []))[off]? = some v ∧ RelV e σ y v) := by
 unfold partL at h
 split at h
 ·rename_i n hi
  simp only at h
  cases hb : Nat.beq ((ks.drop off).take n).length n with
  | true =>
   rw [hb, cond_true] at h; cases h
   have e1 : ((rowV ks 0 ((x.lst e).getD (i.val e).toNat [])).drop off).take n = rowV ((ks.drop off).take n) off ((x.lst e).getD (i.val e).toNat []) := by
    rw [rowV_drop, rowV_take, Nat.zero_add]
   refine .inl ⟨n, _, hi, e1, by rw [rowV_len]; exact Nat.eq_of_beq_eq_true hb, .agg (elC_rel x i _ off)⟩
  | false => rw [hb, cond_false] at h; cases h
 ·rename_i n hi
  split at h
  ·rename_i k hk
   cases h
   refine .inr ⟨n, _, hi, ?_, .one (el_rel k x i off)⟩
   rw [rowV_get, hk, Nat.zero_add]; rfl
  ·cases h
 ·cases h
theorem slV_some {n g b c : Nat} (h : 0 < n) : slV n g b c = .slice (some ⟨g, b, none⟩) n (c / 2) := by
 unfold slV; rw [if_neg (by omega)]
theorem bytes_lbs (s : ByteArray) : bytesOf ((s.data.toList.map UInt8.toNat).map fun b => [Int.ofNat b]) = s := by
 unfold bytesOf
 rw [List.map_map, List.map_map]
 have : ∀ (l : List UInt8), l.map ((fun el => UInt8.ofNat (IntKind.u8.wrap (List.getD el 0 0)).toNat) ∘ (fun b => [Int.ofNat b]) ∘ UInt8.toNat) = l := by
  intro l
  induction l with
  | nil => rfl
  | cons b l ih =>
   rw [List.map_cons, ih]
   congr 1
   have hb : b.toNat < 256 := b.toNat_lt
   show UInt8.ofNat (IntKind.u8.wrap ((b.toNat : Nat) : Int)).toNat = b
   rw [IntKind.wrap_u8']
   have : (((b.toNat : Nat) : Int) % 256).toNat = b.toNat := by omega
   rw [this]
   exact UInt8.ofNat_toNat
 refine (congrArg (fun l : List UInt8 => ByteArray.mk l.toArray) (this s.data.toList)).trans ?_
 cases s; simp
theorem bytes_app (l m : List (List Int)) : bytesOf (l ++ m) = bytesOf l ++ bytesOf m := by
 unfold bytesOf
 apply ByteArray.ext
 simp [ByteArray.data_append]
theorem bytes_size (l : List (List Int)) : (bytesOf l).size = l.length := by
 unfold bytesOf; simp [ByteArray.size]
theorem strT_rel {c : C} {x : SE} {u : Value} (h : strT c = some x) (hr : RelC e σ c u) : u = .string (bytesOf (x.lst e)) := by
 unfold strT at h
 split at h
 ·rename_i s; cases h; cases hr; rw [lst_lbs, bytes_lbs]
 ·cases h; cases hr; rfl
 ·cases h
end
end Go.Proofs.Ytedfbamihjnhhaa.Own
