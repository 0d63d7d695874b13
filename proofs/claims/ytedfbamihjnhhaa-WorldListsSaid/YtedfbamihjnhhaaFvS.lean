/- A walk by reckoning: values that are not reckoned but written as terms. -/
import Derived.Test.YtedfbamihjnhhaaFv6
import Derived.Laws.Bits64
import Derived.Laws.BitsAllLaws
namespace Go.Proofs.Ytedfbamihjnhhaa.Own
open Go Go.RowKit
set_option linter.unusedVariables false
set_option linter.unusedSimpArgs false

/-! ### what operations make of them -/
def eqS (P : Program) : Nat → TypeId → V → V → Option SE
  | 0, _, _, _ => none
  | d + 1, t, x, y =>
    match P.underlying t, x, y with
    | some (.int _), .one a, .one b => (match toI a, toI b with | some (k, u), some (k', v) => bif decide (k = k') then some (.cmp .eql u v) else none | _, _ => none)
    | some (.struct fs), .agg xs, .agg ys =>
      bif P.stoodInHeld t then none else
      fs.toList.foldr (fun f r => bif decide (f.name = "_") then none else
        match partC P f.type xs f.offset, partC P f.type ys f.offset with
        | some u, some v => (match eqS P d f.type u v, r with | some b, some b' => some (.and b b') | _, _ => none)
        | _, _ => none) (some (.cmp .eql (.lit .i64 1) (.lit .i64 1)))
    | _, _, _ => none
def isCmp : BinOp → Bool
  | .eql | .neq | .lss | .leq | .gtr | .geq => true
  | _ => false
def gSb (P : Program) (op : BinOp) (t : TypeId) (a b : C) : Option V :=
  match toI a, toI b with
  | some (k, x), some (k', y) =>
    (match op with
    | .shl => (match b with | .int _ n => bif decide (n < 0) then none else some (.one (.opq (.bin .shl k x y))) | _ => none)
    | .shr => (match b with | .int _ n => bif decide (n < 0) then none else (match k with | .u64 | .i64 | .u8 => some (.one (.opq (.bin .shr k x y))) | _ => none) | _ => none)
    | op => bif decide (k = k') then
      (match op with
      | .add | .sub | .mul | .and | .or | .xor => some (.one (.opq (.bin op k x y)))
      | .quo => (match b with | .int _ n => bif (n == 0) then none else some (.one (.opq (.bin .quo k x y))) | _ => none)
      | .rem => (match b with | .int _ n => bif decide (0 < n) then (match k with | .u64 | .i64 | .u8 => some (.one (.opq (.bin .rem k x y))) | _ => none) else none | _ => none)
      | .eql | .neq | .lss | .leq | .gtr | .geq => some (.one (.opq (.cmp op x y)))
      | _ => none) else none)
  | _, _ => match toB a, toB b, P.underlying t, op with
    | some x, some y, some .bool, .eql => some (.one (.opq (.cmp .eql x y)))
    | some x, some y, some .bool, .neq => some (.one (.opq (.cmp .neq x y)))
    | _, _, _, _ => none
def gS (P : Program) (o : Oper) (vs : List V) : Option V :=
  match o.op, vs with
  | .binOp op t _ _ _, [.one a, .one b] => gSb P op t a b
  | .binOp op t _ _ _, [.agg xs, .agg ys] => (match op with
    | .eql => bif P.eqGuardType P.depth t then none else (match eqS P 10000 t (.agg xs) (.agg ys) with | some b => some (.one (.opq b)) | none => none)
    | .neq => bif P.eqGuardType P.depth t then none else (match eqS P 10000 t (.agg xs) (.agg ys) with | some b => some (.one (.opq (.not b))) | none => none)
    | _ => none)
  | .unOp .not _ _, [.one (.opq x)] => (match x.ty with | some none => some (.one (.opq (.not x))) | _ => none)
  | .unOp .neg _ _, [.one (.opq x)] => (match x.ty with | some (some k) => some (.one (.opq (.bin .sub k (.lit k 0) x))) | _ => none)
  | .convert s d _, [.one (.opq x)] => (match x.ty, P.underlying s, P.underlying d with | some (some _), some (.int _), some (.int k) => some (.one (.opq (.conv k x))) | _, _, _ => none)
  | .call { callee := .builtin .max, args := ⟨[_, _]⟩, .. }, [.one a, .one b] => (match toI a, toI b with | some (k, x), some (k', y) => bif decide (k = k') then some (.one (.opq (.mx k x y))) else none | _, _ => none)
  | .call { callee := .builtin .min, args := ⟨[_, _]⟩, .. }, [.one a, .one b] => (match toI a, toI b with | some (k, x), some (k', y) => bif decide (k = k') then some (.one (.opq (.mn k x y))) else none | _, _ => none)
  | _, _ => none
section
variable {E : Env} {σ : List (Nat × Nat × Nat)} {P : Program} {w0 : World} {L : List Blk} {o : Oper} {ρ : Operand → Value}
theorem eqS_sound : ∀ (d : Nat) {t : TypeId} {x y : V} {b : SE} {u v : Value}, eqS P d t x y = some b → RelV (eV E) σ x u → RelV (eV E) σ y v → b.ty = some none ∧ EqR P d t u v (b.val E != 0)
  | 0, _, _, _, _, _, _, h, _, _ => by cases h
  | d + 1, t, x, y, b, u, v, h, hx, hy => by
    simp only [eqS] at h
    split at h
    · rename_i k a a' hu
      split at h
      · rename_i k1 p k2 q hp hq
        cases hk : decide (k1 = k2) with
        | false => rw [hk, cond_false] at h; cases h
        | true =>
          rw [hk, cond_true] at h; cases h
          have hk := of_decide_eq_true hk
          subst hk
          obtain ⟨e1, _⟩ := toI_rel hp (iv_one hx)
          obtain ⟨e2, _⟩ := toI_rel hq (iv_one hy)
          rw [e1, e2]
          refine ⟨rfl, fun w => ?_⟩
          simp only [SE.val, b2i_ne, valCmp]
          simp [Op.equalIn, Sem.run_bind, run_underlying hu w]
      · cases h
    · rename_i fs xs ys hu
      cases hs : P.stoodInHeld t with
      | true => simp only [hs, cond_true] at h; cases h
      | false =>
        simp only [hs, cond_false] at h
        obtain ⟨us, hus, rfl⟩ := iv_agg hx
        obtain ⟨vs, hvs, rfl⟩ := iv_agg hy
        have key : ∀ (fl : List Field) (b : SE), fl.foldr (fun f r => bif decide (f.name = "_") then none else
            match partC P f.type xs f.offset, partC P f.type ys f.offset with
            | some u, some v => (match eqS P d f.type u v, r with | some b, some b' => some (SE.and b b') | _, _ => none)
            | _, _ => none) (some (.cmp .eql (.lit .i64 1) (.lit .i64 1))) = some b → b.ty = some none ∧ FEq P d us vs fl (b.val E != 0) := by
          intro fl
          induction fl with
          | nil => intro b hb; cases hb; exact ⟨rfl, .nil⟩
          | cons f fl ih =>
            intro b hb
            simp only [List.foldr_cons] at hb
            cases hn : decide (f.name = "_") with
            | true => rw [hn, cond_true] at hb; cases hb
            | false =>
              simp only [hn, cond_false] at hb
              split at hb
              · rename_i p q hp hq
                split at hb
                · rename_i b1 b2 h1 h2
                  cases hb
                  refine ⟨rfl, ?_⟩
                  simp only [SE.val, b2i_ne]
                  have hne : f.name ≠ "_" := of_decide_eq_false hn
                  rcases partC_rel hp hus with ⟨n, ps, i1, i2, i3, i4, _⟩ | ⟨n, pv, i1, i2, i3, i4⟩
                  · rcases partC_rel hq hvs with ⟨n', qs, j1, j2, j3, j4, _⟩ | ⟨n', qv, j1, j2, j3, j4⟩
                    · rw [i1] at j1; cases j1
                      exact .agg hne i1 i2 j2 (eqS_sound d h1 i4 j4).2 (ih _ h2).2
                    · rw [i1] at j1; cases j1
                  · rcases partC_rel hq hvs with ⟨n', qs, j1, j2, j3, j4, _⟩ | ⟨n', qv, j1, j2, j3, j4⟩
                    · rw [i1] at j1; cases j1
                    · rw [i1] at j1; cases j1
                      exact .one hne i1 i2 j2 (eqS_sound d h1 i3 j3).2 (ih _ h2).2
                · cases hb
              · cases hb
        obtain ⟨h1, h2⟩ := key fs.toList b h
        exact ⟨h1, eq_struct (fs := fs.toList) (by simpa using hu) hs h2⟩
    · cases h
theorem bits_wrap (op : BinOp) (k : IntKind) (x y : Int) : k.wrap (bits op k x y) = bits op k x y := by
  unfold bits
  split <;> first | exact wrap_wrap _ _ | (cases k <;> rfl)
theorem shr_wrap {k : IntKind} (hk : k = .u64 ∨ k = .i64 ∨ k = .u8) {x : Int} (hx : k.wrap x = x) (n : Nat) : k.wrap (x.fdiv (2 ^ n)) = x.fdiv (2 ^ n) := by
  have hp : (0 : Int) < 2 ^ n := Int.pow_pos (by decide)
  rw [Int.fdiv_eq_ediv_of_nonneg _ (Int.le_of_lt hp)]
  have h1 : 0 ≤ x → 0 ≤ x / 2 ^ n ∧ x / 2 ^ n ≤ x := fun h => ⟨Int.ediv_nonneg h (Int.le_of_lt hp), Int.ediv_le_self _ h⟩
  have h2 : x < 0 → x ≤ x / 2 ^ n ∧ x / 2 ^ n < 0 := fun h => by
    refine ⟨?_, Int.ediv_neg_of_neg_of_pos h hp⟩
    apply Int.le_ediv_of_mul_le hp
    have h1 : (1 : Int) ≤ 2 ^ n := hp
    have h2 := Int.mul_nonneg (a := -x) (b := 2 ^ n - 1) (by omega) (by omega)
    rw [Int.neg_mul, Int.mul_sub, Int.mul_one] at h2
    omega
  rcases hk with rfl | rfl | rfl
  · rw [IntKind.wrap_u64] at hx ⊢; have := h1 (by omega); omega
  · rw [IntKind.wrap_i64] at hx ⊢
    by_cases q : 0 ≤ x
    · have := h1 q; omega
    · have := h2 (by omega); omega
  · rw [IntKind.wrap_u8'] at hx ⊢; have := h1 (by omega); omega
theorem emod_le {x n : Int} (hx : 0 ≤ x) (hn : 0 < n) : x % n ≤ x := by
  have h1 := Int.mul_ediv_add_emod x n
  have h2 := Int.mul_nonneg (Int.le_of_lt hn) (Int.ediv_nonneg hx (Int.le_of_lt hn))
  omega
theorem rem_wrap {k : IntKind} (hk : k = .u64 ∨ k = .i64 ∨ k = .u8) {x n : Int} (hx : k.wrap x = x) (hn : 0 < n) : k.wrap (x.tmod n) = x.tmod n := by
  have h1 : 0 ≤ x → 0 ≤ x.tmod n ∧ x.tmod n ≤ x := fun h => by
    rw [Int.tmod_eq_emod_of_nonneg h]
    exact ⟨Int.emod_nonneg _ (by omega), emod_le h hn⟩
  have h2 : x < 0 → x ≤ x.tmod n ∧ x.tmod n ≤ 0 := fun h => by
    have e : x.tmod n = -((-x).tmod n) := by rw [Int.neg_tmod]; omega
    rw [e, Int.tmod_eq_emod_of_nonneg (by omega)]
    have := Int.emod_nonneg (-x) (show n ≠ 0 by omega)
    have := emod_le (show (0:Int) ≤ -x by omega) hn
    omega
  rcases hk with rfl | rfl | rfl
  · rw [IntKind.wrap_u64] at hx ⊢; have := h1 (by omega); omega
  · rw [IntKind.wrap_i64] at hx ⊢
    by_cases q : 0 ≤ x
    · have := h1 q; omega
    · have := h2 (by omega); omega
  · rw [IntKind.wrap_u8'] at hx ⊢; have := h1 (by omega); omega
end
end Go.Proofs.Ytedfbamihjnhhaa.Own
