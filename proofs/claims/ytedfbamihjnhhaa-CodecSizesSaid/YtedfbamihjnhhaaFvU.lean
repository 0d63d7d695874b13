/- A walk by reckoning: values that are not reckoned but written as terms. -/
/- A walk by reckoning: what operations make of values that are not reckoned, is what the model says. -/
import Derived.Test.YtedfbamihjnhhaaFv6
import Derived.Laws.Bits64
import Derived.Laws.BitsAllLaws
section
namespace Go.Proofs.Ytedfbamihjnhhaa.Own
open Go Go.RowKit
set_option linter.unusedVariables false
set_option linter.unusedSimpArgs false
/-! ### what operations make of them -/
def eqS (P : Program) : Nat → TypeId → V → V → Option SE
 | 0, _, _, _ => none
 | d + 1, t, x, y =>
  match P.underlying t, x, y with
  | some (.int _), .one a, .one b => (match toI a, toI b with | some (k, u), some (k', v) => bif decide (k = k') then some (.cmp .eql u v) else none | _, _ => none)
  | some (.struct fs), .agg xs, .agg ys =>
   bif P.stoodInHeld t then none else
   fs.toList.foldr (fun f r => bif decide (f.name = "_") then none else
    match partC P f.type xs f.offset, partC P f.type ys f.offset with
    | some u, some v => (match eqS P d f.type u v, r with | some b, some b' => some (.and b b') | _, _ => none)
    | _, _ => none) (some (.cmp .eql (.lit .i64 1) (.lit .i64 1)))
  | _, _, _ => none
def gSb (P : Program) (op : BinOp) (t : TypeId) (a b : C) : Option V :=
 match toI a, toI b with
 | some (k, x), some (k', y) =>
  (match op with
  | .shl => (match b with | .int _ n => bif decide (n < 0) then none else some (.one (.opq (.bin .shl k x y))) | _ => none)
  | .shr => (match b with | .int _ n => bif decide (n < 0) then none else (match k with | .u64 | .i64 | .u8 => some (.one (.opq (.bin .shr k x y))) | _ => none) | _ => none)
  | op => bif decide (k = k') then
   (match op with
   | .add | .sub | .mul | .and | .or | .xor => some (.one (.opq (.bin op k x y)))
   | .quo => (match b with | .int _ n => bif (n == 0) then none else some (.one (.opq (.bin .quo k x y))) | _ => none)
   | .rem => (match b with | .int _ n => bif decide (0 < n) then (match k with | .u64 | .i64 | .u8 => some (.one (.opq (.bin .rem k x y))) | _ => none) else none | _ => none)
   | .eql | .neq | .lss | .leq | .gtr | .geq => some (.one (.opq (.cmp op x y)))
   | _ => none) else none)
 | _, _ => match toB a, toB b, P.underlying t, op with
  | some x, some y, some .bool, .eql => some (.one (.opq (.cmp .eql x y)))
  | some x, some y, some .bool, .neq => some (.one (.opq (.cmp .neq x y)))
  | _, _, _, _ => none
def gS (P : Program) (o : Oper) (vs : List V) : Option V :=
 match o.op, vs with
 | .binOp op t _ _ _, [.one a, .one b] => gSb P op t a b
 | .binOp op t _ _ _, [.agg xs, .agg ys] => (match op with
  | .eql => bif P.eqGuardType P.depth t then none else (match eqS P 10000 t (.agg xs) (.agg ys) with | some b => some (.one (.opq b)) | none => none)
  | .neq => bif P.eqGuardType P.depth t then none else (match eqS P 10000 t (.agg xs) (.agg ys) with | some b => some (.one (.opq (.not b))) | none => none)
  | _ => none)
 | .unOp .not _ _, [.one (.opq x)] => (match x.ty with | some none => some (.one (.opq (.not x))) | _ => none)
 | .unOp .neg _ _, [.one (.opq x)] => (match x.ty with | some (some k) => some (.one (.opq (.bin .sub k (.lit k 0) x))) | _ => none)
 | .convert s d _, [.one (.opq x)] => (match x.ty, P.underlying s, P.underlying d with | some (some _), some (.int _), some (.int k) => some (.one (.opq (.conv k x))) | _, _, _ => none)
 | .call { callee := .builtin .max, args := ⟨[_, _]⟩, .. }, [.one a, .one b] => (match toI a, toI b with | some (k, x), some (k', y) => bif decide (k = k') then some (.one (.opq (.mx k x y))) else none | _, _ => none)
 | .call { callee := .builtin .min, args := ⟨[_, _]⟩, .. }, [.one a, .one b] => (match toI a, toI b with | some (k, x), some (k', y) => bif decide (k = k') then some (.one (.opq (.mn k x y))) else none | _, _ => none)
 | _, _ => none
section
variable {E : Env} {σ : List (Nat × Nat × Nat)} {P : Program} {w0 : World} {L : List Blk} {o : Oper} {ρ : Operand → Value}
theorem eqS_sound : ∀ (d : Nat) {t : TypeId} {x y : V} {b : SE} {u v : Value}, eqS P d t x y = some b → RelV (eV E) σ x u → RelV (eV E) σ y v → b.ty = some none ∧ EqR P d t u v (b.val E != 0)
 | 0, _, _, _, _, _, _, h, _, _ => by cases h
 | d + 1, t, x, y, b, u, v, h, hx, hy => by
  simp only [eqS] at h
  split at h
  ·rename_i k a a' hu
   split at h
   ·rename_i k1 p k2 q hp hq
    cases hk : decide (k1 = k2) with
    | false => rw [hk, cond_false] at h; cases h
    | true =>
     rw [hk, cond_true] at h; cases h
     have hk := of_decide_eq_true hk
     subst hk
     obtain ⟨e1, _⟩ := toI_rel hp (iv_one hx)
     obtain ⟨e2, _⟩ := toI_rel hq (iv_one hy)
     rw [e1, e2]
     refine ⟨rfl, fun w => ?_⟩
     simp only [SE.val, b2i_ne, valCmp]
     simp [Op.equalIn, Sem.run_bind, run_underlying hu w]
   ·cases h
  ·rename_i fs xs ys hu
   cases hs : P.stoodInHeld t with
   | true => simp only [hs, cond_true] at h; cases h
   | false =>
    simp only [hs, cond_false] at h
    obtain ⟨us, hus, rfl⟩ := iv_agg hx
    obtain ⟨vs, hvs, rfl⟩ := iv_agg hy
    have key : ∀ (fl : List Field) (b : SE), fl.foldr (fun f r => bif decide (f.name = "_") then none else
      match partC P f.type xs f.offset, partC P f.type ys f.offset with
      | some u, some v => (match eqS P d f.type u v, r with | some b, some b' => some (SE.and b b') | _, _ => none)
      | _, _ => none) (some (.cmp .eql (.lit .i64 1) (.lit .i64 1))) = some b → b.ty = some none ∧ FEq P d us vs fl (b.val E != 0) := by
     intro fl
     induction fl with
     | nil => intro b hb; cases hb; exact ⟨rfl, .nil⟩
     | cons f fl ih =>
      intro b hb
      simp only [List.foldr_cons] at hb
      cases hn : decide (f.name = "_") with
      | true => rw [hn, cond_true] at hb; cases hb
      | false =>
       simp only [hn, cond_false] at hb
       split at hb
       ·rename_i p q hp hq
        split at hb
        ·rename_i b1 b2 h1 h2
         cases hb
         refine ⟨rfl, ?_⟩
         simp only [SE.val, b2i_ne]
         have hne : f.name ≠ "_" := of_decide_eq_false hn
         rcases partC_rel hp hus with ⟨n, ps, i1, i2, i3, i4, _⟩ | ⟨n, pv, i1, i2, i3, i4⟩
         ·rcases partC_rel hq hvs with ⟨n', qs, j1, j2, j3, j4, _⟩ | ⟨n', qv, j1, j2, j3, j4⟩
          ·rw [i1] at j1; cases j1
           exact .agg hne i1 i2 j2 (eqS_sound d h1 i4 j4).2 (ih _ h2).2
          ·rw [i1] at j1; cases j1
         ·rcases partC_rel hq hvs with ⟨n', qs, j1, j2, j3, j4, _⟩ | ⟨n', qv, j1, j2, j3, j4⟩
          ·rw [i1] at j1; cases j1
          ·rw [i1] at j1; cases j1
           exact .one hne i1 i2 j2 (eqS_sound d h1 i3 j3).2 (ih _ h2).2
        ·cases hb
       ·cases hb
    obtain ⟨h1, h2⟩ := key fs.toList b h
    exact ⟨h1, eq_struct (fs := fs.toList) (by simpa using hu) hs h2⟩
  ·cases h
theorem bits_wrap (op : BinOp) (k : IntKind) (x y : Int) : k.wrap (bits op k x y) = bits op k x y := by
 unfold bits
 split <;> first | exact wrap_wrap _ _ | (cases k <;> rfl)
theorem shr_wrap {k : IntKind} (hk : k = .u64 ∨ k = .i64 ∨ k = .u8) {x : Int} (hx : k.wrap x = x) (n : Nat) : k.wrap (x.fdiv (2 ^ n)) = x.fdiv (2 ^ n) := by
 have hp : (0 : Int) < 2 ^ n := Int.pow_pos (by decide)
 rw [Int.fdiv_eq_ediv_of_nonneg _ (Int.le_of_lt hp)]
 have h1 : 0 ≤ x → 0 ≤ x / 2 ^ n ∧ x / 2 ^ n ≤ x := fun h => ⟨Int.ediv_nonneg h (Int.le_of_lt hp), Int.ediv_le_self _ h⟩
 have h2 : x < 0 → x ≤ x / 2 ^ n ∧ x / 2 ^ n < 0 := fun h => by
  refine ⟨?_, Int.ediv_neg_of_neg_of_pos h hp⟩
  apply Int.le_ediv_of_mul_le hp
  have h1 : (1 : Int) ≤ 2 ^ n := hp
  have h2 := Int.mul_nonneg (a := -x) (b := 2 ^ n - 1) (by omega) (by omega)
  rw [Int.neg_mul, Int.mul_sub, Int.mul_one] at h2
  omega
 rcases hk with rfl | rfl | rfl
 ·rw [IntKind.wrap_u64] at hx ⊢; have := h1 (by omega); omega
 ·rw [IntKind.wrap_i64] at hx ⊢
  by_cases q : 0 ≤ x
  ·have := h1 q; omega
  ·have := h2 (by omega); omega
 ·rw [IntKind.wrap_u8'] at hx ⊢; have := h1 (by omega); omega
theorem emod_le {x n : Int} (hx : 0 ≤ x) (hn : 0 < n) : x % n ≤ x := by
 have h1 := Int.mul_ediv_add_emod x n
 have h2 := Int.mul_nonneg (Int.le_of_lt hn) (Int.ediv_nonneg hx (Int.le_of_lt hn))
 omega
theorem rem_wrap {k : IntKind} (hk : k = .u64 ∨ k = .i64 ∨ k = .u8) {x n : Int} (hx : k.wrap x = x) (hn : 0 < n) : k.wrap (x.tmod n) = x.tmod n := by
 have h1 : 0 ≤ x → 0 ≤ x.tmod n ∧ x.tmod n ≤ x := fun h => by
  rw [Int.tmod_eq_emod_of_nonneg h]
  exact ⟨Int.emod_nonneg _ (by omega), emod_le h hn⟩
 have h2 : x < 0 → x ≤ x.tmod n ∧ x.tmod n ≤ 0 := fun h => by
  have e : x.tmod n = -((-x).tmod n) := by rw [Int.neg_tmod]; omega
  rw [e, Int.tmod_eq_emod_of_nonneg (by omega)]
  have := Int.emod_nonneg (-x) (show n ≠ 0 by omega)
  have := emod_le (show (0:Int) ≤ -x by omega) hn
  omega
 rcases hk with rfl | rfl | rfl
 ·rw [IntKind.wrap_u64] at hx ⊢; have := h1 (by omega); omega
 ·rw [IntKind.wrap_i64] at hx ⊢
  by_cases q : 0 ≤ x
  ·have := h1 q; omega
  ·have := h2 (by omega); omega
 ·rw [IntKind.wrap_u8'] at hx ⊢; have := h1 (by omega); omega
end
end Go.Proofs.Ytedfbamihjnhhaa.Own
end
section
namespace Go.Proofs.Ytedfbamihjnhhaa.Own
open Go Go.RowKit
set_option linter.unusedVariables false
set_option linter.unusedSimpArgs false
section
variable {E : Env} {σ : List (Nat × Nat × Nat)} {P : Program}
theorem beq_bools {E : Env} {p q : SE} (h1 : p.ty = some none) (h2 : q.ty = some none) : valCmp .eql (p.val E) (q.val E) = ((p.val E != 0) == (q.val E != 0)) := by
 have e1 := val_bool (E := E) h1
 have e2 := val_bool (E := E) h2
 generalize (p.val E != 0) = a at *
 generalize (q.val E != 0) = b at *
 simp only [valCmp]
 rw [e1, e2]
 cases a <;> cases b <;> rfl
theorem gSb_sound {o : Oper} {op : BinOp} {t ty : TypeId} {a b : C} {v : V} {u1 u2 : Value} {x y : Operand} (h : gSb P op t a b = some v) (ha : RelC (eV E) σ a u1) (hb : RelC (eV E) σ b u2) (ho : o.op = .binOp op t x y ty) :
  ∃ u, RelV (eV E) σ v u ∧ ∀ (ρ : Operand → Value), ρ x = u1 → ρ y = u2 → ∀ (w0 : World) (L : List Blk), QV P w0 o ρ L u := by
 unfold gSb at h
 split at h
 ·rename_i k p k' q hp hq
  obtain ⟨e1, t1⟩ := toI_rel hp ha
  obtain ⟨e2, t2⟩ := toI_rel hq hb
  have ops : ∀ (k' : IntKind) (op' : BinOp) (v' : Value), u2 = .int k (q.val E) → arith op k (p.val E) (q.val E) = some v' → ∀ (ρ : Operand → Value), ρ x = u1 → ρ y = u2 → ∀ (w0 : World) (L : List Blk), QV P w0 o ρ L v' := fun _ _ v' hq' hv ρ hx hy w0 L => q_bin ho (hx.trans e1) (hy.trans hq') hv
  split at h
  ·split at h
   ·rename_i kb n
    cases hn : decide (n < 0) with
    | true => rw [hn, cond_true] at h; cases h
    | false =>
     rw [hn, cond_false] at h; cases h
     refine ⟨_, .one (rel_opq _), fun ρ hx hy w0 L => ?_⟩
     rw [eS_bin]
     have hnq : decide (q.val E < 0) = false := by cases hb; cases e2; exact hn
     exact q_shl ho (hx.trans e1) (hy.trans e2) hnq
   ·cases h
  ·split at h
   ·rename_i kb n
    cases hn : decide (n < 0) with
    | true => rw [hn, cond_true] at h; cases h
    | false =>
     rw [hn, cond_false] at h
     have hk : k = .u64 ∨ k = .i64 ∨ k = .u8 := by
      split at h
      ·exact .inl rfl
      ·exact .inr (.inl rfl)
      ·exact .inr (.inr rfl)
      ·cases h
     have h' : v = .one (.opq (.bin .shr k p q)) := by rcases hk with rfl | rfl | rfl <;> (cases h; rfl)
     subst h'
     refine ⟨_, .one (rel_opq _), fun ρ hx hy w0 L => ?_⟩
     rw [eS_bin]
     have hnq : decide (q.val E < 0) = false := by cases hb; cases e2; exact hn
     have := q_shr (P := P) (w0 := w0) (L := L) ho (hx.trans e1) (hy.trans e2) hnq
     simp only [valBin]
     rw [shr_wrap hk (val_wrap E t1)]
     exact this
   ·cases h
  ·rename_i op' hsl hsr
   cases hk : decide (k = k') with
   | false => rw [hk, cond_false] at h; cases h
   | true =>
    rw [hk, cond_true] at h
    have hk := of_decide_eq_true hk
    subst hk
    split at h
    case h_7 =>
     split at h
     ·rename_i kb n
      cases hn : (n == 0) with
      | true => rw [hn, cond_true] at h; cases h
      | false =>
       rw [hn, cond_false] at h; cases h
       refine ⟨_, .one (rel_opq _), fun ρ hx hy w0 L => ?_⟩
       rw [eS_bin]
       have hnq : (q.val E == 0) = false := by cases hb; cases e2; exact hn
       exact q_quo ho (hx.trans e1) (hy.trans e2) hnq
     ·cases h
    case h_8 =>
     split at h
     ·rename_i kb n
      cases hn : decide (0 < n) with
      | false => rw [hn, cond_false] at h; cases h
      | true =>
       rw [hn, cond_true] at h
       have hk : k = .u64 ∨ k = .i64 ∨ k = .u8 := by
        split at h
        ·exact .inl rfl
        ·exact .inr (.inl rfl)
        ·exact .inr (.inr rfl)
        ·cases h
       have h' : v = .one (.opq (.bin .rem k p q)) := by rcases hk with rfl | rfl | rfl <;> (cases h; rfl)
       subst h'
       refine ⟨_, .one (rel_opq _), fun ρ hx hy w0 L => ?_⟩
       rw [eS_bin]
       have hn0 := of_decide_eq_true hn
       have hnq : 0 < q.val E := by cases hb; cases e2; exact hn0
       have := q_rem (P := P) (w0 := w0) (L := L) ho (hx.trans e1) (hy.trans e2) (by rw [beq_eq_false_iff_ne]; exact Int.ne_of_gt hnq)
       simp only [valBin]
       rw [rem_wrap hk (val_wrap E t1) hnq]
       exact this
     ·cases h
    case h_15 => cases h
    all_goals
     cases h
     refine ⟨_, .one (rel_opq _), fun ρ hx hy w0 L => ?_⟩
     first
     | (rw [eS_cmp]; exact q_bin ho (hx.trans e1) (hy.trans e2) rfl)
     | (rw [eS_bin]; simp only [valBin, bits_wrap]; exact q_bin ho (hx.trans e1) (hy.trans e2) rfl)
 ·split at h
  ·rename_i p q hp hq hu
   obtain ⟨e1, t1⟩ := toB_rel hp ha
   obtain ⟨e2, t2⟩ := toB_rel hq hb
   cases h
   refine ⟨_, .one (rel_opq _), fun ρ hx hy w0 L => ?_⟩
   have := q_eqb (hi := hu) (P := P) (w0 := w0) (L := L) ho (hx.trans e1) (hy.trans e2)
   rw [eS_cmp]
   have e : valCmp .eql (p.val E) (q.val E) = ((p.val E != 0) == (q.val E != 0)) := beq_bools t1 t2
   rw [e]; exact this
  ·rename_i p q hp hq hu
   obtain ⟨e1, t1⟩ := toB_rel hp ha
   obtain ⟨e2, t2⟩ := toB_rel hq hb
   cases h
   refine ⟨_, .one (rel_opq _), fun ρ hx hy w0 L => ?_⟩
   have := q_neb (hi := hu) (P := P) (w0 := w0) (L := L) ho (hx.trans e1) (hy.trans e2)
   rw [eS_cmp]
   have e : valCmp .eql (p.val E) (q.val E) = ((p.val E != 0) == (q.val E != 0)) := beq_bools t1 t2
   have e' : valCmp .neq (p.val E) (q.val E) = !((p.val E != 0) == (q.val E != 0)) := by rw [← e]; rfl
   rw [e']; exact this
  ·cases h
theorem gS_sound {o : Oper} {vs : List V} {v : V} {us : List Value} (h : gS P o vs = some v) (hus : RelVs (eV E) σ vs us) :
  ∃ u, RelV (eV E) σ v u ∧ ∀ (ρ : Operand → Value), o.op.operands.toList.map ρ = us → ∀ (w0 : World) (L : List Blk), QV P w0 o ρ L u := by
 unfold gS at h
 split at h
 ·rename_i op t x y ty a b ho
  cases hus with | cons ha t' => cases t' with | cons hb t' => cases t' with | nil =>
  obtain ⟨u, h1, h2⟩ := gSb_sound h (iv_one ha) (iv_one hb) ho
  refine ⟨u, h1, fun ρ hr w0 L => ?_⟩
  rw [ho] at hr
  simp [Op.operands] at hr
  exact h2 ρ hr.1 hr.2 w0 L
 ·rename_i op t x y ty xs ys ho
  cases hus with | cons ha t' => cases t' with | cons hb t' => cases t' with | nil =>
  obtain ⟨as, has, rfl⟩ := iv_agg ha
  obtain ⟨bs, hbs, rfl⟩ := iv_agg hb
  split at h
  ·cases hg : P.eqGuardType P.depth t with
   | true => rw [hg, cond_true] at h; cases h
   | false =>
    rw [hg, cond_false] at h
    split at h
    ·rename_i b hb'; cases h
     obtain ⟨h1, h2⟩ := eqS_sound _ hb' ha hb
     refine ⟨_, .one (rel_opq _), fun ρ hr w0 L => ?_⟩
     rw [ho] at hr
     simp [Op.operands] at hr
     simp only [eS, h1]
     exact q_eqs ho hr.1 hr.2 ⟨hg, h2⟩
    ·cases h
  ·cases hg : P.eqGuardType P.depth t with
   | true => rw [hg, cond_true] at h; cases h
   | false =>
    rw [hg, cond_false] at h
    split at h
    ·rename_i b hb'; cases h
     obtain ⟨h1, h2⟩ := eqS_sound _ hb' ha hb
     refine ⟨_, .one (rel_opq _), fun ρ hr w0 L => ?_⟩
     rw [ho] at hr
     simp [Op.operands] at hr
     simp only [eS, SE.ty, SE.val, b2i_ne]
     exact q_nes ho hr.1 hr.2 ⟨hg, h2⟩
    ·cases h
  ·cases h
 ·rename_i t x y ho
  cases hus with | cons ha t' => cases t' with | nil =>
  split at h
  ·rename_i hty; cases h
   have ha := iv_one ha
   refine ⟨_, .one (rel_opq _), fun ρ hr w0 L => ?_⟩
   rw [ho] at hr
   simp [Op.operands] at hr
   simp only [eS, SE.ty, SE.val, b2i_ne]
   refine q_not ho ?_
   rw [hr]; cases ha; simp only [eV, eS, hty]
  ·cases h
 ·rename_i t x y ho
  cases hus with | cons ha t' => cases t' with | nil =>
  split at h
  ·rename_i k hty; cases h
   have ha := iv_one ha
   refine ⟨_, .one (rel_opq _), fun ρ hr w0 L => ?_⟩
   rw [ho] at hr
   simp [Op.operands] at hr
   rw [eS_bin]
   have h0 : (SE.lit k 0).val E = 0 := by simp only [SE.val]; cases k <;> rfl
   simp only [valBin, h0]
   refine q_neg ho ?_
   rw [hr]; cases ha; simp only [eV, eS, hty]
  ·cases h
 ·rename_i s d x y ho
  cases hus with | cons ha t' => cases t' with | nil =>
  split at h
  ·rename_i k k1 k2 hty hs hd; cases h
   have ha := iv_one ha
   refine ⟨_, .one (rel_opq _), fun ρ hr w0 L => ?_⟩
   rw [ho] at hr
   simp [Op.operands] at hr
   simp only [eS, SE.ty, SE.val]
   refine q_conv (hs := hs) (hd := hd) (k2 := k) ho ?_
   rw [hr]; cases ha; simp only [eV, eS, hty]
  ·cases h
 ·rename_i x y ts a b ho
  cases hus with | cons ha t' => cases t' with | cons hb t' => cases t' with | nil =>
  split at h
  ·rename_i k p k' q hp hq
   cases hk : decide (k = k') with
   | false => rw [hk, cond_false] at h; cases h
   | true =>
    rw [hk, cond_true] at h; cases h
    have hk := of_decide_eq_true hk
    subst hk
    obtain ⟨e1, t1⟩ := toI_rel hp (iv_one ha)
    obtain ⟨e2, t2⟩ := toI_rel hq (iv_one hb)
    refine ⟨_, .one (rel_opq _), fun ρ hr w0 L => ?_⟩
    rw [ho] at hr
    simp [Op.operands, Call.operands] at hr
    have := q_max (P := P) (w0 := w0) (L := L) ho rfl rfl (hr.1.trans e1) (hr.2.trans e2)
    have e : eS E (.mx k p q) = .int k (bif decide (q.val E > p.val E) then q.val E else p.val E) := by
     simp only [eS, SE.ty, SE.val]
     cases decide (q.val E > p.val E)
     ·rw [cond_false, val_wrap E t1]
     ·rw [cond_true, val_wrap E t2]
    show QV P w0 o ρ L (eS E (.mx k p q))
    rw [e]; exact this
  ·cases h
 ·rename_i x y ts a b ho
  cases hus with | cons ha t' => cases t' with | cons hb t' => cases t' with | nil =>
  split at h
  ·rename_i k p k' q hp hq
   cases hk : decide (k = k') with
   | false => rw [hk, cond_false] at h; cases h
   | true =>
    rw [hk, cond_true] at h; cases h
    have hk := of_decide_eq_true hk
    subst hk
    obtain ⟨e1, t1⟩ := toI_rel hp (iv_one ha)
    obtain ⟨e2, t2⟩ := toI_rel hq (iv_one hb)
    refine ⟨_, .one (rel_opq _), fun ρ hr w0 L => ?_⟩
    rw [ho] at hr
    simp [Op.operands, Call.operands] at hr
    have := q_min (P := P) (w0 := w0) (L := L) ho rfl rfl (hr.1.trans e1) (hr.2.trans e2)
    have e : eS E (.mn k p q) = .int k (bif decide (q.val E < p.val E) then q.val E else p.val E) := by
     simp only [eS, SE.ty, SE.val]
     cases decide (q.val E < p.val E)
     ·rw [cond_false, val_wrap E t1]
     ·rw [cond_true, val_wrap E t2]
    show QV P w0 o ρ L (eS E (.mn k p q))
    rw [e]; exact this
  ·cases h
 ·cases h
/-! ### truths that are known -/
def dS : List (SE × Bool) → SE → Option Bool
 | [], _ => none
 | (y, b) :: r, x => bif decide (y = x) then some b else dS r x
inductive Knows (E : Env) : List (SE × Bool) → Prop where
 | nil : Knows E []
 | cons {x : SE} {b : Bool} {r : List (SE × Bool)} (h : eS E x = .bool b) (t : Knows E r) : Knows E ((x, b) :: r)
theorem dS_ok {ds : List (SE × Bool)} (h : Knows E ds) : ∀ x b, dS ds x = some b → eS E x = .bool b := by
 induction h with
 | nil => intro x b h; cases h
 | @cons y c r h t ih =>
  intro x b hx
  simp only [dS] at hx
  cases hd : decide (y = x) with
  | true => rw [hd, cond_true] at hx; cases hx; rw [← of_decide_eq_true hd]; exact h
  | false => rw [hd, cond_false] at hx; exact ih _ _ hx
/-! ### contracts -/
def hnil : Hook := fun _ _ => none
def HookOK (P : Program) (E : Env) (h : Hook) : Prop := ∀ (σ : List (Nat × Nat × Nat)) (f : Nat) (vs : List V) (v : V) (us : List Value), h f vs = some v → RelVs (eV E) σ vs us → isFn P f = true ∧ ∃ u, RelV (eV E) σ v u ∧ Pure P f (List.toArray us) u
end
end Go.Proofs.Ytedfbamihjnhhaa.Own
end
