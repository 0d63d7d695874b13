/- A walk by reckoning: what operations make of values that are not reckoned, is what the model says. -/
import Derived.Test.YtedfbamihjnhhaaFvS
namespace Go.Proofs.Ytedfbamihjnhhaa.Own
open Go Go.RowKit
set_option linter.unusedVariables false
set_option linter.unusedSimpArgs false
section
variable {E : Env} {σ : List (Nat × Nat × Nat)} {P : Program}
theorem beq_bools {E : Env} {p q : SE} (h1 : p.ty = some none) (h2 : q.ty = some none) : valCmp .eql (p.val E) (q.val E) = ((p.val E != 0) == (q.val E != 0)) := by
  have e1 := val_bool (E := E) h1
  have e2 := val_bool (E := E) h2
  generalize (p.val E != 0) = a at *
  generalize (q.val E != 0) = b at *
  simp only [valCmp]
  rw [e1, e2]
  cases a <;> cases b <;> rfl
theorem gSb_sound {o : Oper} {op : BinOp} {t ty : TypeId} {a b : C} {v : V} {u1 u2 : Value} {x y : Operand} (h : gSb P op t a b = some v) (ha : RelC (eV E) σ a u1) (hb : RelC (eV E) σ b u2) (ho : o.op = .binOp op t x y ty) :
    ∃ u, RelV (eV E) σ v u ∧ ∀ (ρ : Operand → Value), ρ x = u1 → ρ y = u2 → ∀ (w0 : World) (L : List Blk), QV P w0 o ρ L u := by
  unfold gSb at h
  split at h
  · rename_i k p k' q hp hq
    obtain ⟨e1, t1⟩ := toI_rel hp ha
    obtain ⟨e2, t2⟩ := toI_rel hq hb
    have ops : ∀ (k' : IntKind) (op' : BinOp) (v' : Value), u2 = .int k (q.val E) → arith op k (p.val E) (q.val E) = some v' → ∀ (ρ : Operand → Value), ρ x = u1 → ρ y = u2 → ∀ (w0 : World) (L : List Blk), QV P w0 o ρ L v' := fun _ _ v' hq' hv ρ hx hy w0 L => q_bin ho (hx.trans e1) (hy.trans hq') hv
    split at h
    · split at h
      · rename_i kb n
        cases hn : decide (n < 0) with
        | true => rw [hn, cond_true] at h; cases h
        | false =>
          rw [hn, cond_false] at h; cases h
          refine ⟨_, .one (rel_opq _), fun ρ hx hy w0 L => ?_⟩
          rw [eS_bin]
          have hnq : decide (q.val E < 0) = false := by cases hb; cases e2; exact hn
          exact q_shl ho (hx.trans e1) (hy.trans e2) hnq
      · cases h
    · split at h
      · rename_i kb n
        cases hn : decide (n < 0) with
        | true => rw [hn, cond_true] at h; cases h
        | false =>
          rw [hn, cond_false] at h
          have hk : k = .u64 ∨ k = .i64 ∨ k = .u8 := by
            split at h
            · exact .inl rfl
            · exact .inr (.inl rfl)
            · exact .inr (.inr rfl)
            · cases h
          have h' : v = .one (.opq (.bin .shr k p q)) := by rcases hk with rfl | rfl | rfl <;> (cases h; rfl)
          subst h'
          refine ⟨_, .one (rel_opq _), fun ρ hx hy w0 L => ?_⟩
          rw [eS_bin]
          have hnq : decide (q.val E < 0) = false := by cases hb; cases e2; exact hn
          have := q_shr (P := P) (w0 := w0) (L := L) ho (hx.trans e1) (hy.trans e2) hnq
          simp only [valBin]
          rw [shr_wrap hk (val_wrap E t1)]
          exact this
      · cases h
    · rename_i op' hsl hsr
      cases hk : decide (k = k') with
      | false => rw [hk, cond_false] at h; cases h
      | true =>
        rw [hk, cond_true] at h
        have hk := of_decide_eq_true hk
        subst hk
        split at h
        case h_7 =>
          split at h
          · rename_i kb n
            cases hn : (n == 0) with
            | true => rw [hn, cond_true] at h; cases h
            | false =>
              rw [hn, cond_false] at h; cases h
              refine ⟨_, .one (rel_opq _), fun ρ hx hy w0 L => ?_⟩
              rw [eS_bin]
              have hnq : (q.val E == 0) = false := by cases hb; cases e2; exact hn
              exact q_quo ho (hx.trans e1) (hy.trans e2) hnq
          · cases h
        case h_8 =>
          split at h
          · rename_i kb n
            cases hn : decide (0 < n) with
            | false => rw [hn, cond_false] at h; cases h
            | true =>
              rw [hn, cond_true] at h
              have hk : k = .u64 ∨ k = .i64 ∨ k = .u8 := by
                split at h
                · exact .inl rfl
                · exact .inr (.inl rfl)
                · exact .inr (.inr rfl)
                · cases h
              have h' : v = .one (.opq (.bin .rem k p q)) := by rcases hk with rfl | rfl | rfl <;> (cases h; rfl)
              subst h'
              refine ⟨_, .one (rel_opq _), fun ρ hx hy w0 L => ?_⟩
              rw [eS_bin]
              have hn0 := of_decide_eq_true hn
              have hnq : 0 < q.val E := by cases hb; cases e2; exact hn0
              have := q_rem (P := P) (w0 := w0) (L := L) ho (hx.trans e1) (hy.trans e2) (by rw [beq_eq_false_iff_ne]; exact Int.ne_of_gt hnq)
              simp only [valBin]
              rw [rem_wrap hk (val_wrap E t1) hnq]
              exact this
          · cases h
        case h_15 => cases h
        all_goals
          cases h
          refine ⟨_, .one (rel_opq _), fun ρ hx hy w0 L => ?_⟩
          first
          | (rw [eS_cmp]; exact q_bin ho (hx.trans e1) (hy.trans e2) rfl)
          | (rw [eS_bin]; simp only [valBin, bits_wrap]; exact q_bin ho (hx.trans e1) (hy.trans e2) rfl)
  · split at h
    · rename_i p q hp hq hu
      obtain ⟨e1, t1⟩ := toB_rel hp ha
      obtain ⟨e2, t2⟩ := toB_rel hq hb
      cases h
      refine ⟨_, .one (rel_opq _), fun ρ hx hy w0 L => ?_⟩
      have := q_eqb (hi := hu) (P := P) (w0 := w0) (L := L) ho (hx.trans e1) (hy.trans e2)
      rw [eS_cmp]
      have e : valCmp .eql (p.val E) (q.val E) = ((p.val E != 0) == (q.val E != 0)) := beq_bools t1 t2
      rw [e]; exact this
    · rename_i p q hp hq hu
      obtain ⟨e1, t1⟩ := toB_rel hp ha
      obtain ⟨e2, t2⟩ := toB_rel hq hb
      cases h
      refine ⟨_, .one (rel_opq _), fun ρ hx hy w0 L => ?_⟩
      have := q_neb (hi := hu) (P := P) (w0 := w0) (L := L) ho (hx.trans e1) (hy.trans e2)
      rw [eS_cmp]
      have e : valCmp .eql (p.val E) (q.val E) = ((p.val E != 0) == (q.val E != 0)) := beq_bools t1 t2
      have e' : valCmp .neq (p.val E) (q.val E) = !((p.val E != 0) == (q.val E != 0)) := by rw [← e]; rfl
      rw [e']; exact this
    · cases h
theorem gS_sound {o : Oper} {vs : List V} {v : V} {us : List Value} (h : gS P o vs = some v) (hus : RelVs (eV E) σ vs us) :
    ∃ u, RelV (eV E) σ v u ∧ ∀ (ρ : Operand → Value), o.op.operands.toList.map ρ = us → ∀ (w0 : World) (L : List Blk), QV P w0 o ρ L u := by
  unfold gS at h
  split at h
  · rename_i op t x y ty a b ho
    cases hus with | cons ha t' => cases t' with | cons hb t' => cases t' with | nil =>
    obtain ⟨u, h1, h2⟩ := gSb_sound h (iv_one ha) (iv_one hb) ho
    refine ⟨u, h1, fun ρ hr w0 L => ?_⟩
    rw [ho] at hr
    simp [Op.operands] at hr
    exact h2 ρ hr.1 hr.2 w0 L
  · rename_i op t x y ty xs ys ho
    cases hus with | cons ha t' => cases t' with | cons hb t' => cases t' with | nil =>
    obtain ⟨as, has, rfl⟩ := iv_agg ha
    obtain ⟨bs, hbs, rfl⟩ := iv_agg hb
    split at h
    · cases hg : P.eqGuardType P.depth t with
      | true => rw [hg, cond_true] at h; cases h
      | false =>
        rw [hg, cond_false] at h
        split at h
        · rename_i b hb'; cases h
          obtain ⟨h1, h2⟩ := eqS_sound _ hb' ha hb
          refine ⟨_, .one (rel_opq _), fun ρ hr w0 L => ?_⟩
          rw [ho] at hr
          simp [Op.operands] at hr
          simp only [eS, h1]
          exact q_eqs ho hr.1 hr.2 ⟨hg, h2⟩
        · cases h
    · cases hg : P.eqGuardType P.depth t with
      | true => rw [hg, cond_true] at h; cases h
      | false =>
        rw [hg, cond_false] at h
        split at h
        · rename_i b hb'; cases h
          obtain ⟨h1, h2⟩ := eqS_sound _ hb' ha hb
          refine ⟨_, .one (rel_opq _), fun ρ hr w0 L => ?_⟩
          rw [ho] at hr
          simp [Op.operands] at hr
          simp only [eS, SE.ty, SE.val, b2i_ne]
          exact q_nes ho hr.1 hr.2 ⟨hg, h2⟩
        · cases h
    · cases h
  · rename_i t x y ho
    cases hus with | cons ha t' => cases t' with | nil =>
    split at h
    · rename_i hty; cases h
      have ha := iv_one ha
      refine ⟨_, .one (rel_opq _), fun ρ hr w0 L => ?_⟩
      rw [ho] at hr
      simp [Op.operands] at hr
      simp only [eS, SE.ty, SE.val, b2i_ne]
      refine q_not ho ?_
      rw [hr]; cases ha; simp only [eV, eS, hty]
    · cases h
  · rename_i t x y ho
    cases hus with | cons ha t' => cases t' with | nil =>
    split at h
    · rename_i k hty; cases h
      have ha := iv_one ha
      refine ⟨_, .one (rel_opq _), fun ρ hr w0 L => ?_⟩
      rw [ho] at hr
      simp [Op.operands] at hr
      rw [eS_bin]
      have h0 : (SE.lit k 0).val E = 0 := by simp only [SE.val]; cases k <;> rfl
      simp only [valBin, h0]
      refine q_neg ho ?_
      rw [hr]; cases ha; simp only [eV, eS, hty]
    · cases h
  · rename_i s d x y ho
    cases hus with | cons ha t' => cases t' with | nil =>
    split at h
    · rename_i k k1 k2 hty hs hd; cases h
      have ha := iv_one ha
      refine ⟨_, .one (rel_opq _), fun ρ hr w0 L => ?_⟩
      rw [ho] at hr
      simp [Op.operands] at hr
      simp only [eS, SE.ty, SE.val]
      refine q_conv (hs := hs) (hd := hd) (k2 := k) ho ?_
      rw [hr]; cases ha; simp only [eV, eS, hty]
    · cases h
  · rename_i x y ts a b ho
    cases hus with | cons ha t' => cases t' with | cons hb t' => cases t' with | nil =>
    split at h
    · rename_i k p k' q hp hq
      cases hk : decide (k = k') with
      | false => rw [hk, cond_false] at h; cases h
      | true =>
        rw [hk, cond_true] at h; cases h
        have hk := of_decide_eq_true hk
        subst hk
        obtain ⟨e1, t1⟩ := toI_rel hp (iv_one ha)
        obtain ⟨e2, t2⟩ := toI_rel hq (iv_one hb)
        refine ⟨_, .one (rel_opq _), fun ρ hr w0 L => ?_⟩
        rw [ho] at hr
        simp [Op.operands, Call.operands] at hr
        have := q_max (P := P) (w0 := w0) (L := L) ho rfl rfl (hr.1.trans e1) (hr.2.trans e2)
        have e : eS E (.mx k p q) = .int k (bif decide (q.val E > p.val E) then q.val E else p.val E) := by
          simp only [eS, SE.ty, SE.val]
          cases decide (q.val E > p.val E)
          · rw [cond_false, val_wrap E t1]
          · rw [cond_true, val_wrap E t2]
        show QV P w0 o ρ L (eS E (.mx k p q))
        rw [e]; exact this
    · cases h
  · rename_i x y ts a b ho
    cases hus with | cons ha t' => cases t' with | cons hb t' => cases t' with | nil =>
    split at h
    · rename_i k p k' q hp hq
      cases hk : decide (k = k') with
      | false => rw [hk, cond_false] at h; cases h
      | true =>
        rw [hk, cond_true] at h; cases h
        have hk := of_decide_eq_true hk
        subst hk
        obtain ⟨e1, t1⟩ := toI_rel hp (iv_one ha)
        obtain ⟨e2, t2⟩ := toI_rel hq (iv_one hb)
        refine ⟨_, .one (rel_opq _), fun ρ hr w0 L => ?_⟩
        rw [ho] at hr
        simp [Op.operands, Call.operands] at hr
        have := q_min (P := P) (w0 := w0) (L := L) ho rfl rfl (hr.1.trans e1) (hr.2.trans e2)
        have e : eS E (.mn k p q) = .int k (bif decide (q.val E < p.val E) then q.val E else p.val E) := by
          simp only [eS, SE.ty, SE.val]
          cases decide (q.val E < p.val E)
          · rw [cond_false, val_wrap E t1]
          · rw [cond_true, val_wrap E t2]
        show QV P w0 o ρ L (eS E (.mn k p q))
        rw [e]; exact this
    · cases h
  · cases h
/-! ### truths that are known -/
def dS : List (SE × Bool) → SE → Option Bool
  | [], _ => none
  | (y, b) :: r, x => bif decide (y = x) then some b else dS r x
inductive Knows (E : Env) : List (SE × Bool) → Prop where
  | nil : Knows E []
  | cons {x : SE} {b : Bool} {r : List (SE × Bool)} (h : eS E x = .bool b) (t : Knows E r) : Knows E ((x, b) :: r)
theorem dS_ok {ds : List (SE × Bool)} (h : Knows E ds) : ∀ x b, dS ds x = some b → eS E x = .bool b := by
  induction h with
  | nil => intro x b h; cases h
  | @cons y c r h t ih =>
    intro x b hx
    simp only [dS] at hx
    cases hd : decide (y = x) with
    | true => rw [hd, cond_true] at hx; cases hx; rw [← of_decide_eq_true hd]; exact h
    | false => rw [hd, cond_false] at hx; exact ih _ _ hx
/-! ### contracts -/
def hcons (f0 : Nat) (h0 : List V → Option V) (r : Hook) : Hook := fun f vs => bif Nat.beq f f0 then h0 vs else r f vs
def hnil : Hook := fun _ _ => none
def HookOK (P : Program) (E : Env) (h : Hook) : Prop := ∀ (σ : List (Nat × Nat × Nat)) (f : Nat) (vs : List V) (v : V) (us : List Value), h f vs = some v → RelVs (eV E) σ vs us → isFn P f = true ∧ ∃ u, RelV (eV E) σ v u ∧ Pure P f (List.toArray us) u
theorem hook_nil : HookOK P E hnil := fun _ _ _ _ _ h => by cases h
theorem hook_cons {f0 : Nat} {h0 : List V → Option V} {r : Hook} (hf : isFn P f0 = true) (h : ∀ (σ : List (Nat × Nat × Nat)) (vs : List V) (v : V) (us : List Value), h0 vs = some v → RelVs (eV E) σ vs us → ∃ u, RelV (eV E) σ v u ∧ Pure P f0 (List.toArray us) u) (t : HookOK P E r) : HookOK P E (hcons f0 h0 r) := by
  intro σ f vs v us hv hus
  unfold hcons at hv
  cases hb : Nat.beq f f0 with
  | true => rw [hb, cond_true] at hv; rw [Nat.eq_of_beq_eq_true hb]; exact ⟨hf, h σ vs v us hv hus⟩
  | false => rw [hb, cond_false] at hv; exact t σ f vs v us hv hus
end
end Go.Proofs.Ytedfbamihjnhhaa.Own
