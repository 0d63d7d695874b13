/- A walk by reckoning: slices that are handed in, numbers that are known, truths that are plain. -/
import Derived.Test.YtedfbamihjnhhaaEvN
namespace Go.Proofs.Ytedfbamihjnhhaa.Own
open Go Go.RowKit
set_option linter.unusedVariables false
set_option linter.unusedSimpArgs false

def tru : SE → Bool
  | .cmp .eql x y => decide (x = y)
  | .and a b => tru a && tru b
  | _ => false
def lookK : List (SE × IntKind × Int) → SE → Option (IntKind × Int)
  | [], _ => none
  | (y, k, n) :: r, x => bif decide (y = x) then some (k, n) else lookK r x
def fixK (ks : List (SE × IntKind × Int)) : Option V → Option V
  | some (.one (.opq x)) => bif tru x then some (.one (.bool true)) else (match lookK ks x with | some (k, n) => some (.one (.int k n)) | none => some (.one (.opq x)))
  | r => r
/-- vl: the lengths of slices that are handed in; vi: what block stands for their elements, and how many -/
def gX (P : Program) (vl : List (Nat × SE)) (vi : List (Nat × Nat × Nat)) (ks : List (SE × IntKind × Int)) (o : Oper) (vs : List V) : Option V :=
  match o.op, vs with
  | .call { callee := .builtin .len, args := ⟨[_]⟩, argTypes := ⟨t :: _⟩ }, [.one (.val i)] => (match P.underlying t, lookN vl i with
    | some (.slice _), some x => bif decide (x.ty = some .i64) then some (.one (.opq x)) else none
    | _, _ => none)
  | .indexAddr t _ _, [.one (.val i), .one (.int _ j)] => (match P.underlying t, lookN vi i with
    | some (.slice e), some (key, cnt) => (match tinfo P e with
      | some (_, n) => bif decide (0 ≤ j ∧ j < (cnt : Int)) then some (.one (.ptr key (j.toNat * n))) else none
      | none => none)
    | _, _ => none)
  | _, _ => fixK ks (gS P o vs)
section
variable {E : Env} {σ : List (Nat × Nat × Nat)} {P : Program}
theorem tru_val : ∀ {x : SE}, tru x = true → x.ty = none ∧ (x.val E != 0) = true
  | .cmp .eql x y, h => by
    have := of_decide_eq_true h
    subst this
    refine ⟨rfl, ?_⟩
    simp only [SE.val, b2i_ne, valCmp, beq_self_eq_true]
  | .and a b, h => by
    simp only [tru, Bool.and_eq_true] at h
    obtain ⟨_, h1⟩ := tru_val h.1
    obtain ⟨_, h2⟩ := tru_val h.2
    refine ⟨rfl, ?_⟩
    simp only [SE.val, b2i_ne, h1, h2, Bool.and_self]
theorem gX_ok {vl : List (Nat × SE)} {vi : List (Nat × Nat × Nat)} {ks : List (SE × IntKind × Int)} {σ0 : List (Nat × Nat × Nat)}
    (hl : ∀ i x, lookN vl i = some x → ∃ a len cap, E.pv i = .slice a len cap ∧ x.val E = (len : Int))
    (hi : ∀ i key cnt, lookN vi i = some (key, cnt) → ∃ g b c len cap, σ0[key]? = some (g, b, c) ∧ E.pv i = .slice (some ⟨g, b, none⟩) len cap ∧ cnt ≤ len)
    (hk : ∀ x k n, lookK ks x = some (k, n) → eS E x = .int k n) (hx : Ext σ0 σ) {o : Oper} {vs : List V} {v : V} {us : List Value} (h : gX P vl vi ks o vs = some v) (hus : RelVs (eV E) σ vs us) :
    ∃ u, RelV (eV E) σ v u ∧ ∀ (ρ : Operand → Value), o.op.operands.toList.map ρ = us → ∀ (w0 : World) (L : List Blk), QV P w0 o ρ L u := by
  unfold gX at h
  split at h
  · rename_i x t ts i ho
    split at h
    · rename_i el y hu hly
      cases hb : decide (y.ty = some .i64) with
      | false => rw [hb, cond_false] at h; cases h
      | true =>
        rw [hb, cond_true] at h; cases h
        obtain ⟨a, len, cap, e1, e2⟩ := hl _ _ hly
        have hty := of_decide_eq_true hb
        cases hus with | cons ha t' => cases t' with | nil =>
        have hav : RelC (eV E) σ (.val i) _ := iv_one ha
        refine ⟨_, .one (rel_opq _), fun ρ hr w0 L => ?_⟩
        rw [ho] at hr
        simp [Op.operands, Call.operands] at hr
        cases hav
        have : eS E y = .int .i64 (len : Int) := by simp only [eS, hty, e2]
        rw [this]
        exact q_len_slice (hs := hu) ho rfl rfl rfl (hr.trans e1)
    · cases h
  · rename_i t x y i ik j ho
    split at h
    · rename_i el key cnt hu hly
      split at h
      · rename_i bb n ht
        cases hb : decide (0 ≤ j ∧ j < (cnt : Int)) with
        | false => rw [hb, cond_false] at h; cases h
        | true =>
          rw [hb, cond_true] at h; cases h
          have hj := of_decide_eq_true hb
          obtain ⟨g, b, c, len, cap, e0, e1, e2⟩ := hi _ _ _ hly
          cases hus with | cons ha t' => cases t' with | cons hb' t' => cases t' with | nil =>
          have hav : RelC (eV E) σ (.val i) _ := iv_one ha
          have hjv := iv_int hb'
          refine ⟨_, .one (.ptr (hx.get e0)), fun ρ hr w0 L => ?_⟩
          rw [ho] at hr
          simp [Op.operands] at hr
          cases hav
          exact q_indexAddr (hs := hu) (hi := ht) ho (hr.1.trans e1) (hr.2.trans hjv) ⟨hj.1, by omega⟩
      · cases h
    · cases h
  · unfold fixK at h
    split at h
    · rename_i x hg
      obtain ⟨u, h1, h2⟩ := gS_sound hg hus
      have hu := iv_one h1
      cases hb : tru x with
      | true =>
        rw [hb, cond_true] at h; cases h
        obtain ⟨t1, t2⟩ := tru_val (E := E) hb
        have e : eS E x = .bool true := by simp only [eS, t1, t2]
        refine ⟨.bool true, .one .bool, fun ρ hr w0 L => ?_⟩
        have := h2 ρ hr w0 L
        cases hu
        have e' : (eV E).s x = .bool true := e
        rw [e'] at this; exact this
      | false =>
        rw [hb, cond_false] at h
        split at h
        · rename_i k n hk'
          cases h
          have e' : (eV E).s x = .int k n := hk _ _ _ hk'
          refine ⟨.int k n, .one .int, fun ρ hr w0 L => ?_⟩
          have := h2 ρ hr w0 L
          cases hu
          rw [e'] at this; exact this
        · cases h; exact ⟨u, h1, h2⟩
    · exact gS_sound h hus
end
end Go.Proofs.Ytedfbamihjnhhaa.Own
