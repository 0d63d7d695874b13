/- Contracts that were proved by hand, as a table. -/
import Derived.Test.YtedfbamihjnhhaaFvX
import Derived.Test.YtedfbamihjnhhaaRefY
namespace Go.Proofs.Ytedfbamihjnhhaa.Own
open Go Go.RowKit Go.Proofs Go.Proofs.Ytedfbamihjnhhaa.Plain
set_option linter.unusedVariables false
set_option linter.unusedSimpArgs false
set_option maxRecDepth 100000
/-- a number by its two words -/
def fxW (hi lo : Int) : Fx := Fx.of (hi * 18446744073709551616 + lo)
theorem inK_i64 {x : Int} (h : inK (some .i64) x) : -9223372036854775808 ≤ x ∧ x < 9223372036854775808 := by
  have h : IntKind.i64.wrap x = x := h
  rw [IntKind.wrap_i64] at h; omega
theorem inK_u64 {x : Int} (h : inK (some .u64) x) : 0 ≤ x ∧ x < 18446744073709551616 := by
  have h : IntKind.u64.wrap x = x := h
  rw [IntKind.wrap_u64] at h; omega
theorem fxW_hi {hi lo : Int} (h : inK (some .i64) hi) (h' : inK (some .u64) lo) : (fxW hi lo).hi = hi := by
  have := inK_i64 h; have := inK_u64 h'
  unfold fxW Fx.of
  show IntKind.i64.wrap _ = _
  rw [IntKind.wrap_i64]; omega
theorem fxW_lo {hi lo : Int} (h' : inK (some .u64) lo) : (fxW hi lo).lo = lo := by
  have := inK_u64 h'
  unfold fxW Fx.of
  show (_ : Int) % _ = _
  omega
theorem fxW_v {hi lo : Int} (h : inK (some .i64) hi) (h' : inK (some .u64) lo) : (fxW hi lo).v = .agg #[.int .i64 hi, .int .u64 lo] := by
  unfold Fx.v; rw [fxW_hi h h', fxW_lo h']
theorem fxW_n {hi lo : Int} (h : inK (some .i64) hi) (h' : inK (some .u64) lo) : (fxW hi lo).n = hi * 18446744073709551616 + lo := by
  unfold Fx.n; rw [fxW_hi h h', fxW_lo h']
theorem fx_in (a : Fx) : inK (some .i64) a.hi ∧ inK (some .u64) a.lo := by
  have := a.b
  constructor
  · show IntKind.i64.wrap a.hi = a.hi; rw [IntKind.wrap_i64]; omega
  · show IntKind.u64.wrap a.lo = a.lo; rw [IntKind.wrap_u64]; omega
theorem err_in {e : Int} (h : e = 0 ∨ e = 3) : inK (some .i64) e := by
  rcases h with rfl | rfl <;> rfl
theorem told_err (m : Four) (s : Bool) : (told m s).2 = 0 ∨ (told m s).2 = 3 := by unfold told; split <;> simp
theorem fadd_err (a b : Fx) : (fadd a b).2 = 0 ∨ (fadd a b).2 = 3 := by unfold fadd; split; exact told_err _ _; exact .inl rfl
theorem radd_err (a b : Fx) : (radd a b).2 = 0 ∨ (radd a b).2 = 3 := by
  unfold radd
  split
  · exact told_err _ _
  · split <;> exact told_err _ _
theorem vadd_err (a b : Vx) : (vadd a b).2 = 0 ∨ (vadd a b).2 = 3 := by
  unfold vadd
  split
  · split
    · exact .inl rfl
    · exact fadd_err _ _
  · exact fadd_err _ _
def kFx : Sh := .agg [some .i64, some .u64]
def kVx : Sh := .agg [some .i64, some .u64, some .i64, some .u64]
def gFadd (xs : List Int) : List Int := let p := fadd (fxW (xs.getD 0 0) (xs.getD 1 0)) (fxW (xs.getD 2 0) (xs.getD 3 0)); [p.1.hi, p.1.lo, p.2]
def gRadd (xs : List Int) : List Int := let p := radd (fxW (xs.getD 0 0) (xs.getD 1 0)) (fxW (xs.getD 2 0) (xs.getD 3 0)); [p.1.hi, p.1.lo, p.2]
def gVadd (xs : List Int) : List Int := let p := vadd ⟨fxW (xs.getD 0 0) (xs.getD 1 0), fxW (xs.getD 2 0) (xs.getD 3 0)⟩ ⟨fxW (xs.getD 4 0) (xs.getD 5 0), fxW (xs.getD 6 0) (xs.getD 7 0)⟩; [p.1.x.hi, p.1.x.lo, p.1.y.hi, p.1.y.lo, p.2]
theorem in4 {a b c d : Option IntKind} {xs : List Int} (h : InC [a, b, c, d] xs) : ∃ x0 x1 x2 x3, xs = [x0, x1, x2, x3] ∧ inK a x0 ∧ inK b x1 ∧ inK c x2 ∧ inK d x3 := by
  match xs, h with
  | [x0, x1, x2, x3], h => exact ⟨x0, x1, x2, x3, rfl, h.1, h.2.1, h.2.2.1, h.2.2.2.1⟩
theorem in8 {a b c d e f g i : Option IntKind} {xs : List Int} (h : InC [a, b, c, d, e, f, g, i] xs) : ∃ x0 x1 x2 x3 x4 x5 x6 x7, xs = [x0, x1, x2, x3, x4, x5, x6, x7] ∧ (inK a x0 ∧ inK b x1 ∧ inK c x2 ∧ inK d x3) ∧ inK e x4 ∧ inK f x5 ∧ inK g x6 ∧ inK i x7 := by
  match xs, h with
  | [x0, x1, x2, x3, x4, x5, x6, x7], h => exact ⟨x0, x1, x2, x3, x4, x5, x6, x7, rfl, ⟨h.1, h.2.1, h.2.2.1, h.2.2.2.1⟩, h.2.2.2.2.1, h.2.2.2.2.2.1, h.2.2.2.2.2.2.1, h.2.2.2.2.2.2.2.1⟩
theorem cte_fadd : CTE Try.prog gFadd 29 [kFx, kFx] (.tup [kFx, .one (some .i64)]) := fun xs h => by
  obtain ⟨x0, x1, x2, x3, rfl, h0, h1, h2, h3⟩ := in4 h
  have e1 := fxW_v h0 h1
  have e2 := fxW_v h2 h3
  have hp := fadd_pure (fxW x0 x1) (fxW x2 x3)
  rw [e1, e2] at hp
  obtain ⟨i1, i2⟩ := fx_in (fadd (fxW x0 x1) (fxW x2 x3)).1
  exact ⟨⟨i1, i2, err_in (fadd_err _ _), trivial⟩, hp⟩
theorem cte_radd : CTE Try.prog gRadd 19 [kFx, kFx] (.one (.agg [some .i64, some .u64, some .i64])) := fun xs h => by
  obtain ⟨x0, x1, x2, x3, rfl, h0, h1, h2, h3⟩ := in4 h
  have e1 := fxW_v h0 h1
  have e2 := fxW_v h2 h3
  have hp := radd_pure (fxW x0 x1) (fxW x2 x3)
  rw [e1, e2] at hp
  obtain ⟨i1, i2⟩ := fx_in (radd (fxW x0 x1) (fxW x2 x3)).1
  exact ⟨⟨i1, i2, err_in (radd_err _ _), trivial⟩, hp⟩
theorem cte_vadd : CTE Try.prog gVadd 30 [kVx, kVx] (.tup [kVx, .one (some .i64)]) := fun xs h => by
  obtain ⟨x0, x1, x2, x3, x4, x5, x6, x7, rfl, ⟨h0, h1, h2, h3⟩, h4, h5, h6, h7⟩ := in8 h
  have hp := vadd_pure ⟨fxW x0 x1, fxW x2 x3⟩ ⟨fxW x4 x5, fxW x6 x7⟩
  have e1 : (⟨fxW x0 x1, fxW x2 x3⟩ : Vx).v = .agg #[.int .i64 x0, .int .u64 x1, .int .i64 x2, .int .u64 x3] := by
    unfold Vx.v; simp only [fxW_hi h0 h1, fxW_lo h1, fxW_hi h2 h3, fxW_lo h3]
  have e2 : (⟨fxW x4 x5, fxW x6 x7⟩ : Vx).v = .agg #[.int .i64 x4, .int .u64 x5, .int .i64 x6, .int .u64 x7] := by
    unfold Vx.v; simp only [fxW_hi h4 h5, fxW_lo h5, fxW_hi h6 h7, fxW_lo h7]
  rw [e1, e2] at hp
  obtain ⟨i1, i2⟩ := fx_in (vadd ⟨fxW x0 x1, fxW x2 x3⟩ ⟨fxW x4 x5, fxW x6 x7⟩).1.x
  obtain ⟨i3, i4⟩ := fx_in (vadd ⟨fxW x0 x1, fxW x2 x3⟩ ⟨fxW x4 x5, fxW x6 x7⟩).1.y
  exact ⟨⟨i1, i2, i3, i4, err_in (vadd_err _ _), trivial⟩, hp⟩
def TbH_T : List Ent := ⟨29, [kFx, kFx], .tup [kFx, .one (some .i64)], fun _ => gFadd, false⟩ :: ⟨19, [kFx, kFx], .one (.agg [some .i64, some .u64, some .i64]), fun _ => gRadd, false⟩ :: ⟨30, [kVx, kVx], .tup [kVx, .one (some .i64)], fun _ => gVadd, false⟩ :: []
def TbH_X : List Ent := TbH_T
theorem TbH_ok : TbOK Try.prog TbH_T := tb_cons (tb_cons (tb_cons tb_nil rfl (by kernel_rfl) cte_vadd) rfl (by kernel_rfl) cte_radd) rfl (by kernel_rfl) cte_fadd
def TbH_L : List LEnt := []
theorem TbH_lb : LBs Try.prog TbH_L TbH_T := lbs_nil
end Go.Proofs.Ytedfbamihjnhhaa.Own
