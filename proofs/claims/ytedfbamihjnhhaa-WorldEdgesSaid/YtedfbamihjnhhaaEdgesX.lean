/- The limits of a world: each of the nine ways is reckoned. -/
import Derived.Test.YtedfbamihjnhhaaEvX
namespace Go.Proofs.Ytedfbamihjnhhaa.Own
open Go Go.RowKit Go.Proofs Go.Proofs.Ytedfbamihjnhhaa.Plain
set_option linter.unusedVariables false
set_option linter.unusedSimpArgs false
set_option maxRecDepth 100000
def remB (m r : Int) : BinOp → C → C → Option C := fun op a b => match op, a, b with
  | .rem, .opq _, .int .u8 n => bif decide (n = m) then some (.int .u8 r) else none
  | _, _, _ => none
theorem remB_ok {m r x : Int} (hm : (m == 0) = false) (hr : x.tmod m = r) {B1 : Nat → Nat → C → Option C} {H : Hook} : B2OK (cfW (remB m r) B1 H) (fun _ => .int .u8 x) := by
  intro σ op a b z u v h ha hb
  change remB m r op a b = some z at h
  unfold remB at h
  split at h
  · rename_i i n
    cases hn : decide (n = m) with
    | false => simp only [hn, cond_false] at h; cases h
    | true =>
      simp only [hn, cond_true, Option.some.injEq] at h
      subst h
      have hn := of_decide_eq_true hn
      subst hn
      cases ha; cases hb
      refine ⟨.int .u8 r, .int, fun t p q w => ⟨guard_int, ?_⟩⟩
      have : n ≠ 0 := by simpa using hm
      simp [binOp, Op.intDiv, this, go_sem, hr]
  · cases h
theorem okR {m r x : Int} (hm : (m == 0) = false) (hr : x.tmod m = r) : OK (cfW (remB m r) (fun _ _ _ => none) (fun _ _ => none)) (fun _ => .int .u8 x) :=
  okW (fun _ => rfl) (fun _ _ _ _ _ h => by cases h) (remB_ok hm hr) (fun _ _ _ _ _ _ h => by cases h)
theorem edge0 {x : Int} (hr : x.tmod 9 = 0) : Pure Try.prog 5 #[.int .u8 x] (.bool true) := pure_ev (d := 300) (vs := [.one (.opq 0)]) (v := .one (.bool true)) (okR (by decide) hr) (by kernel_rfl) (.cons (.one (.opq rfl)) .nil) (.one .bool)
theorem edge1 {x : Int} (hr : x.tmod 9 = 1) : Pure Try.prog 5 #[.int .u8 x] (.bool true) := pure_ev (d := 300) (vs := [.one (.opq 0)]) (v := .one (.bool true)) (okR (by decide) hr) (by kernel_rfl) (.cons (.one (.opq rfl)) .nil) (.one .bool)
theorem edge2 {x : Int} (hr : x.tmod 9 = 2) : Pure Try.prog 5 #[.int .u8 x] (.bool true) := pure_ev (d := 300) (vs := [.one (.opq 0)]) (v := .one (.bool true)) (okR (by decide) hr) (by kernel_rfl) (.cons (.one (.opq rfl)) .nil) (.one .bool)
theorem edge3 {x : Int} (hr : x.tmod 9 = 3) : Pure Try.prog 5 #[.int .u8 x] (.bool true) := pure_ev (d := 300) (vs := [.one (.opq 0)]) (v := .one (.bool true)) (okR (by decide) hr) (by kernel_rfl) (.cons (.one (.opq rfl)) .nil) (.one .bool)
theorem edge4 {x : Int} (hr : x.tmod 9 = 4) : Pure Try.prog 5 #[.int .u8 x] (.bool true) := pure_ev (d := 300) (vs := [.one (.opq 0)]) (v := .one (.bool true)) (okR (by decide) hr) (by kernel_rfl) (.cons (.one (.opq rfl)) .nil) (.one .bool)
theorem edge5 {x : Int} (hr : x.tmod 9 = 5) : Pure Try.prog 5 #[.int .u8 x] (.bool true) := pure_ev (d := 300) (vs := [.one (.opq 0)]) (v := .one (.bool true)) (okR (by decide) hr) (by kernel_rfl) (.cons (.one (.opq rfl)) .nil) (.one .bool)
theorem edge6 {x : Int} (hr : x.tmod 9 = 6) : Pure Try.prog 5 #[.int .u8 x] (.bool true) := pure_ev (d := 300) (vs := [.one (.opq 0)]) (v := .one (.bool true)) (okR (by decide) hr) (by kernel_rfl) (.cons (.one (.opq rfl)) .nil) (.one .bool)
theorem edge7 {x : Int} (hr : x.tmod 9 = 7) : Pure Try.prog 5 #[.int .u8 x] (.bool true) := pure_ev (d := 300) (vs := [.one (.opq 0)]) (v := .one (.bool true)) (okR (by decide) hr) (by kernel_rfl) (.cons (.one (.opq rfl)) .nil) (.one .bool)
theorem edge8 {x : Int} (hr : x.tmod 9 = 8) : Pure Try.prog 5 #[.int .u8 x] (.bool true) := pure_ev (d := 300) (vs := [.one (.opq 0)]) (v := .one (.bool true)) (okR (by decide) hr) (by kernel_rfl) (.cons (.one (.opq rfl)) .nil) (.one .bool)
theorem edges_pure {x : Int} (h0 : 0 ≤ x) : Pure Try.prog 5 #[.int .u8 x] (.bool true) := by
  have : x.tmod 9 = x % 9 := Int.tmod_eq_emod_of_nonneg h0
  have h : x % 9 = 0 ∨ x % 9 = 1 ∨ x % 9 = 2 ∨ x % 9 = 3 ∨ x % 9 = 4 ∨ x % 9 = 5 ∨ x % 9 = 6 ∨ x % 9 = 7 ∨ x % 9 = 8 := by omega
  rw [← this] at h
  rcases h with h | h | h | h | h | h | h | h | h
  · exact edge0 h
  · exact edge1 h
  · exact edge2 h
  · exact edge3 h
  · exact edge4 h
  · exact edge5 h
  · exact edge6 h
  · exact edge7 h
  · exact edge8 h
end Go.Proofs.Ytedfbamihjnhhaa.Own
