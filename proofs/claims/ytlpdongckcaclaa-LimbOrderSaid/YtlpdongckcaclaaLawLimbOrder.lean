/- The row of the law perigeelaw1_LimbOrder, by program, out of its pure statement and the walk. -/
import Derived.Test.YtlpdongckcaclaaRows
import Derived.Test.YtlpdongckcaclaaOrdC
import Derived.WalkKit
import Derived.ProofKit
import Derived.OpenShut
import Derived.ShutString
import Derived.ChangeOld
import Derived.Below
import Derived.SizedLaws
namespace Go.Proofs.Ytlpdongckcaclaa.limbOrder
open Go.ChangeShapes Go.WideShapes Go.ChangeAt Go.RowKit
open Go.ChangeMaps (open_string shut_string)
set_option linter.unusedVariables false
theorem bounds {a : Int} (h : (Lit.int .u64 a).wf = true) : 0 ≤ a ∧ a < 18446744073709551616 := by
  have := bounds_u64 h
  omega
theorem own : ownKnob Try.prog.godebug = none := by kernel_rfl
theorem laidOut : laidOutB Try.prog = true := by kernel_rfl
theorem cells24 {H : Type} {enc : TypeId × Value → H} {w : World} {base : Nat} {spare : Nat → Bool} {held : Bool} {fuel : Nat} {cs : List Value} {x : DataW H × List MemPlace} (h : DataW.trod enc Try.prog w base spare held fuel 24 cs = some x) :
    ∃ (b0 : Int) (b1 : Int), cs = [.int .u64 b0, .int .u64 b1] ∧ (Lit.int .u64 b0).wf = true ∧ (Lit.int .u64 b1).wf = true := by
  obtain ⟨xs, n, _, rfl, hl, hlen, hf⟩ := DataW.trod_struct Try.underlying24 h
  have hc : Try.prog.cellsOf 24 = 2 := by kernel_rfl
  rw [hc] at hl
  have hc0 : Try.prog.cellsOf 22 = 1 := by kernel_rfl
  have g0 := hf 0 _ rfl
  rw [List.getElem?_eq_getElem (by rw [hlen]; decide)] at g0
  have g0' : DataW.trod enc Try.prog w base spare held n 22 ((cs.drop 0).take 1) = some (xs[0]'(by rw [hlen]; decide)) := by
    have z : DataW.trod enc Try.prog w base spare held n 22 ((cs.drop 0).take (Try.prog.cellsOf 22)) = some (xs[0]'(by rw [hlen]; decide)) := g0
    rw [hc0] at z
    exact z
  obtain ⟨b0, e0, _, wb0⟩ := DataW.trod_int Try.underlying22 g0'
  have hc1 : Try.prog.cellsOf 22 = 1 := by kernel_rfl
  have g1 := hf 1 _ rfl
  rw [List.getElem?_eq_getElem (by rw [hlen]; decide)] at g1
  have g1' : DataW.trod enc Try.prog w base spare held n 22 ((cs.drop 1).take 1) = some (xs[1]'(by rw [hlen]; decide)) := by
    have z : DataW.trod enc Try.prog w base spare held n 22 ((cs.drop 1).take (Try.prog.cellsOf 22)) = some (xs[1]'(by rw [hlen]; decide)) := g1
    rw [hc1] at z
    exact z
  obtain ⟨b1, e1, _, wb1⟩ := DataW.trod_int Try.underlying22 g1'
  have j0 : cs.drop 0 = (cs.drop 0).take 1 ++ cs.drop 1 := by rw [show cs.drop 1 = (cs.drop 0).drop 1 from by rw [List.drop_drop]]; exact (List.take_append_drop 1 _).symm
  have j1 : cs.drop 1 = (cs.drop 1).take 1 ++ cs.drop 2 := by rw [show cs.drop 2 = (cs.drop 1).drop 1 from by rw [List.drop_drop]]; exact (List.take_append_drop 1 _).symm
  have jz : cs.drop 2 = [] := List.drop_eq_nil_of_le (by rw [hl]; decide)
  have jt : cs = [.int .u64 b0, .int .u64 b1] := by
    have z : cs = cs.drop 0 := rfl
    rw [z, j0, j1, jz, e0, e1]
    rfl
  exact ⟨b0, b1, jt, wb0, wb1⟩
theorem opens24 {H : Type} {enc : TypeId × Value → H} {w : World} {base b0 : Nat} {spare : Nat → Bool} {held : Bool} {r : Reach} {v : Value} {d : DataW H} {p : List MemPlace} (hv : Value.okWide Try.prog w r b0 24 v) (h : DataW.Trod enc Try.prog w base spare held 24 v d p) :
    ∃ (b0 : Int) (b1 : Int), v = .agg #[.int .u64 b0, .int .u64 b1] ∧ (Lit.int .u64 b0).wf = true ∧ (Lit.int .u64 b1).wf = true := by
  obtain ⟨cs, rfl, _⟩ := okWide_struct Try.underlying24 hv
  obtain ⟨fuel, hf⟩ := h
  obtain ⟨b0, b1, e, wb0, wb1⟩ := cells24 hf
  exact ⟨b0, b1, by rw [show cs = #[.int .u64 b0, .int .u64 b1] from Array.ext' e], wb0, wb1⟩
set_option maxRecDepth 100000 in
theorem lifted (os : Os) (started : os.Started) (H : Type) (enc : TypeId × Value → H) :
    ReturnsInHanded {} Try.checked os 9 .any (Rows.limbOrderSpec.pre6 enc Try.prog Try.f9 Rows.limbOrderRow.domain false) (Rows.limbOrderSpec.post enc Try.prog Try.f9 false true false false) := by
  refine returnsInHanded_of_change_sized (C := Try.checked) own started (by kernel_rfl) Try.func9
    (ChangeSpec.witness6 (enc := enc) (C := Try.checked) false ⟨#[], #[.agg #[.int .u64 0, .int .u64 0], .agg #[.int .u64 0, .int .u64 0], .agg #[.int .u64 0, .int .u64 0]], []⟩ 8 (by kernel_rfl) (by kernel_rfl) (by kernel_rfl) (by kernel_rfl)) ?_
  intro W base args ds gs before hval0 hW hcnd hsz0 _
  have hsz : (DataW.weightsEach Try.prog (Try.f9.params.toList ++ Rows.limbOrderSpec.plain.varTypes Try.prog) (ds ++ gs)).all (· ≤ reachBytes) = true := hsz0
  have hval : ∀ (j : Nat) t v, Try.f9.params[j]? = some t → args[j]? = some v → Value.okWide Try.prog W .any base t v := hval0
  have hW' := hW
  obtain ⟨p, q, hA0, hV, rfl, hfz, hnd⟩ := hW
  have hA : DataW.TrodAll enc Try.prog W 0 (fun _ => true) true Try.f9.params.toList args.toList ds p := hA0
  rw [Try.params9] at hA hval hsz
  obtain ⟨v0, vs0, d0, ds0, p0, q0, hargs, rfl, rfl, h0, r0⟩ := trodAll_cons hA
  obtain ⟨v1, vs1, d1, ds1, p1, q1, rfl, rfl, rfl, h1, r1⟩ := trodAll_cons r0
  obtain ⟨v2, vs2, d2, ds2, p2, q2, rfl, rfl, rfl, h2, r2⟩ := trodAll_cons r1
  obtain ⟨rfl, rfl, rfl⟩ := trodAll_nil r2
  obtain rfl : args = #[v0, v1, v2] := by cases args; simp_all
  obtain ⟨rfl, rfl⟩ := trodVars_none hV
  obtain ⟨a0_0, a0_1, rfl, w0_0, w0_1⟩ := opens24 (hval 0 24 v0 rfl rfl) h0
  have k0 := h0
  have lt0 : ∀ x ∈ p0, x.block < W.heap.size := by obtain ⟨m, hm⟩ := k0; exact DataW.trod_lt m _ _ _ hm
  obtain ⟨a1_0, a1_1, rfl, w1_0, w1_1⟩ := opens24 (hval 1 24 v1 rfl rfl) h1
  have k1 := h1
  have lt1 : ∀ x ∈ p1, x.block < W.heap.size := by obtain ⟨m, hm⟩ := k1; exact DataW.trod_lt m _ _ _ hm
  obtain ⟨a2_0, a2_1, rfl, w2_0, w2_1⟩ := opens24 (hval 2 24 v2 rfl rfl) h2
  have k2 := h2
  have lt2 : ∀ x ∈ p2, x.block < W.heap.size := by obtain ⟨m, hm⟩ := k2; exact DataW.trod_lt m _ _ _ hm
  clear hA0 hval0 hsz0 hsz
  have hp := Own.law_pure ⟨a0_0, a0_1, by have := bounds w0_0; have := bounds w0_1; omega⟩ ⟨a1_0, a1_1, by have := bounds w1_0; have := bounds w1_1; omega⟩ ⟨a2_0, a2_1, by have := bounds w2_0; have := bounds w2_1; omega⟩ W
  refine hp.mono fun e W' ⟨he, bel⟩ => ?_
  subst he
  exact ⟨_, rfl, _, _, _, [], _, [], hW', trodAll_mk1 (shut_bool Try.underlying4 _), (trodAll_cons_mk (Below.trod laidOut (by kernel_rfl) (of_decide_eq_true (by kernel_rfl)) k0 bel lt0) (trodAll_cons_mk (Below.trod laidOut (by kernel_rfl) (of_decide_eq_true (by kernel_rfl)) k1 bel lt1) (trodAll_cons_mk (Below.trod laidOut (by kernel_rfl) (of_decide_eq_true (by kernel_rfl)) k2 bel lt2) trodAll_mk0))), rfl, bel.frame _, fun h => by cases h⟩
theorem over : Rows.limbOrderRow.holds Try.pinned (OpenSpec.ofChange Rows.limbOrderSpec) :=
  OpenClaim.holds_of_wide 9 Try.f9 rfl rfl rfl rfl rfl rfl rfl ⟨rfl, rfl, rfl, rfl, rfl⟩ rfl rfl rfl rfl rfl (by kernel_rfl) Try.func9 (by kernel_rfl)
    (of_decide_eq_true (by kernel_rfl)) (by unfold Func.isWrapper; first | (rw [if_pos (by decide +kernel)]; kernel_rfl) | (rw [if_neg (by decide +kernel)]; exact ⟨rfl, rfl⟩))
    (fun os started H enc _ => lifted os started H enc)
theorem proved : Rows.LimbOrderSaid := over
#print axioms proved
end Go.Proofs.Ytlpdongckcaclaa.limbOrder
namespace Go.Proofs.Ytlpdongckcaclaa
/-- The row, under a short name, for the claim. -/
theorem limbOrder_holds : Rows.LimbOrderSaid := limbOrder.proved
end Go.Proofs.Ytlpdongckcaclaa
