/- In whatever order bodies stand: no body at all. -/
import Derived.Test.YtedfbamihjnhhaaLoX
namespace Go.Proofs.Ytedfbamihjnhhaa.Own
open Go Go.RowKit Go.Proofs Go.Proofs.Ytedfbamihjnhhaa.Plain
set_option linter.unusedVariables false
set_option linter.unusedSimpArgs false
set_option maxRecDepth 100000
def loCfg0 (b : Cfg) : Cfg := { P := b.P, X := b.X, H := hSum (ats 0), G := gX b.P loVl [] [], D := dS (loDs 0 false), E := b.E, S := b.S, L := fun _ _ _ _ _ _ => none }
set_option maxHeartbeats 4000000 in
theorem lo_run0 : (evF (loCfg0 bW) 300 4 loA [] [] 0).map (·.1) = some (.one (.bool true)) := by kernel_rfl
theorem lo_none {len cap : Nat} {a : Option Addr} {how t : Int} {w : World} (hhow : 0 ≤ how ∧ how ≤ 255) (h0 : 0 ≤ t ∧ t ≤ 255) (h4 : len < 4) :
    Calls Try.prog 4 #[.slice a len cap, .int .u8 how, .int .u8 t] w fun e w' => e = .returned (.bool true) ∧ Below w.heap.size w w' := by
  let q : SumE := ⟨fun i => if i = 200 then how else if i = 201 then t else 0, (len : Int), fun i => if i = 0 then .slice a len cap else .bool false, fun i => by by_cases h : i = 0 <;> simp [h, oneC]⟩
  have hd : Knows (q.env 0) (loDs 0 false) := loD_ok (len := len) rfl (by omega) (by decide) (by omega) (decide_eq_false (by omega))
  have ok : OK (loCfg0 bW) (eV (q.env 0)) [] := ⟨⟨eS_one _, (q.env 0).pv1⟩, fun σ hx f vs v us h1 h2 => bW_ok.x (eV (q.env 0)) [] σ hx f vs v us h1 h2, fun σ hx f vs v us h1 h2 => hSum_ok awake22_pure σ f vs v us h1 h2,
    fun σ hx o vs us v h1 h2 => gX_ok (vl := loVl) (vi := []) (ks := []) (σ0 := [])
      (fun i x h => by
        have hm := lookN_mem h
        simp only [loVl, List.mem_singleton, Prod.mk.injEq] at hm
        obtain ⟨rfl, rfl⟩ := hm
        refine ⟨_, _, _, rfl, ?_⟩
        show IntKind.i64.wrap (len : Int) = _
        rw [i64_in _ (by omega)])
      (fun i key cnt h => by cases h) (fun x k n h => by cases h) hx h1 h2,
    fun x bb h => dS_ok hd x bb h, fun _ _ _ _ _ _ _ _ _ _ _ h => (by cases h), bW_ok.mixed⟩
  have ivv : ∀ (k : Nat) (y : Int), q.iv k = y → k ≠ 202 → 0 ≤ y ∧ y ≤ 255 → eS (q.env 0) (.ivar .u8 k) = .int .u8 y := fun k y hy hk hb => by
    have e : (q.env 0).iv k = y := by show (if k = 202 then q.len else q.iv k) = y; rw [if_neg hk, hy]
    simp only [eS, SE.ty, SE.val, e]
    rw [IntKind.wrap_u8']
    congr 1
    omega
  refine calls_ev (c := loCfg0 bW) (σ0 := []) (nx := 0) (F := []) ok rfl FR.nil lo_run0 ?_ (.one .bool)
  have r1 := rel_opq (σ := []) (E := q.env 0) (.ivar .u8 200)
  have r2 := rel_opq (σ := []) (E := q.env 0) (.ivar .u8 201)
  rw [ivv 200 how rfl (by decide) hhow] at r1
  rw [ivv 201 t rfl (by decide) h0] at r2
  exact .cons (.one (.val (e := eV (q.env 0)) (i := 0) rfl)) (.cons (.one r1) (.cons (.one r2) .nil))
end Go.Proofs.Ytedfbamihjnhhaa.Own
