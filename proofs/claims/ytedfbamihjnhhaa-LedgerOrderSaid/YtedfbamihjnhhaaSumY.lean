/- Sums of bodies by numbers: the hook's contracts. -/
import Derived.Test.YtedfbamihjnhhaaSumX
import Derived.Test.YtedfbamihjnhhaaRefY
namespace Go.Proofs.Ytedfbamihjnhhaa.Own
open Go Go.RowKit Go.Proofs Go.Proofs.Ytedfbamihjnhhaa.Plain
set_option linter.unusedVariables false
set_option linter.unusedSimpArgs false
set_option maxRecDepth 100000
section
variable {q : SumE} {n : Nat} {σ : List (Nat × Nat × Nat)}
theorem sum_app {A : List Nat} (h : A.all (fun i => Nat.ble i 1000) = true) : eS (q.env n) (.app 900 0 (some .i64) (enco A)) = .int .i64 (Fx.of ((A.map (vAt q n)).sum)).hi ∧ eS (q.env n) (.app 900 1 (some .u64) (enco A)) = .int .u64 (Fx.of ((A.map (vAt q n)).sum)).lo := by
  have e : ((enco A).vals (q.env n)).map (fun j => vAt q n j.toNat) = A.map (vAt q n) := by
    rw [enco_vals h, List.map_map]
    apply List.map_congr_left
    intro i _
    rfl
  have hb := (Fx.of ((A.map (vAt q n)).sum)).b
  constructor
  · show Value.int .i64 (IntKind.i64.wrap (Fx.of ((((enco A).vals (q.env n)).map fun j => vAt q n j.toNat).sum)).hi) = _
    rw [e, i64_in _ (by omega)]
  · show Value.int .u64 (IntKind.u64.wrap (Fx.of ((((enco A).vals (q.env n)).map fun j => vAt q n j.toNat).sum)).lo) = _
    rw [e, IntKind.wrap_u64, Int.emod_eq_of_lt hb.2.2.1 hb.2.2.2]
theorem sum_n {A : List Nat} (h : A.length ≤ 16) : (Fx.of ((A.map (vAt q n)).sum)).n = (A.map (vAt q n)).sum := by
  have := sum_small (vAt_small q n) A
  have h2 : (A.length : Int) ≤ 16 := by omega
  exact Fx.of_n _ (by omega)
theorem toSum_rel {h l : C} {A : List Nat} {u v : Value} (ht : toSum (ats n) h l = some A) (hu : RelC (eV (q.env n)) σ h u) (hv : RelC (eV (q.env n)) σ l v) : ∃ a : Fx, u = .int .i64 a.hi ∧ v = .int .u64 a.lo ∧ a.n = (A.map (vAt q n)).sum ∧ A.length ≤ 16 := by
  unfold toSum at ht
  cases hz : isZ h l with
  | true =>
    rw [hz, cond_true] at ht; cases ht
    unfold isZ at hz
    split at hz
    · rename_i x y
      simp only [Bool.and_eq_true, decide_eq_true_eq] at hz
      obtain ⟨rfl, rfl⟩ := hz
      cases hu; cases hv
      exact ⟨⟨0, 0, by decide⟩, rfl, rfl, by kernel_rfl, by decide⟩
    · cases hz
  | false =>
    rw [hz, cond_false] at ht
    split at ht
    · rename_i L L'
      cases hb : decide (L = L') with
      | false => rw [hb, cond_false] at ht; cases ht
      | true =>
        rw [hb, cond_true] at ht
        have := of_decide_eq_true hb
        subst this
        split at ht
        · rename_i A' hd
          cases hc : (Nat.ble A'.length 16 && A'.all (fun i => Nat.ble i 1000)) with
          | false => rw [hc, cond_false] at ht; cases ht
          | true =>
            rw [hc, cond_true] at ht; cases ht
            simp only [Bool.and_eq_true] at hc
            have h16 := Nat.le_of_ble_eq_true hc.1
            have hL := deco_enco hd
            subst hL
            obtain ⟨e1, e2⟩ := sum_app (q := q) (n := n) hc.2
            cases hu; cases hv
            exact ⟨Fx.of ((A.map (vAt q n)).sum), e1, e2, sum_n h16, h16⟩
        · cases ht
    · split at ht
      · rename_i i hf
        cases ht
        obtain ⟨_, hg⟩ := findAt_get hf
        rw [Nat.sub_zero] at hg
        have hm := List.mem_of_getElem? hg
        obtain ⟨k1, k2, _⟩ := ats_ok q n (h, l) hm
        obtain ⟨e1, e2⟩ := ats_env q n n (h, l) hm
        obtain ⟨r1, i1⟩ := cellOK_rel (E := q.env n) (σ := σ) k1
        obtain ⟨r2, i2⟩ := cellOK_rel (E := q.env n) (σ := σ) k2
        have b1 : -9223372036854775808 ≤ valC (q.env n) h ∧ valC (q.env n) h < 9223372036854775808 := inK_i64 i1
        have b2 : 0 ≤ valC (q.env n) l ∧ valC (q.env n) l < 18446744073709551616 := inK_u64 i2
        refine ⟨⟨valC (q.env n) h, valC (q.env n) l, by omega⟩, hu.det r1, hv.det r2, ?_, by simp⟩
        simp only [List.map_cons, List.map_nil, List.sum_cons, List.sum_nil, Int.add_zero, Fx.n, vAt, hg]
        have e1 : valC (q.env n) h = valC q.base h := e1
        have e2 : valC (q.env n) l = valC q.base l := e2
        rw [e1, e2]
      · cases ht
theorem hAdd_rel {vs : List V} {us : List Value} {L : SE} (h : hAdd (ats n) vs = some L) (hus : RelVs (eV (q.env n)) σ vs us) :
    ∃ (a b : Fx) (S : List Nat), us = [a.v, b.v] ∧ L = enco S ∧ S.all (fun i => Nat.ble i 1000) = true ∧ a.n + b.n = (S.map (vAt q n)).sum ∧ (-18889465931478580854784 * 17 ≤ a.n ∧ a.n ≤ 18889465931478580854784 * 17) ∧ (-18889465931478580854784 * 17 ≤ b.n ∧ b.n ≤ 18889465931478580854784 * 17) := by
  unfold hAdd at h
  split at h
  · rename_i h1 l1 h2 l2
    split at h
    · rename_i A B hA hB
      cases hc : (Nat.ble (merS A B).length 16 && (merS A B).all (fun i => Nat.ble i 1000)) with
      | false => rw [hc, cond_false] at h; cases h
      | true =>
        rw [hc, cond_true] at h; cases h
        simp only [Bool.and_eq_true] at hc
        cases hus with | cons r1 t => cases t with | cons r2 t => cases t with | nil =>
        obtain ⟨x1, y1, rfl⟩ := iv_agg r1
        obtain ⟨x2, y2, rfl⟩ := iv_agg r2
        cases y1 with | cons c1 t => cases t with | cons c2 t => cases t with | nil =>
        cases y2 with | cons c3 t => cases t with | cons c4 t => cases t with | nil =>
        obtain ⟨a, rfl, rfl, ea, la⟩ := toSum_rel hA c1 c2
        obtain ⟨b, rfl, rfl, eb, lb⟩ := toSum_rel hB c3 c4
        have sa := sum_small (vAt_small q n) A
        have sb := sum_small (vAt_small q n) B
        have la' : (A.length : Int) ≤ 16 := by omega
        have lb' : (B.length : Int) ≤ 16 := by omega
        exact ⟨a, b, merS A B, rfl, rfl, hc.2, by rw [merS_sum, ea, eb], by omega, by omega⟩
    · cases h
  · cases h
end
theorem hSum_ok {q : SumE} {n : Nat} (ha : Pure Try.prog 11 #[] (.bool true)) : HookOK Try.prog (q.env n) (hSum (ats n)) := by
  intro σ f vs v us h hus
  unfold hSum at h
  cases b1 : Nat.beq f 29 with
  | true =>
    rw [b1, cond_true] at h
    have := Nat.eq_of_beq_eq_true b1
    subst this
    refine ⟨fn rfl, ?_⟩
    split at h
    · rename_i L hL; cases h
      obtain ⟨a, b, S, rfl, rfl, hs, hn, s1, s2⟩ := hAdd_rel hL hus
      obtain ⟨e1, e2⟩ := sum_app (q := q) (n := n) hs
      have hp := fadd_pure a b
      rw [fadd_small s1 s2, hn] at hp
      refine ⟨_, ?_, hp⟩
      have r1 := rel_opq (σ := σ) (E := q.env n) (.app 900 0 (some .i64) (enco S))
      have r2 := rel_opq (σ := σ) (E := q.env n) (.app 900 1 (some .u64) (enco S))
      rw [e1] at r1
      rw [e2] at r2
      exact .tup (.cons (.agg (.cons r1 (.cons r2 .nil))) (.cons (.one .int) .nil))
    · cases h
  | false =>
    rw [b1, cond_false] at h
    cases b2 : Nat.beq f 19 with
    | true =>
      rw [b2, cond_true] at h
      have := Nat.eq_of_beq_eq_true b2
      subst this
      refine ⟨fn rfl, ?_⟩
      split at h
      · rename_i L hL; cases h
        obtain ⟨a, b, S, rfl, rfl, hs, hn, s1, s2⟩ := hAdd_rel hL hus
        obtain ⟨e1, e2⟩ := sum_app (q := q) (n := n) hs
        have hp := radd_pure a b
        rw [radd_eq a b (by omega) (by omega), fadd_small s1 s2, hn] at hp
        refine ⟨_, ?_, hp⟩
        have r1 := rel_opq (σ := σ) (E := q.env n) (.app 900 0 (some .i64) (enco S))
        have r2 := rel_opq (σ := σ) (E := q.env n) (.app 900 1 (some .u64) (enco S))
        rw [e1] at r1
        rw [e2] at r2
        exact .agg (.cons r1 (.cons r2 (.cons .int .nil)))
      · cases h
    | false =>
      rw [b2, cond_false] at h
      cases b3 : Nat.beq f 11 with
      | true =>
        rw [b3, cond_true] at h
        have := Nat.eq_of_beq_eq_true b3
        subst this
        split at h
        · cases h; cases hus; exact ⟨fn rfl, _, .one .bool, ha⟩
        · cases h
      | false => rw [b3, cond_false] at h; cases h
theorem awake22_pure : Pure Try.prog 11 #[] (.bool true) := pure_ev (c := cf0) (d := 300) (vs := []) (v := .one (.bool true)) ok0 (by kernel_rfl) .nil (.one .bool)
end Go.Proofs.Ytedfbamihjnhhaa.Own
