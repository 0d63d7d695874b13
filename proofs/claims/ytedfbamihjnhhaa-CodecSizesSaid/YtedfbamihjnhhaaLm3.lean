/- Contracts of loops that go through lists: found by program, checked by the kernel. -/
import Derived.Test.YtedfbamihjnhhaaLm2
import Derived.Test.YtedfbamihjnhhaaFvJ
namespace Go.Proofs.Ytedfbamihjnhhaa.Own
open Go Go.RowKit Go.Proofs
set_option linter.unusedVariables false
set_option maxRecDepth 100000
def boS : List (Nat × V) := [(0, (.one (.sli 0 (.lvar 0)))), (5, (.one (.sli 1 (.lvar 1)))), (1, (.one (.int .i64 5))), (6, (.one (.opq (.ivar .i64 2)))), (4, (.any 4))]
def boM : MB := [(1, [(.big (.lvar 1) [some .i64, some .u64, some .i64, some .u64, some .i64, some .u64, some .i64, some .u64, some .i64, some .u64, some .i64, some .u64, some .i64, some .u64, some .i64, some .u64, some .i64, some .u64, some .i64, some .i64])], 53, true)]
def boF : MB := [(0, [(.big (.lvar 0) [some .u8])], 5, false)]
def boT : RT := (.ask (.cmp .lss (.bin .add .i64 (.ivar .i64 2) (.lit .i64 3)) (.len (.lvar 0))) (.ask (.cmp .lss (.len (.lvar 1)) (.lit .i64 5)) (.know (.cmp .geq (.ivar .i64 2) (.lit .i64 0)) true (.know (.cmp .lss (.ivar .i64 2) (.len (.lvar 0))) true (.know (.cmp .geq (.bin .add .i64 (.ivar .i64 2) (.lit .i64 1)) (.lit .i64 0)) true (.know (.cmp .lss (.bin .add .i64 (.ivar .i64 2) (.lit .i64 1)) (.len (.lvar 0))) true (.know (.cmp .geq (.bin .add .i64 (.ivar .i64 2) (.lit .i64 2)) (.lit .i64 0)) true (.know (.cmp .lss (.bin .add .i64 (.ivar .i64 2) (.lit .i64 2)) (.len (.lvar 0))) true (.know (.cmp .geq (.bin .add .i64 (.ivar .i64 2) (.lit .i64 3)) (.lit .i64 0)) true (.know (.cmp .leq (.len (.lvar 1)) (.lit .i64 1000000)) true (.next [(.lvar 0), (.lcat (.lvar 1) (.lone (.cons (.app 72 0 (some .i64) (.cons (.el (some .u8) (.lvar 0) (.ivar .i64 2) 0) (.cons (.el (some .u8) (.lvar 0) (.bin .add .i64 (.ivar .i64 2) (.lit .i64 1)) 0) (.cons (.el (some .u8) (.lvar 0) (.bin .add .i64 (.ivar .i64 2) (.lit .i64 2)) 0) (.cons (.el (some .u8) (.lvar 0) (.bin .add .i64 (.ivar .i64 2) (.lit .i64 3)) 0) .nil))))) (.cons (.app 72 1 (some .u64) (.cons (.el (some .u8) (.lvar 0) (.ivar .i64 2) 0) (.cons (.el (some .u8) (.lvar 0) (.bin .add .i64 (.ivar .i64 2) (.lit .i64 1)) 0) (.cons (.el (some .u8) (.lvar 0) (.bin .add .i64 (.ivar .i64 2) (.lit .i64 2)) 0) (.cons (.el (some .u8) (.lvar 0) (.bin .add .i64 (.ivar .i64 2) (.lit .i64 3)) 0) .nil))))) (.cons (.app 72 2 (some .i64) (.cons (.el (some .u8) (.lvar 0) (.ivar .i64 2) 0) (.cons (.el (some .u8) (.lvar 0) (.bin .add .i64 (.ivar .i64 2) (.lit .i64 1)) 0) (.cons (.el (some .u8) (.lvar 0) (.bin .add .i64 (.ivar .i64 2) (.lit .i64 2)) 0) (.cons (.el (some .u8) (.lvar 0) (.bin .add .i64 (.ivar .i64 2) (.lit .i64 3)) 0) .nil))))) (.cons (.app 72 3 (some .u64) (.cons (.el (some .u8) (.lvar 0) (.ivar .i64 2) 0) (.cons (.el (some .u8) (.lvar 0) (.bin .add .i64 (.ivar .i64 2) (.lit .i64 1)) 0) (.cons (.el (some .u8) (.lvar 0) (.bin .add .i64 (.ivar .i64 2) (.lit .i64 2)) 0) (.cons (.el (some .u8) (.lvar 0) (.bin .add .i64 (.ivar .i64 2) (.lit .i64 3)) 0) .nil))))) (.cons (.app 72 4 (some .i64) (.cons (.el (some .u8) (.lvar 0) (.ivar .i64 2) 0) (.cons (.el (some .u8) (.lvar 0) (.bin .add .i64 (.ivar .i64 2) (.lit .i64 1)) 0) (.cons (.el (some .u8) (.lvar 0) (.bin .add .i64 (.ivar .i64 2) (.lit .i64 2)) 0) (.cons (.el (some .u8) (.lvar 0) (.bin .add .i64 (.ivar .i64 2) (.lit .i64 3)) 0) .nil))))) (.cons (.app 72 5 (some .u64) (.cons (.el (some .u8) (.lvar 0) (.ivar .i64 2) 0) (.cons (.el (some .u8) (.lvar 0) (.bin .add .i64 (.ivar .i64 2) (.lit .i64 1)) 0) (.cons (.el (some .u8) (.lvar 0) (.bin .add .i64 (.ivar .i64 2) (.lit .i64 2)) 0) (.cons (.el (some .u8) (.lvar 0) (.bin .add .i64 (.ivar .i64 2) (.lit .i64 3)) 0) .nil))))) (.cons (.app 72 6 (some .i64) (.cons (.el (some .u8) (.lvar 0) (.ivar .i64 2) 0) (.cons (.el (some .u8) (.lvar 0) (.bin .add .i64 (.ivar .i64 2) (.lit .i64 1)) 0) (.cons (.el (some .u8) (.lvar 0) (.bin .add .i64 (.ivar .i64 2) (.lit .i64 2)) 0) (.cons (.el (some .u8) (.lvar 0) (.bin .add .i64 (.ivar .i64 2) (.lit .i64 3)) 0) .nil))))) (.cons (.app 72 7 (some .u64) (.cons (.el (some .u8) (.lvar 0) (.ivar .i64 2) 0) (.cons (.el (some .u8) (.lvar 0) (.bin .add .i64 (.ivar .i64 2) (.lit .i64 1)) 0) (.cons (.el (some .u8) (.lvar 0) (.bin .add .i64 (.ivar .i64 2) (.lit .i64 2)) 0) (.cons (.el (some .u8) (.lvar 0) (.bin .add .i64 (.ivar .i64 2) (.lit .i64 3)) 0) .nil))))) (.cons (.app 72 8 (some .i64) (.cons (.el (some .u8) (.lvar 0) (.ivar .i64 2) 0) (.cons (.el (some .u8) (.lvar 0) (.bin .add .i64 (.ivar .i64 2) (.lit .i64 1)) 0) (.cons (.el (some .u8) (.lvar 0) (.bin .add .i64 (.ivar .i64 2) (.lit .i64 2)) 0) (.cons (.el (some .u8) (.lvar 0) (.bin .add .i64 (.ivar .i64 2) (.lit .i64 3)) 0) .nil))))) (.cons (.app 72 9 (some .u64) (.cons (.el (some .u8) (.lvar 0) (.ivar .i64 2) 0) (.cons (.el (some .u8) (.lvar 0) (.bin .add .i64 (.ivar .i64 2) (.lit .i64 1)) 0) (.cons (.el (some .u8) (.lvar 0) (.bin .add .i64 (.ivar .i64 2) (.lit .i64 2)) 0) (.cons (.el (some .u8) (.lvar 0) (.bin .add .i64 (.ivar .i64 2) (.lit .i64 3)) 0) .nil))))) (.cons (.app 72 10 (some .i64) (.cons (.el (some .u8) (.lvar 0) (.ivar .i64 2) 0) (.cons (.el (some .u8) (.lvar 0) (.bin .add .i64 (.ivar .i64 2) (.lit .i64 1)) 0) (.cons (.el (some .u8) (.lvar 0) (.bin .add .i64 (.ivar .i64 2) (.lit .i64 2)) 0) (.cons (.el (some .u8) (.lvar 0) (.bin .add .i64 (.ivar .i64 2) (.lit .i64 3)) 0) .nil))))) (.cons (.app 72 11 (some .u64) (.cons (.el (some .u8) (.lvar 0) (.ivar .i64 2) 0) (.cons (.el (some .u8) (.lvar 0) (.bin .add .i64 (.ivar .i64 2) (.lit .i64 1)) 0) (.cons (.el (some .u8) (.lvar 0) (.bin .add .i64 (.ivar .i64 2) (.lit .i64 2)) 0) (.cons (.el (some .u8) (.lvar 0) (.bin .add .i64 (.ivar .i64 2) (.lit .i64 3)) 0) .nil))))) (.cons (.app 72 12 (some .i64) (.cons (.el (some .u8) (.lvar 0) (.ivar .i64 2) 0) (.cons (.el (some .u8) (.lvar 0) (.bin .add .i64 (.ivar .i64 2) (.lit .i64 1)) 0) (.cons (.el (some .u8) (.lvar 0) (.bin .add .i64 (.ivar .i64 2) (.lit .i64 2)) 0) (.cons (.el (some .u8) (.lvar 0) (.bin .add .i64 (.ivar .i64 2) (.lit .i64 3)) 0) .nil))))) (.cons (.app 72 13 (some .u64) (.cons (.el (some .u8) (.lvar 0) (.ivar .i64 2) 0) (.cons (.el (some .u8) (.lvar 0) (.bin .add .i64 (.ivar .i64 2) (.lit .i64 1)) 0) (.cons (.el (some .u8) (.lvar 0) (.bin .add .i64 (.ivar .i64 2) (.lit .i64 2)) 0) (.cons (.el (some .u8) (.lvar 0) (.bin .add .i64 (.ivar .i64 2) (.lit .i64 3)) 0) .nil))))) (.cons (.app 72 14 (some .i64) (.cons (.el (some .u8) (.lvar 0) (.ivar .i64 2) 0) (.cons (.el (some .u8) (.lvar 0) (.bin .add .i64 (.ivar .i64 2) (.lit .i64 1)) 0) (.cons (.el (some .u8) (.lvar 0) (.bin .add .i64 (.ivar .i64 2) (.lit .i64 2)) 0) (.cons (.el (some .u8) (.lvar 0) (.bin .add .i64 (.ivar .i64 2) (.lit .i64 3)) 0) .nil))))) (.cons (.app 72 15 (some .u64) (.cons (.el (some .u8) (.lvar 0) (.ivar .i64 2) 0) (.cons (.el (some .u8) (.lvar 0) (.bin .add .i64 (.ivar .i64 2) (.lit .i64 1)) 0) (.cons (.el (some .u8) (.lvar 0) (.bin .add .i64 (.ivar .i64 2) (.lit .i64 2)) 0) (.cons (.el (some .u8) (.lvar 0) (.bin .add .i64 (.ivar .i64 2) (.lit .i64 3)) 0) .nil))))) (.cons (.app 72 16 (some .i64) (.cons (.el (some .u8) (.lvar 0) (.ivar .i64 2) 0) (.cons (.el (some .u8) (.lvar 0) (.bin .add .i64 (.ivar .i64 2) (.lit .i64 1)) 0) (.cons (.el (some .u8) (.lvar 0) (.bin .add .i64 (.ivar .i64 2) (.lit .i64 2)) 0) (.cons (.el (some .u8) (.lvar 0) (.bin .add .i64 (.ivar .i64 2) (.lit .i64 3)) 0) .nil))))) (.cons (.app 72 17 (some .u64) (.cons (.el (some .u8) (.lvar 0) (.ivar .i64 2) 0) (.cons (.el (some .u8) (.lvar 0) (.bin .add .i64 (.ivar .i64 2) (.lit .i64 1)) 0) (.cons (.el (some .u8) (.lvar 0) (.bin .add .i64 (.ivar .i64 2) (.lit .i64 2)) 0) (.cons (.el (some .u8) (.lvar 0) (.bin .add .i64 (.ivar .i64 2) (.lit .i64 3)) 0) .nil))))) (.cons (.app 72 18 (some .i64) (.cons (.el (some .u8) (.lvar 0) (.ivar .i64 2) 0) (.cons (.el (some .u8) (.lvar 0) (.bin .add .i64 (.ivar .i64 2) (.lit .i64 1)) 0) (.cons (.el (some .u8) (.lvar 0) (.bin .add .i64 (.ivar .i64 2) (.lit .i64 2)) 0) (.cons (.el (some .u8) (.lvar 0) (.bin .add .i64 (.ivar .i64 2) (.lit .i64 3)) 0) .nil))))) (.cons (.app 72 19 (some .i64) (.cons (.el (some .u8) (.lvar 0) (.ivar .i64 2) 0) (.cons (.el (some .u8) (.lvar 0) (.bin .add .i64 (.ivar .i64 2) (.lit .i64 1)) 0) (.cons (.el (some .u8) (.lvar 0) (.bin .add .i64 (.ivar .i64 2) (.lit .i64 2)) 0) (.cons (.el (some .u8) (.lvar 0) (.bin .add .i64 (.ivar .i64 2) (.lit .i64 3)) 0) .nil))))) .nil)))))))))))))))))))))), (.bin .add .i64 (.ivar .i64 2) (.lit .i64 4))])))))))))
  (.out 0 [(.lvar 1)]))
  (.out 0 [(.lvar 1)]))
def boL : LEnt := { f := 31, id := 3, num := 20051, nx := 2, S := [(0, (.one (.sli 0 (.lvar 0)))), (1, (.one (.int .i64 5))), (5, (.one .nils)), (6, (.one (.int .i64 0))), (4, (.any 4))], M := [], F := boF, kk := [0], outs := [{ x := (.exit 0), S := [(5, (.one (.sli 1 (.lvar 0)))), (4, (.any 4))], M := [(1, [(.big (.lvar 0) [some .i64, some .u64, some .i64, some .u64, some .i64, some .u64, some .i64, some .u64, some .i64, some .u64, some .i64, some .u64, some .i64, some .u64, some .i64, some .u64, some .i64, some .u64, some .i64, some .i64])], 53, true)], cv := [] }], lv := [(0, 0)], sm := [], pre := [] }
def boI : List SE := [(.lvar 0), .lnil, (.lit .i64 0)]
def boC : List (Nat × Nat × Option (Option IntKind)) := [(0, 0, none)]
def bon : Nat := 44
def kBd : Ks := [some .i64, some .u64, some .i64, some .u64, some .i64, some .u64, some .i64, some .u64, some .i64, some .u64, some .i64, some .u64, some .i64, some .u64, some .i64, some .u64, some .i64, some .u64, some .i64, some .i64]
def rowBd (F : Nat → List Int → List Int) (b0 b1 b2 b3 : Int) : List Int := kBd.zipIdx.map fun p => wrK p.1 ((F 72 [b0, b1, b2, b3]).getD p.2 0)
def isBd (F : Nat → List Int → List Int) (el : List Int) : Prop := ∃ b0 b1 b2 b3 : Int, (0 ≤ b0 ∧ b0 < 256) ∧ (0 ≤ b1 ∧ b1 < 256) ∧ (0 ≤ b2 ∧ b2 < 256) ∧ (0 ≤ b3 ∧ b3 < 256) ∧ el = rowBd F b0 b1 b2 b3
def boJ (F : Nat → List Int → List Int) (l0 : Int) (t : Nat) (xs : List Int) : Prop := xs.getD 0 0 = l0 ∧ (dec l0).length ≤ maxLen ∧ xs.getD 2 0 = ((4 * t : Nat) : Int) ∧ (dec (xs.getD 1 0)).length = t ∧ ∀ el ∈ dec (xs.getD 1 0), isBd F el
noncomputable def boU (xs : List Int) : Nat := 6
noncomputable def boG : (Nat → List Int → List Int) → List Int → List Int := lpFn boI (fun _ => boT) boU
theorem bo_J0 (F : Nat → List Int → List Int) (xs : List Int) (hp : Pre boL F xs) : boJ F (xs.getD 0 0) 0 (boI.map (SE.val (envOf F xs))) := by
 have h1 : (dec (xs.getD 0 0)).length ≤ maxLen := hp.lv (0, 0) (by decide)
 have e : (boI.map (SE.val (envOf F xs))).getD 1 0 = enc [] := by
  show (SE.lnil).val (envOf F xs) = _
  simp only [SE.val]
 refine ⟨?_, h1, ?_, ?_, ?_⟩
 ·show (SE.lvar 0).val (envOf F xs) = _
  simp only [SE.val]; rfl
 ·show (SE.lit .i64 0).val (envOf F xs) = _
  simp only [SE.val]; rfl
 ·rw [e, dec_enc]; rfl
 ·rw [e, dec_enc]; intro el h; cases h
theorem bo_ok1 (F : Nat → List Int → List Int) (l0 : Int) (t : Nat) (xs : List Int) (ht : t ≤ 5) (h : boJ F l0 t xs) : boT.ok (envOf F xs) := by
 obtain ⟨h0, hm, h2, h3, h4⟩ := h
 have hm' : (dec (xs.getD 0 0)).length ≤ maxLen := by rw [h0]; exact hm
 have i0 := iv_at (F := F) h2 (by omega)
 have i1 := add_at (F := F) (k := 1) h2 (by omega)
 have i2 := add_at (F := F) (k := 2) h2 (by omega)
 have i3 := add_at (F := F) (k := 3) h2 (by omega)
 have l := len_at (F := F) rfl hm'
 have l1 := len_at (F := F) h3 (by unfold maxLen; omega)
 have z := lit_at (F := F) (xs := xs) (k := 0) (by omega)
 refine ok_ask fun g1 => ok_ask fun g2 => ?_
 have k1 := of_lss g1 i3 l
 refine ⟨(geq_at i0 z).trans (decide_eq_true (by omega)), (lss_at i0 l).trans (decide_eq_true (by omega)), (geq_at i1 z).trans (decide_eq_true (by omega)), (lss_at i1 l).trans (decide_eq_true (by omega)), (geq_at i2 z).trans (decide_eq_true (by omega)), (lss_at i2 l).trans (decide_eq_true (by omega)), (geq_at i3 z).trans (decide_eq_true (by omega)), (leq_at l1 (lit_at (k := 1000000) (by omega))).trans (decide_eq_true (by omega)), trivial⟩
theorem bo_nx (F : Nat → List Int → List Int) (l0 : Int) : ∀ (t : Nat) (xs ys : List Int), t ≤ 5 → boJ F l0 t xs → boT.get (envOf F xs) = (none, ys) → t < 5 ∧ boJ F l0 (t + 1) ys := fun t xs ys ht h hy => by
 obtain ⟨h0, hm, h2, h3, h4⟩ := h
 have hm' : (dec (xs.getD 0 0)).length ≤ maxLen := by rw [h0]; exact hm
 have i0 := iv_at (F := F) h2 (by omega)
 have i1 := add_at (F := F) (k := 1) h2 (by omega)
 have i2 := add_at (F := F) (k := 2) h2 (by omega)
 have i3 := add_at (F := F) (k := 3) h2 (by omega)
 have i4 := add_at (F := F) (k := 4) h2 (by omega)
 have l1 := len_at (F := F) h3 (by unfold maxLen; omega)
 obtain ⟨g1, hy⟩ := ask_next hy
 obtain ⟨g2, hy⟩ := ask_next hy
 have hy := next_next hy
 have k2 := of_lss g2 l1 (lit_at (k := 5) (by omega))
 subst hy
 refine ⟨k2, ?_, hm, i4, ?_, ?_⟩
 ·show (SE.lvar 0).val (envOf F xs) = _
  simp only [SE.val]; exact h0
 ·show (dec ((SE.lcat (.lvar 1) (.lone _)).val (envOf F xs))).length = _
  rw [lcat_at, dec_enc, List.length_append, h3]; rfl
 ·show ∀ el ∈ dec ((SE.lcat (.lvar 1) (.lone _)).val (envOf F xs)), _
  rw [lcat_at, dec_enc]
  intro el he
  rcases List.mem_append.1 he with he | he
  ·exact h4 el he
  ·have he := List.mem_singleton.1 he
   refine ⟨byt (xs.getD 0 0) (4 * t), byt (xs.getD 0 0) (4 * t + 1), byt (xs.getD 0 0) (4 * t + 2), byt (xs.getD 0 0) (4 * t + 3), byt_in _ _, byt_in _ _, byt_in _ _, byt_in _ _, ?_⟩
   rw [he]
   have e0 := el_byt (F := F) (lv := 0) i0
   have e1 := el_byt (F := F) (lv := 0) i1
   have e2 := el_byt (F := F) (lv := 0) i2
   have e3 := el_byt (F := F) (lv := 0) i3
   have ap : ∀ j k, (SE.app 72 j k (.cons (.el (some .u8) (.lvar 0) (.ivar .i64 2) 0) (.cons (.el (some .u8) (.lvar 0) (.bin .add .i64 (.ivar .i64 2) (.lit .i64 1)) 0) (.cons (.el (some .u8) (.lvar 0) (.bin .add .i64 (.ivar .i64 2) (.lit .i64 2)) 0) (.cons (.el (some .u8) (.lvar 0) (.bin .add .i64 (.ivar .i64 2) (.lit .i64 3)) 0) .nil))))).val (envOf F xs) = wrK k ((F 72 [byt (xs.getD 0 0) (4 * t), byt (xs.getD 0 0) (4 * t + 1), byt (xs.getD 0 0) (4 * t + 2), byt (xs.getD 0 0) (4 * t + 3)]).getD j 0) := fun j k => by
    have v : ∀ a b c d : SE, (SE.app 72 j k (.cons a (.cons b (.cons c (.cons d .nil))))).val (envOf F xs) = wrK k ((F 72 [a.val (envOf F xs), b.val (envOf F xs), c.val (envOf F xs), d.val (envOf F xs)]).getD j 0) := fun a b c d => by simp only [SE.val, SE.vals]; rfl
    rw [v, e0]
    have e1' := e1; have e2' := e2; have e3' := e3
    rw [show (SE.lit .i64 1) = SE.lit .i64 ((1 : Nat) : Int) from rfl, show (SE.lit .i64 2) = SE.lit .i64 ((2 : Nat) : Int) from rfl, show (SE.lit .i64 3) = SE.lit .i64 ((3 : Nat) : Int) from rfl, e1', e2', e3']
   simp only [SE.vals, ap]
   rfl
theorem bo_run (F : Nat → List Int → List Int) (xs : List Int) (hp : Pre boL F xs) : RunOK (fun _ => boT) F 0 (boU xs) (boI.map (SE.val (envOf F xs))) :=
 inv_ok (fun t ys => boJ F (xs.getD 0 0) t ys) 5 (fun t ys ht hj => bo_ok1 F _ t ys ht hj) (bo_nx F _) 6 0 0 _ rfl (by omega) (bo_J0 F xs hp)
theorem bo_val (F : Nat → List Int → List Int) (xs : List Int) (hp : Pre boL F xs) : ∃ ys, boG F xs = 0 :: ys ∧ (dec (ys.getD 0 0)).length ≤ 5 ∧ ∀ el ∈ dec (ys.getD 0 0), isBd F el := by
 obtain ⟨e, ys, h1, h2⟩ := inv_run (F := F) (T := boT) (fun t ys => boJ F (xs.getD 0 0) t ys) 5 (fun e ys => e = 0 ∧ (dec (ys.getD 0 0)).length ≤ 5 ∧ ∀ el ∈ dec (ys.getD 0 0), isBd F el) (bo_nx F _) (fun t zs e ys ht hj hy => by
  obtain ⟨h0, hm, h2, h3, h4⟩ := hj
  have fin : ys = [SE.lvar 1].map (SE.val (envOf F zs)) → (dec (ys.getD 0 0)).length ≤ 5 ∧ ∀ el ∈ dec (ys.getD 0 0), isBd F el := by
   rintro rfl
   have : ([SE.lvar 1].map (SE.val (envOf F zs))).getD 0 0 = zs.getD 1 0 := by
    show (SE.lvar 1).val (envOf F zs) = _
    simp only [SE.val]; rfl
   rw [this, h3]; exact ⟨ht, h4⟩
  rcases ask_out hy with ⟨_, rfl, hz⟩ | ⟨_, hy⟩
  ·exact ⟨rfl, fin hz⟩
  ·rcases ask_out hy with ⟨_, rfl, hz⟩ | ⟨_, hy⟩
   ·exact ⟨rfl, fin hz⟩
   ·exact (next_out hy).elim) 6 0 0 (boI.map (SE.val (envOf F xs))) rfl (by omega) (bo_J0 F xs hp)
 obtain ⟨rfl, h2⟩ := h2
 refine ⟨ys, ?_, h2⟩
 unfold boG lpFn boU
 rw [h1]; rfl
set_option maxHeartbeats 4000000 in
theorem bo_chk : checkR (bW.loops Lm2_L) Lm2_T 300 boL.f bon (bodyOf Try.prog boL.f boL.id) boS boM boL.F boL.nx boS boL.outs boL.kk boT [] = true := by kernel_rfl
theorem bo_ok : LCT Try.prog boL (FT Lm2_T) (boG (FT Lm2_T)) :=
 lct_of (b := bW.loops Lm2_L) (Tb := Lm2_T) (y := boL) (M := boM) (T := fun _ => boT) (S := fun _ => boS) (init := boI) (loops_ok bW_ok _) (lb_of Lm2_lb) Lm2_ok (d := 300) (n := bon) (by kernel_rfl) (by kernel_rfl) (by kernel_rfl) (by kernel_rfl) (fun _ _ _ => bo_chk) (fun xs hp => bo_run _ xs hp)
theorem bo_cst (F : Nat → List Int → List Int) : Cst boL (boG F) := cst_of boC (by kernel_rfl) (fun _ _ _ => by kernel_rfl)
noncomputable def Lm3_Tbo : List Ent := ⟨20051, [], .tup [], boG, true⟩ :: Lm2_T
def Lm3_Lbo : List LEnt := boL :: Lm2_L
theorem Lm3_okbo : TbOK Try.prog Lm3_Tbo := tb_loop Lm2_ok rfl (by kernel_rfl)
theorem Lm3_lbbo : LBs Try.prog Lm3_Lbo Lm3_Tbo := lbs_loop (y := boL) Lm2_lb (by kernel_rfl) (by kernel_rfl) (by kernel_rfl) bo_ok (bo_cst _)
def waS : List (Nat × V) := [(7, (.one (.ptr 0 0))), (8, (.one (.opq (.ivar .i64 8)))), (0, (.any 0)), (1, (.any 1)), (2, (.any 2)), (6, (.any 6)), (9, (.any 9)), (10, (.any 10)), (11, (.any 11)), (12, (.any 12)), (13, (.any 13)), (14, (.any 14)), (15, (.any 15)), (16, (.any 16)), (17, (.any 17)), (18, (.any 18)), (19, (.any 19)), (20, (.any 20)), (21, (.any 21)), (22, (.any 22)), (23, (.any 23)), (24, (.any 24)), (25, (.any 25)), (26, (.any 26)), (27, (.any 27)), (28, (.any 28)), (29, (.any 29)), (30, (.any 30)), (31, (.any 31)), (32, (.any 32)), (33, (.any 33)), (34, (.any 34)), (35, (.any 35)), (36, (.any 36)), (37, (.any 37))]
def waM : MB := [(0, [(.int .i64 0), (.int .i64 0), (.int .u64 1152921504606846976), (.opq (.ivar .i64 0)), (.opq (.ivar .u64 1)), (.int .i64 0), (.int .u64 4611686018427387904), (.int .i64 0), (.opq (.ivar .u64 2)), (.int .i64 0), (.opq (.ivar .u64 3)), (.opq (.ivar .i64 4)), (.opq (.ivar .i64 5)), (.sli 1 (.lvar 6)), .nils, .nils, (.sli 2 (.lvar 7)), (.int .i64 0), (.int .u64 0), (.int .i64 0), (.int .u64 0), (.int .i64 0), (.int .u64 0), .nils], 33, false), (1, [(.big (.lvar 6) [some .i64, some .u64, some .i64, some .u64, some .i64, some .u64, some .i64, some .u64, some .i64, some .u64, some .i64, some .u64, some .i64, some .u64, some .i64, some .u64, some .i64, some .u64, some .i64, some .i64])], 53, true), (2, [(.big (.lvar 7) [some .i64])], 3, true)]
def waF : MB := []
def waT : RT := (.ask (.cmp .lss (.ivar .i64 8) (.len (.lvar 6))) (.know (.cmp .leq (.len (.lvar 7)) (.lit .i64 1000000)) true (.next [(.ivar .i64 0), (.ivar .u64 1), (.ivar .u64 2), (.ivar .u64 3), (.ivar .i64 4), (.ivar .i64 5), (.lvar 6), (.lcat (.lvar 7) (.lone (.cons (.lit .i64 (-1)) .nil))), (.bin .add .i64 (.ivar .i64 8) (.lit .i64 1))]))
  (.out 0 [(.ivar .i64 0), (.ivar .u64 1), (.ivar .u64 2), (.ivar .u64 3), (.ivar .i64 4), (.ivar .i64 5), (.lvar 6), (.lvar 7)]))
def waL : LEnt := { f := 17, id := 4, num := 20052, nx := 3, S := [(7, (.one (.ptr 0 0))), (8, (.one (.int .i64 0))), (0, (.any 0)), (1, (.any 1)), (2, (.any 2)), (6, (.any 6)), (9, (.any 9)), (10, (.any 10)), (11, (.any 11)), (12, (.any 12)), (13, (.any 13)), (14, (.any 14)), (15, (.any 15)), (16, (.any 16)), (17, (.any 17)), (18, (.any 18)), (19, (.any 19)), (20, (.any 20)), (21, (.any 21)), (22, (.any 22)), (23, (.any 23)), (24, (.any 24)), (25, (.any 25)), (26, (.any 26)), (27, (.any 27)), (28, (.any 28)), (29, (.any 29)), (30, (.any 30)), (31, (.any 31)), (32, (.any 32)), (33, (.any 33)), (34, (.any 34)), (35, (.any 35)), (36, (.any 36)), (37, (.any 37))], M := [(0, [(.int .i64 0), (.int .i64 0), (.int .u64 1152921504606846976), (.opq (.ivar .i64 0)), (.opq (.ivar .u64 1)), (.int .i64 0), (.int .u64 4611686018427387904), (.int .i64 0), (.opq (.ivar .u64 2)), (.int .i64 0), (.opq (.ivar .u64 3)), (.opq (.ivar .i64 4)), (.opq (.ivar .i64 5)), (.sli 1 (.lvar 6)), .nils, .nils, .nils, (.int .i64 0), (.int .u64 0), (.int .i64 0), (.int .u64 0), (.int .i64 0), (.int .u64 0), .nils], 33, false), (1, [(.big (.lvar 6) [some .i64, some .u64, some .i64, some .u64, some .i64, some .u64, some .i64, some .u64, some .i64, some .u64, some .i64, some .u64, some .i64, some .u64, some .i64, some .u64, some .i64, some .u64, some .i64, some .i64])], 53, true)], F := waF, kk := [0, 1], outs := [{ x := (.exit 0), S := [(7, (.one (.ptr 0 0))), (0, (.any 0)), (1, (.any 1)), (2, (.any 2)), (6, (.any 6)), (9, (.any 9)), (10, (.any 10)), (11, (.any 11)), (12, (.any 12)), (13, (.any 13)), (14, (.any 14)), (15, (.any 15)), (16, (.any 16)), (17, (.any 17)), (18, (.any 18)), (19, (.any 19)), (20, (.any 20)), (21, (.any 21)), (22, (.any 22)), (23, (.any 23)), (24, (.any 24)), (25, (.any 25)), (26, (.any 26)), (27, (.any 27)), (28, (.any 28)), (29, (.any 29)), (30, (.any 30)), (31, (.any 31)), (32, (.any 32)), (33, (.any 33)), (34, (.any 34)), (35, (.any 35)), (36, (.any 36)), (37, (.any 37))], M := [(0, [(.int .i64 0), (.int .i64 0), (.int .u64 1152921504606846976), (.opq (.ivar .i64 0)), (.opq (.ivar .u64 1)), (.int .i64 0), (.int .u64 4611686018427387904), (.int .i64 0), (.opq (.ivar .u64 2)), (.int .i64 0), (.opq (.ivar .u64 3)), (.opq (.ivar .i64 4)), (.opq (.ivar .i64 5)), (.sli 1 (.lvar 6)), .nils, .nils, (.sli 2 (.lvar 7)), (.int .i64 0), (.int .u64 0), (.int .i64 0), (.int .u64 0), (.int .i64 0), (.int .u64 0), .nils], 33, false), (1, [(.big (.lvar 6) [some .i64, some .u64, some .i64, some .u64, some .i64, some .u64, some .i64, some .u64, some .i64, some .u64, some .i64, some .u64, some .i64, some .u64, some .i64, some .u64, some .i64, some .u64, some .i64, some .i64])], 53, true), (2, [(.big (.lvar 7) [some .i64])], 3, true)], cv := [(0, 0, (some (some .i64))), (1, 1, (some (some .u64))), (2, 2, (some (some .u64))), (3, 3, (some (some .u64))), (4, 4, (some (some .i64))), (5, 5, (some (some .i64))), (6, 6, none)] }], lv := [(1, 6)], sm := [6], pre := [] }
def waI : List SE := [(.ivar .i64 0), (.ivar .u64 1), (.ivar .u64 2), (.ivar .u64 3), (.ivar .i64 4), (.ivar .i64 5), (.lvar 6), .lnil, (.lit .i64 0)]
def waC : List (Nat × Nat × Option (Option IntKind)) := [(0, 0, (some (some .i64))), (1, 1, (some (some .u64))), (2, 2, (some (some .u64))), (3, 3, (some (some .u64))), (4, 4, (some (some .i64))), (5, 5, (some (some .i64))), (6, 6, none)]
def wan : Nat := 51
def waJ (l6 : Int) (t : Nat) (xs : List Int) : Prop := xs.getD 6 0 = l6 ∧ (dec l6).length ≤ 1000000 ∧ xs.getD 8 0 = (t : Int) ∧ dec (xs.getD 7 0) = List.replicate t [-1]
noncomputable def waU (xs : List Int) : Nat := (dec (xs.getD 6 0)).length + 1
noncomputable def waG : (Nat → List Int → List Int) → List Int → List Int := lpFn waI (fun _ => waT) waU
theorem wa_J0 (F : Nat → List Int → List Int) (xs : List Int) (hp : Pre waL F xs) : waJ (xs.getD 6 0) 0 (waI.map (SE.val (envOf F xs))) := by
 have h1 : (dec (xs.getD 6 0)).length ≤ 1000000 := hp.sm 6 (by decide)
 have e : (waI.map (SE.val (envOf F xs))).getD 7 0 = enc [] := by
  show (SE.lnil).val (envOf F xs) = _
  simp only [SE.val]
 refine ⟨?_, h1, ?_, ?_⟩
 ·show (SE.lvar 6).val (envOf F xs) = _
  simp only [SE.val]; rfl
 ·show (SE.lit .i64 0).val (envOf F xs) = _
  simp only [SE.val]; rfl
 ·rw [e, dec_enc]; rfl
theorem wa_ok1 (F : Nat → List Int → List Int) (l6 : Int) (t : Nat) (xs : List Int) (ht : t ≤ (dec l6).length) (h : waJ l6 t xs) : waT.ok (envOf F xs) := by
 obtain ⟨h0, hm, h2, h3⟩ := h
 have l1 := len_at (F := F) (lv := 7) (n := t) (xs := xs) (by rw [h3, List.length_replicate]) (by unfold maxLen; omega)
 refine ok_ask fun g1 => ?_
 exact ⟨(leq_at l1 (lit_at (k := 1000000) (by omega))).trans (decide_eq_true (by omega)), trivial⟩
theorem wa_nx (F : Nat → List Int → List Int) (l6 : Int) : ∀ (t : Nat) (xs ys : List Int), t ≤ (dec l6).length → waJ l6 t xs → waT.get (envOf F xs) = (none, ys) → t < (dec l6).length ∧ waJ l6 (t + 1) ys := fun t xs ys ht h hy => by
 obtain ⟨h0, hm, h2, h3⟩ := h
 have i0 := iv_at (F := F) h2 (by omega)
 have i1 := add_at (F := F) (k := 1) h2 (by omega)
 have l := len_at (F := F) (lv := 6) (n := (dec l6).length) (xs := xs) (by rw [h0]) (by unfold maxLen; omega)
 obtain ⟨g1, hy⟩ := ask_next hy
 have hy := next_next hy
 have k1 := of_lss g1 i0 l
 subst hy
 refine ⟨k1, ?_, hm, i1, ?_⟩
 ·show (SE.lvar 6).val (envOf F xs) = _
  simp only [SE.val]; exact h0
 ·show dec ((SE.lcat (.lvar 7) (.lone _)).val (envOf F xs)) = _
  rw [lcat_at, dec_enc, h3, List.replicate_succ']
  simp only [SE.vals, SE.val]; rfl
theorem wa_run (F : Nat → List Int → List Int) (xs : List Int) (hp : Pre waL F xs) : RunOK (fun _ => waT) F 0 (waU xs) (waI.map (SE.val (envOf F xs))) :=
 inv_ok (fun t ys => waJ (xs.getD 6 0) t ys) (dec (xs.getD 6 0)).length (fun t ys ht hj => wa_ok1 F _ t ys ht hj) (wa_nx F _) _ 0 0 _ (Nat.zero_add _) (Nat.succ_pos _) (wa_J0 F xs hp)
theorem wa_val (F : Nat → List Int → List Int) (xs : List Int) (hp : Pre waL F xs) : ∃ ys, waG F xs = 0 :: ys ∧ dec (ys.getD 7 0) = List.replicate (dec (xs.getD 6 0)).length [-1] := by
 obtain ⟨e, ys, h1, h2⟩ := inv_run (F := F) (T := waT) (fun t ys => waJ (xs.getD 6 0) t ys) (dec (xs.getD 6 0)).length (fun e ys => e = 0 ∧ dec (ys.getD 7 0) = List.replicate (dec (xs.getD 6 0)).length [-1]) (wa_nx F _) (fun t zs e ys ht hj hy => by
  obtain ⟨h0, hm, h2, h3⟩ := hj
  have i0 := iv_at (F := F) h2 (by omega)
  have l := len_at (F := F) (lv := 6) (n := (dec (xs.getD 6 0)).length) (xs := zs) (by rw [h0]) (by unfold maxLen; omega)
  rcases ask_out hy with ⟨g, rfl, hz⟩ | ⟨_, hy⟩
  ·rw [lss_at i0 l] at g
   have g := of_decide_eq_false g
   subst hz
   refine ⟨rfl, ?_⟩
   show dec ((SE.lvar 7).val (envOf F zs)) = _
   have : (SE.lvar 7).val (envOf F zs) = zs.getD 7 0 := by simp only [SE.val]; rfl
   rw [this, h3, show t = (dec (xs.getD 6 0)).length by omega]
  ·exact (next_out hy).elim) _ 0 0 (waI.map (SE.val (envOf F xs))) (Nat.zero_add _) (Nat.succ_pos _) (wa_J0 F xs hp)
 obtain ⟨rfl, h2⟩ := h2
 refine ⟨ys, ?_, h2⟩
 unfold waG lpFn waU
 rw [h1]; rfl
set_option maxHeartbeats 4000000 in
theorem wa_chk : checkR (bW.loops Lm3_Lbo) Lm3_Tbo 300 waL.f wan (bodyOf Try.prog waL.f waL.id) waS waM waL.F waL.nx waS waL.outs waL.kk waT [] = true := by kernel_rfl
theorem wa_ok : LCT Try.prog waL (FT Lm3_Tbo) (waG (FT Lm3_Tbo)) :=
 lct_of (b := bW.loops Lm3_Lbo) (Tb := Lm3_Tbo) (y := waL) (M := waM) (T := fun _ => waT) (S := fun _ => waS) (init := waI) (loops_ok bW_ok _) (lb_of Lm3_lbbo) Lm3_okbo (d := 300) (n := wan) (by kernel_rfl) (by kernel_rfl) (by kernel_rfl) (by kernel_rfl) (fun _ _ _ => wa_chk) (fun xs hp => wa_run _ xs hp)
theorem wa_cst (F : Nat → List Int → List Int) : Cst waL (waG F) := cst_of waC (by kernel_rfl) (fun _ _ _ => by kernel_rfl)
noncomputable def Lm3_Twa : List Ent := ⟨20052, [], .tup [], waG, true⟩ :: Lm3_Tbo
def Lm3_Lwa : List LEnt := waL :: Lm3_Lbo
theorem Lm3_okwa : TbOK Try.prog Lm3_Twa := tb_loop Lm3_okbo rfl (by kernel_rfl)
theorem Lm3_lbwa : LBs Try.prog Lm3_Lwa Lm3_Twa := lbs_loop (y := waL) Lm3_lbbo (by kernel_rfl) (by kernel_rfl) (by kernel_rfl) wa_ok (wa_cst _)
noncomputable def Lm3_T : List Ent := Lm3_Twa
def Lm3_L : List LEnt := Lm3_Lwa
theorem Lm3_ok : TbOK Try.prog Lm3_T := Lm3_okwa
theorem Lm3_lb : LBs Try.prog Lm3_L Lm3_T := Lm3_lbwa
end Go.Proofs.Ytedfbamihjnhhaa.Own
