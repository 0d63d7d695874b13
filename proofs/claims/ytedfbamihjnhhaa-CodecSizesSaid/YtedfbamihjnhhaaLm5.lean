/- Contracts of loops that go through lists: found by program, checked by the kernel. -/
import Derived.Test.YtedfbamihjnhhaaLm4
import Derived.Test.YtedfbamihjnhhaaFvJ
namespace Go.Proofs.Ytedfbamihjnhhaa.Own
open Go Go.RowKit Go.Proofs
set_option linter.unusedVariables false
set_option maxRecDepth 100000
def twS : List (Nat × V) := [(3, (.one (.sli 0 (.lvar 0)))), (9, (.one (.ptr 1 0))), (11, (.one (.opq (.ivar .i64 11)))), (10, (.one (.opq (.len (.lvar 7))))), (0, (.any 0)), (1, (.any 1)), (2, (.any 2)), (8, (.any 8)), (14, (.any 14)), (15, (.any 15)), (16, (.any 16)), (17, (.any 17)), (18, (.any 18)), (19, (.any 19)), (20, (.any 20))]
def twM : MB := [(1, [(.int .i64 0), (.int .i64 0), (.int .u64 1152921504606846976), (.opq (.ivar .i64 1)), (.opq (.ivar .u64 2)), (.int .i64 0), (.int .u64 4611686018427387904), (.int .i64 0), (.opq (.ivar .u64 3)), (.int .i64 0), (.opq (.ivar .u64 4)), (.opq (.ivar .i64 5)), (.opq (.ivar .i64 6)), (.sli 2 (.lvar 7)), (.sli 4 (.lvar 8)), .nils, (.sli 3 (.lvar 9)), (.int .i64 0), (.int .u64 0), (.int .i64 0), (.int .u64 0), (.int .i64 0), (.int .u64 0), .nils], 33, false), (2, [(.big (.lvar 10) [some .i64, some .u64, some .i64, some .u64, some .i64, some .u64, some .i64, some .u64, some .i64, some .u64, some .i64, some .u64, some .i64, some .u64, some .i64, some .u64, some .i64, some .u64, some .i64, some .i64])], 53, true), (3, [(.big (.lvar 9) [some .i64])], 3, true), (4, [(.big (.lvar 8) [some .i64, some .i64, some .i64, some .u64, some .i64, some .u64])], 66, true)]
def twF : MB := [(0, [(.big (.lvar 0) [some .u8])], 5, false)]
def twT : RT := (.ask (.cmp .lss (.bin .add .i64 (.ivar .i64 11) (.lit .i64 2)) (.len (.lvar 0))) (.ask (.cmp .gtr (.len (.lvar 7)) (.lit .i64 1)) (.ask (.cmp .lss (.len (.lvar 8)) (.lit .i64 10)) (.know (.cmp .geq (.ivar .i64 11) (.lit .i64 0)) true (.know (.cmp .lss (.ivar .i64 11) (.len (.lvar 0))) true (.know (.cmp .gtr (.len (.lvar 7)) (.lit .i64 0)) true (.know (.cmp .geq (.bin .add .i64 (.ivar .i64 11) (.lit .i64 1)) (.lit .i64 0)) true (.know (.cmp .lss (.bin .add .i64 (.ivar .i64 11) (.lit .i64 1)) (.len (.lvar 0))) true (.know (.cmp .gtr (.bin .sub .i64 (.len (.lvar 7)) (.lit .i64 1)) (.lit .i64 0)) true (.know (.cmp .geq (.bin .add .i64 (.ivar .i64 11) (.lit .i64 2)) (.lit .i64 0)) true (.know (.cmp .leq (.len (.lvar 8)) (.lit .i64 1000000)) true (.next [(.lvar 0), (.ivar .i64 1), (.ivar .u64 2), (.ivar .u64 3), (.ivar .u64 4), (.ivar .i64 5), (.ivar .i64 6), (.lvar 7), (.lcat (.lvar 8) (.lone (.cons (.bin .rem .i64 (.conv .i64 (.el (some .u8) (.lvar 0) (.ivar .i64 11) 0)) (.len (.lvar 7))) (.cons (.bin .rem .i64 (.bin .add .i64 (.bin .add .i64 (.bin .rem .i64 (.conv .i64 (.el (some .u8) (.lvar 0) (.ivar .i64 11) 0)) (.len (.lvar 7))) (.lit .i64 1)) (.bin .rem .i64 (.conv .i64 (.el (some .u8) (.lvar 0) (.bin .add .i64 (.ivar .i64 11) (.lit .i64 1)) 0)) (.bin .sub .i64 (.len (.lvar 7)) (.lit .i64 1)))) (.len (.lvar 7))) (.cons (.conv .i64 (.bin .rem .u8 (.el (some .u8) (.lvar 0) (.bin .add .i64 (.ivar .i64 11) (.lit .i64 2)) 0) (.lit .u8 4))) (.cons (.lit .u64 2305843009213693952) (.cons (.app 22 0 (some .i64) (.cons (.bin .quo .i64 (.conv .i64 (.el (some .u8) (.lvar 0) (.bin .add .i64 (.ivar .i64 11) (.lit .i64 2)) 0)) (.lit .i64 4)) .nil)) (.cons (.app 22 1 (some .u64) (.cons (.bin .quo .i64 (.conv .i64 (.el (some .u8) (.lvar 0) (.bin .add .i64 (.ivar .i64 11) (.lit .i64 2)) 0)) (.lit .i64 4)) .nil)) .nil)))))))), (.lvar 9), (.lvar 10), (.bin .add .i64 (.ivar .i64 11) (.lit .i64 3))])))))))))
  (.out 0 [(.ivar .i64 1), (.ivar .u64 2), (.ivar .u64 3), (.ivar .u64 4), (.ivar .i64 5), (.ivar .i64 6), (.lvar 7), (.lvar 8), (.lvar 9), (.lvar 10)]))
  (.out 0 [(.ivar .i64 1), (.ivar .u64 2), (.ivar .u64 3), (.ivar .u64 4), (.ivar .i64 5), (.ivar .i64 6), (.lvar 7), (.lvar 8), (.lvar 9), (.lvar 10)]))
  (.out 0 [(.ivar .i64 1), (.ivar .u64 2), (.ivar .u64 3), (.ivar .u64 4), (.ivar .i64 5), (.ivar .i64 6), (.lvar 7), (.lvar 8), (.lvar 9), (.lvar 10)]))
def twL : LEnt := { f := 38, id := 4, num := 20054, nx := 5, S := [(3, (.one (.sli 0 (.lvar 0)))), (9, (.one (.ptr 1 0))), (11, (.one (.int .i64 0))), (10, (.one (.opq (.len (.lvar 7))))), (0, (.any 0)), (1, (.any 1)), (2, (.any 2)), (8, (.any 8)), (14, (.any 14)), (15, (.any 15)), (16, (.any 16)), (17, (.any 17)), (18, (.any 18)), (19, (.any 19)), (20, (.any 20))], M := [(1, [(.int .i64 0), (.int .i64 0), (.int .u64 1152921504606846976), (.opq (.ivar .i64 1)), (.opq (.ivar .u64 2)), (.int .i64 0), (.int .u64 4611686018427387904), (.int .i64 0), (.opq (.ivar .u64 3)), (.int .i64 0), (.opq (.ivar .u64 4)), (.opq (.ivar .i64 5)), (.opq (.ivar .i64 6)), (.sli 2 (.lvar 7)), .nils, .nils, (.sli 3 (.lvar 8)), (.int .i64 0), (.int .u64 0), (.int .i64 0), (.int .u64 0), (.int .i64 0), (.int .u64 0), .nils], 33, false), (2, [(.big (.lvar 9) [some .i64, some .u64, some .i64, some .u64, some .i64, some .u64, some .i64, some .u64, some .i64, some .u64, some .i64, some .u64, some .i64, some .u64, some .i64, some .u64, some .i64, some .u64, some .i64, some .i64])], 53, true), (3, [(.big (.lvar 8) [some .i64])], 3, true)], F := twF, kk := [0, 1, 2, 3], outs := [{ x := (.exit 0), S := [(9, (.one (.ptr 1 0))), (0, (.any 0)), (1, (.any 1)), (2, (.any 2)), (8, (.any 8)), (14, (.any 14)), (15, (.any 15)), (16, (.any 16)), (17, (.any 17)), (18, (.any 18)), (19, (.any 19)), (20, (.any 20))], M := [(1, [(.int .i64 0), (.int .i64 0), (.int .u64 1152921504606846976), (.opq (.ivar .i64 0)), (.opq (.ivar .u64 1)), (.int .i64 0), (.int .u64 4611686018427387904), (.int .i64 0), (.opq (.ivar .u64 2)), (.int .i64 0), (.opq (.ivar .u64 3)), (.opq (.ivar .i64 4)), (.opq (.ivar .i64 5)), (.sli 2 (.lvar 6)), (.sli 4 (.lvar 7)), .nils, (.sli 3 (.lvar 8)), (.int .i64 0), (.int .u64 0), (.int .i64 0), (.int .u64 0), (.int .i64 0), (.int .u64 0), .nils], 33, false), (2, [(.big (.lvar 9) [some .i64, some .u64, some .i64, some .u64, some .i64, some .u64, some .i64, some .u64, some .i64, some .u64, some .i64, some .u64, some .i64, some .u64, some .i64, some .u64, some .i64, some .u64, some .i64, some .i64])], 53, true), (3, [(.big (.lvar 8) [some .i64])], 3, true), (4, [(.big (.lvar 7) [some .i64, some .i64, some .i64, some .u64, some .i64, some .u64])], 66, true)], cv := [(0, 1, (some (some .i64))), (1, 2, (some (some .u64))), (2, 3, (some (some .u64))), (3, 4, (some (some .u64))), (4, 5, (some (some .i64))), (5, 6, (some (some .i64))), (6, 7, none), (8, 8, none), (9, 9, none)] }], lv := [(2, 9), (3, 8), (0, 0)], sm := [], pre := [] }
def twI : List SE := [(.lvar 0), (.ivar .i64 1), (.ivar .u64 2), (.ivar .u64 3), (.ivar .u64 4), (.ivar .i64 5), (.ivar .i64 6), (.lvar 7), .lnil, (.lvar 8), (.lvar 9), (.lit .i64 0)]
def twC : List (Nat × Nat × Option (Option IntKind)) := [(0, 0, none), (1, 1, (some (some .i64))), (2, 2, (some (some .u64))), (3, 3, (some (some .u64))), (4, 4, (some (some .u64))), (5, 5, (some (some .i64))), (6, 6, (some (some .i64))), (7, 7, none), (9, 8, none), (10, 9, none)]
def twn : Nat := 84
def isTe (F : Nat → List Int → List Int) (n : Nat) (el : List Int) : Prop := ∃ a b h q : Int, (0 ≤ a ∧ a < n) ∧ (0 ≤ b ∧ b < n) ∧ a ≠ b ∧ (0 ≤ h ∧ h < 4) ∧ (0 ≤ q ∧ q < 64) ∧ el = [a, b, h, 2305843009213693952, wrK (some .i64) ((F 22 [q]).getD 0 0), wrK (some .u64) ((F 22 [q]).getD 1 0)]
def twJ (F : Nat → List Int → List Int) (l0 l7 : Int) (t : Nat) (xs : List Int) : Prop := xs.getD 0 0 = l0 ∧ (dec l0).length ≤ maxLen ∧ xs.getD 7 0 = l7 ∧ xs.getD 11 0 = ((3 * t : Nat) : Int) ∧ (dec (xs.getD 8 0)).length = t ∧ ∀ el ∈ dec (xs.getD 8 0), isTe F (sat (dec l7).length) el
noncomputable def twU (xs : List Int) : Nat := 11
noncomputable def twG : (Nat → List Int → List Int) → List Int → List Int := lpFn twI (fun _ => twT) twU
theorem sat_le6 (n : Nat) : sat n ≤ 9223372036854775807 := by
 unfold sat
 cases hb : Nat.ble n maxLen with
 | true => rw [cond_true]; have := Nat.le_of_ble_eq_true hb; unfold maxLen at this; exact this
 | false => rw [cond_false]; unfold maxLen; omega
theorem tw_J0 (F : Nat → List Int → List Int) (xs : List Int) (hp : Pre twL F xs) : twJ F (xs.getD 0 0) (xs.getD 7 0) 0 (twI.map (SE.val (envOf F xs))) := by
 have h1 : (dec (xs.getD 0 0)).length ≤ maxLen := hp.lv (0, 0) (by decide)
 have e : (twI.map (SE.val (envOf F xs))).getD 8 0 = enc [] := by
  show (SE.lnil).val (envOf F xs) = _
  simp only [SE.val]
 refine ⟨lvar_at, h1, lvar_at, ?_, ?_, ?_⟩
 ·show (SE.lit .i64 0).val (envOf F xs) = _
  simp only [SE.val]; rfl
 ·rw [e, dec_enc]; rfl
 ·rw [e, dec_enc]; intro el h; cases h
theorem sub1_at {F : Nat → List Int → List Int} {xs : List Int} {n : Nat} (hn : 1 ≤ n) (hm : n ≤ 9223372036854775807) {x : SE} (hx : x.val (envOf F xs) = (n : Int)) : (SE.bin .sub .i64 x (.lit .i64 1)).val (envOf F xs) = ((n - 1 : Nat) : Int) := by
 have e : (SE.bin .sub .i64 x (.lit .i64 1)).val (envOf F xs) = IntKind.i64.wrap (x.val (envOf F xs) - IntKind.i64.wrap 1) := by simp only [SE.val, valBin]
 rw [e, hx]; simp only [IntKind.wrap_i64]; omega
theorem tw_ok1 (F : Nat → List Int → List Int) (l0 l7 : Int) (t : Nat) (xs : List Int) (ht : t ≤ 10) (h : twJ F l0 l7 t xs) : twT.ok (envOf F xs) := by
 obtain ⟨h0, hm, h7, h2, h3, h4⟩ := h
 have hm' : (dec (xs.getD 0 0)).length ≤ maxLen := by rw [h0]; exact hm
 have i0 := iv_at (F := F) h2 (by omega)
 have i1 := add_at (F := F) (k := 1) h2 (by omega)
 have i2 := add_at (F := F) (k := 2) h2 (by omega)
 have l := len_at (F := F) rfl hm'
 have l8 := len_at (F := F) h3 (by unfold maxLen; omega)
 have l7' := len_sat (F := F) (lv := 7) (xs := xs)
 have hs := sat_le6 (dec (xs.getD 7 0)).length
 have z := lit_at (F := F) (xs := xs) (k := 0) (by omega)
 refine ok_ask fun g1 => ok_ask fun g2 => ok_ask fun g3 => ?_
 have k1 := of_lss g1 i2 l
 have k2 := of_gtr g2 l7' (lit_at (k := 1) (by omega))
 have l9 := sub1_at (F := F) (by omega) hs l7'
 exact ⟨(geq_at i0 z).trans (decide_eq_true (by omega)), (lss_at i0 l).trans (decide_eq_true (by omega)), (gtr_at l7' z).trans (decide_eq_true (by omega)), (geq_at i1 z).trans (decide_eq_true (by omega)), (lss_at i1 l).trans (decide_eq_true (by omega)), (gtr_at l9 z).trans (decide_eq_true (by omega)), (geq_at i2 z).trans (decide_eq_true (by omega)), (leq_at l8 (lit_at (k := 1000000) (by omega))).trans (decide_eq_true (by omega)), trivial⟩
theorem te_ab (x y n : Int) (hx : 0 ≤ x ∧ x < 256) (hy : 0 ≤ y ∧ y < 256) (hn : 2 ≤ n ∧ n ≤ 9223372036854775807) :
  ∃ a b, IntKind.i64.wrap ((IntKind.i64.wrap x).tmod n) = a ∧ IntKind.i64.wrap ((IntKind.i64.wrap (IntKind.i64.wrap (a + IntKind.i64.wrap 1) + IntKind.i64.wrap ((IntKind.i64.wrap y).tmod (n - 1)))).tmod n) = b ∧ (0 ≤ a ∧ a < n) ∧ (0 ≤ b ∧ b < n) ∧ a ≠ b := by
 have w : ∀ z : Int, 0 ≤ z → z < 9223372036854775808 → IntKind.i64.wrap z = z := fun z h1 h2 => by rw [IntKind.wrap_i64]; omega
 have a1 : 0 ≤ x % n ∧ x % n < n := ⟨Int.emod_nonneg _ (by omega), Int.emod_lt_of_pos _ (by omega)⟩
 have a2 : x % n ≤ x := by
  have h1 := Int.mul_ediv_add_emod x n
  have h2 : 0 ≤ n * (x / n) := Int.mul_nonneg (by omega) (Int.ediv_nonneg hx.1 (by omega))
  omega
 have b1 : 0 ≤ y % (n - 1) ∧ y % (n - 1) < n - 1 := ⟨Int.emod_nonneg _ (by omega), Int.emod_lt_of_pos _ (by omega)⟩
 have b2 : y % (n - 1) ≤ y := by
  have h1 := Int.mul_ediv_add_emod y (n - 1)
  have h2 : 0 ≤ (n - 1) * (y / (n - 1)) := Int.mul_nonneg (by omega) (Int.ediv_nonneg hy.1 (by omega))
  omega
 refine ⟨x % n, (x % n + 1 + y % (n - 1)) % n, ?_, ?_, a1, ⟨Int.emod_nonneg _ (by omega), Int.emod_lt_of_pos _ (by omega)⟩, ?_⟩
 ·rw [w x hx.1 (by omega), Int.tmod_eq_emod_of_nonneg hx.1, w _ a1.1 (by omega)]
 ·have c1 : 0 ≤ (x % n + 1 + y % (n - 1)) % n ∧ (x % n + 1 + y % (n - 1)) % n < n := ⟨Int.emod_nonneg _ (by omega), Int.emod_lt_of_pos _ (by omega)⟩
  rw [w y hy.1 (by omega), Int.tmod_eq_emod_of_nonneg hy.1, w _ b1.1 (by omega), w 1 (by omega) (by omega), w (x % n + 1) (by omega) (by omega), w (x % n + 1 + y % (n - 1)) (by omega) (by omega), Int.tmod_eq_emod_of_nonneg (by omega), w _ c1.1 (by omega)]
 ·intro q
  generalize x % n = u at *
  generalize y % (n - 1) = v at *
  by_cases h : u + 1 + v < n
  ·rw [Int.emod_eq_of_lt (by omega) h] at q; omega
  ·have : (u + 1 + v) % n = u + 1 + v - n := by
    rw [show u + 1 + v = (u + 1 + v - n) + n by omega, Int.add_emod_right, Int.emod_eq_of_lt (by omega) (by omega)]; omega
   rw [this] at q; omega
theorem tw_nx (F : Nat → List Int → List Int) (l0 l7 : Int) : ∀ (t : Nat) (xs ys : List Int), t ≤ 10 → twJ F l0 l7 t xs → twT.get (envOf F xs) = (none, ys) → t < 10 ∧ twJ F l0 l7 (t + 1) ys := fun t xs ys ht h hy => by
 obtain ⟨h0, hm, h7, h2, h3, h4⟩ := h
 have i0 := iv_at (F := F) h2 (by omega)
 have i1 := add_at (F := F) (k := 1) h2 (by omega)
 have i2 := add_at (F := F) (k := 2) h2 (by omega)
 have i3 := add_at (F := F) (k := 3) h2 (by omega)
 have l8 := len_at (F := F) h3 (by unfold maxLen; omega)
 have l7' := len_sat (F := F) (lv := 7) (xs := xs)
 have hs := sat_le6 (dec (xs.getD 7 0)).length
 obtain ⟨g1, hy⟩ := ask_next hy
 obtain ⟨g2, hy⟩ := ask_next hy
 obtain ⟨g3, hy⟩ := ask_next hy
 have hy := next_next hy
 have k2 := of_gtr g2 l7' (lit_at (k := 1) (by omega))
 have k3 := of_lss g3 l8 (lit_at (k := 10) (by omega))
 subst hy
 refine ⟨k3, (lvar_at (F := F)).trans h0, hm, (lvar_at (F := F)).trans h7, i3, ?_, ?_⟩
 ·show (dec ((SE.lcat (.lvar 8) (.lone _)).val (envOf F xs))).length = _
  rw [lcat_at, dec_enc, List.length_append, h3]; rfl
 ·show ∀ el ∈ dec ((SE.lcat (.lvar 8) (.lone _)).val (envOf F xs)), _
  rw [lcat_at, dec_enc]
  intro el he
  rcases List.mem_append.1 he with he | he
  ·exact h4 el he
  ·have he := List.mem_singleton.1 he
   have e0 := el_byt (F := F) (lv := 0) i0
   have e1 := el_byt (F := F) (lv := 0) i1
   have e2 := el_byt (F := F) (lv := 0) i2
   have l9 := sub1_at (F := F) (by omega) hs l7'
   obtain ⟨a, b, ha, hb, r1, r2, r3⟩ := te_ab (byt (xs.getD 0 0) (3 * t)) (byt (xs.getD 0 0) (3 * t + 1)) (sat (dec (xs.getD 7 0)).length : Nat) (byt_in _ _) (byt_in _ _) (by omega)
   have b2 := byt_in (xs.getD 0 0) (3 * t + 2)
   rw [← h7]
   refine ⟨a, b, byt (xs.getD 0 0) (3 * t + 2) % 4, byt (xs.getD 0 0) (3 * t + 2) / 4, r1, r2, r3, by omega, by omega, ?_⟩
   rw [he]
   have v0 : ∀ x y : SE, (SE.bin .rem .i64 (.conv .i64 x) y).val (envOf F xs) = IntKind.i64.wrap ((IntKind.i64.wrap (x.val (envOf F xs))).tmod (y.val (envOf F xs))) := fun x y => by simp only [SE.val, valBin]
   have v1 : ∀ x y z : SE, (SE.bin .rem .i64 (.bin .add .i64 (.bin .add .i64 x (.lit .i64 1)) y) z).val (envOf F xs) = IntKind.i64.wrap ((IntKind.i64.wrap (IntKind.i64.wrap (x.val (envOf F xs) + IntKind.i64.wrap 1) + y.val (envOf F xs))).tmod (z.val (envOf F xs))) := fun x y z => by simp only [SE.val, valBin]
   have v2 : ∀ x : SE, (SE.conv .i64 (.bin .rem .u8 x (.lit .u8 4))).val (envOf F xs) = IntKind.i64.wrap (IntKind.u8.wrap ((x.val (envOf F xs)).tmod (IntKind.u8.wrap 4))) := fun x => by simp only [SE.val, valBin]
   have v3 : ∀ (x : SE) (j : Nat) (k : Option IntKind), (SE.app 22 j k (.cons (.bin .quo .i64 (.conv .i64 x) (.lit .i64 4)) .nil)).val (envOf F xs) = wrK k ((F 22 [IntKind.i64.wrap ((IntKind.i64.wrap (x.val (envOf F xs))).tdiv (IntKind.i64.wrap 4))]).getD j 0) := fun x j k => by simp only [SE.val, SE.vals, valBin]; rfl
   have c1 : (SE.bin .rem .i64 (.conv .i64 (.el (some .u8) (.lvar 0) (.ivar .i64 11) 0)) (.len (.lvar 7))).val (envOf F xs) = a := by rw [v0, e0, l7']; exact ha
   have i1' : (SE.bin .add .i64 (.ivar .i64 11) (.lit .i64 1)).val (envOf F xs) = ((3 * t + 1 : Nat) : Int) := i1
   have i2' : (SE.bin .add .i64 (.ivar .i64 11) (.lit .i64 2)).val (envOf F xs) = ((3 * t + 2 : Nat) : Int) := i2
   have e1 := el_byt (F := F) (lv := 0) i1'
   have e2 := el_byt (F := F) (lv := 0) i2'
   have q4 : IntKind.i64.wrap (IntKind.u8.wrap ((byt (xs.getD 0 0) (3 * t + 2)).tmod (IntKind.u8.wrap 4))) = byt (xs.getD 0 0) (3 * t + 2) % 4 := by
    rw [show IntKind.u8.wrap 4 = 4 from rfl, Int.tmod_eq_emod_of_nonneg b2.1, IntKind.wrap_u8, IntKind.wrap_i64]; omega
   have q5 : IntKind.i64.wrap ((IntKind.i64.wrap (byt (xs.getD 0 0) (3 * t + 2))).tdiv (IntKind.i64.wrap 4)) = byt (xs.getD 0 0) (3 * t + 2) / 4 := by
    rw [show IntKind.i64.wrap 4 = 4 from rfl, show IntKind.i64.wrap (byt (xs.getD 0 0) (3 * t + 2)) = byt (xs.getD 0 0) (3 * t + 2) by rw [IntKind.wrap_i64]; omega, Int.tdiv_eq_ediv_of_nonneg b2.1, IntKind.wrap_i64]; omega
   have hl9 : ((sat (dec (xs.getD 7 0)).length - 1 : Nat) : Int) = ((sat (dec (xs.getD 7 0)).length : Nat) : Int) - 1 := by omega
   have w5 : (SE.lit .u64 2305843009213693952).val (envOf F xs) = 2305843009213693952 := by simp only [SE.val]; rfl
   simp only [SE.vals, c1, v1, v2, v3, w5, e2, q4, q5]
   rw [v0, e1, l9, l7', hl9, hb]
theorem tw_run (F : Nat → List Int → List Int) (xs : List Int) (hp : Pre twL F xs) : RunOK (fun _ => twT) F 0 (twU xs) (twI.map (SE.val (envOf F xs))) :=
 inv_ok (fun t ys => twJ F (xs.getD 0 0) (xs.getD 7 0) t ys) 10 (fun t ys ht hj => tw_ok1 F _ _ t ys ht hj) (tw_nx F _ _) 11 0 0 _ rfl (by omega) (tw_J0 F xs hp)
theorem tw_val (F : Nat → List Int → List Int) (xs : List Int) (hp : Pre twL F xs) : ∃ ys, twG F xs = 0 :: ys ∧ (dec (ys.getD 7 0)).length ≤ 10 ∧ ∀ el ∈ dec (ys.getD 7 0), isTe F (sat (dec (xs.getD 7 0)).length) el := by
 obtain ⟨e, ys, h1, h2⟩ := inv_run (F := F) (T := twT) (fun t ys => twJ F (xs.getD 0 0) (xs.getD 7 0) t ys) 10 (fun e ys => e = 0 ∧ (dec (ys.getD 7 0)).length ≤ 10 ∧ ∀ el ∈ dec (ys.getD 7 0), isTe F (sat (dec (xs.getD 7 0)).length) el) (tw_nx F _ _) (fun t zs e ys ht hj hy => by
  obtain ⟨h0, hm, h7, h2, h3, h4⟩ := hj
  have fin : ys.getD 7 0 = zs.getD 8 0 → (dec (ys.getD 7 0)).length ≤ 10 ∧ ∀ el ∈ dec (ys.getD 7 0), isTe F (sat (dec (xs.getD 7 0)).length) el := by
   intro q; rw [q, h3]; exact ⟨ht, h4⟩
  rcases ask_out hy with ⟨_, rfl, hz⟩ | ⟨_, hy⟩
  ·exact ⟨rfl, fin (by rw [hz]; exact lvar_at (F := F) (xs := zs) (lv := 8))⟩
  ·rcases ask_out hy with ⟨_, rfl, hz⟩ | ⟨_, hy⟩
   ·exact ⟨rfl, fin (by rw [hz]; exact lvar_at (F := F) (xs := zs) (lv := 8))⟩
   ·rcases ask_out hy with ⟨_, rfl, hz⟩ | ⟨_, hy⟩
    ·exact ⟨rfl, fin (by rw [hz]; exact lvar_at (F := F) (xs := zs) (lv := 8))⟩
    ·exact (next_out hy).elim) 11 0 0 (twI.map (SE.val (envOf F xs))) rfl (by omega) (tw_J0 F xs hp)
 obtain ⟨rfl, h2⟩ := h2
 refine ⟨ys, ?_, h2⟩
 unfold twG lpFn twU
 rw [h1]; rfl
set_option maxHeartbeats 4000000 in
theorem tw_chk : checkR (bW.loops Lm4_L) Lm4_T 300 twL.f twn (bodyOf Try.prog twL.f twL.id) twS twM twL.F twL.nx twS twL.outs twL.kk twT [] = true := by kernel_rfl
theorem tw_ok : LCT Try.prog twL (FT Lm4_T) (twG (FT Lm4_T)) :=
 lct_of (b := bW.loops Lm4_L) (Tb := Lm4_T) (y := twL) (M := twM) (T := fun _ => twT) (S := fun _ => twS) (init := twI) (loops_ok bW_ok _) (lb_of Lm4_lb) Lm4_ok (d := 300) (n := twn) (by kernel_rfl) (by kernel_rfl) (by kernel_rfl) (by kernel_rfl) (fun _ _ _ => tw_chk) (fun xs hp => tw_run _ xs hp)
theorem tw_cst (F : Nat → List Int → List Int) : Cst twL (twG F) := cst_of twC (by kernel_rfl) (fun _ _ _ => by kernel_rfl)
noncomputable def Lm5_Ttw : List Ent := ⟨20054, [], .tup [], twG, true⟩ :: Lm4_T
def Lm5_Ltw : List LEnt := twL :: Lm4_L
theorem Lm5_oktw : TbOK Try.prog Lm5_Ttw := tb_loop Lm4_ok rfl (by kernel_rfl)
theorem Lm5_lbtw : LBs Try.prog Lm5_Ltw Lm5_Ttw := lbs_loop (y := twL) Lm4_lb (by kernel_rfl) (by kernel_rfl) (by kernel_rfl) tw_ok (tw_cst _)
def tlS : List (Nat × V) := [(3, (.one (.sli 0 (.lvar 0)))), (9, (.one (.ptr 1 0))), (10, (.one (.opq (.ivar .i64 10)))), (0, (.any 0)), (1, (.any 1)), (2, (.any 2)), (8, (.any 8)), (11, (.any 11)), (12, (.any 12)), (13, (.any 13)), (14, (.any 14))]
def tlM : MB := [(1, [(.int .i64 0), (.int .i64 0), (.int .u64 1152921504606846976), (.opq (.ivar .i64 1)), (.opq (.ivar .u64 2)), (.int .i64 0), (.int .u64 4611686018427387904), (.int .i64 0), (.opq (.ivar .u64 3)), (.int .i64 0), (.opq (.ivar .u64 4)), (.opq (.ivar .i64 5)), (.opq (.ivar .i64 6)), (.sli 2 (.lvar 7)), .nils, .nils, (.sli 3 (.lvar 8)), (.int .i64 0), (.int .u64 0), (.int .i64 0), (.int .u64 0), (.int .i64 0), (.int .u64 0), .nils], 33, false), (2, [(.big (.lvar 9) [some .i64, some .u64, some .i64, some .u64, some .i64, some .u64, some .i64, some .u64, some .i64, some .u64, some .i64, some .u64, some .i64, some .u64, some .i64, some .u64, some .i64, some .u64, some .i64, some .i64])], 53, true), (3, [(.big (.lvar 8) [some .i64])], 3, true)]
def tlF : MB := [(0, [(.big (.lvar 0) [some .u8])], 5, false)]
def tlT : RT := (.ask (.cmp .lss (.ivar .i64 10) (.len (.lvar 7))) (.ask (.cmp .lss (.ivar .i64 10) (.len (.lvar 0))) (.know (.cmp .geq (.ivar .i64 10) (.lit .i64 0)) true (.know (.cmp .lss (.ivar .i64 10) (.len (.lvar 9))) true (.next [(.lvar 0), (.ivar .i64 1), (.ivar .u64 2), (.ivar .u64 3), (.ivar .u64 4), (.ivar .i64 5), (.ivar .i64 6), (.lvar 7), (.lvar 8), (.lset (.lvar 9) (.ivar .i64 10) 18 (.cons (.bin .rem .i64 (.conv .i64 (.el (some .u8) (.lvar 0) (.ivar .i64 10) 0)) (.lit .i64 101)) .nil)), (.bin .add .i64 (.ivar .i64 10) (.lit .i64 1))])))
  (.out 0 [(.ivar .i64 1), (.ivar .u64 2), (.ivar .u64 3), (.ivar .u64 4), (.ivar .i64 5), (.ivar .i64 6), (.lvar 7), (.lvar 8), (.lvar 9)]))
  (.out 0 [(.ivar .i64 1), (.ivar .u64 2), (.ivar .u64 3), (.ivar .u64 4), (.ivar .i64 5), (.ivar .i64 6), (.lvar 7), (.lvar 8), (.lvar 9)]))
def tlL : LEnt := { f := 39, id := 3, num := 20055, nx := 4, S := [(3, (.one (.sli 0 (.lvar 0)))), (9, (.one (.ptr 1 0))), (10, (.one (.int .i64 0))), (0, (.any 0)), (1, (.any 1)), (2, (.any 2)), (8, (.any 8)), (11, (.any 11)), (12, (.any 12)), (13, (.any 13)), (14, (.any 14))], M := [(1, [(.int .i64 0), (.int .i64 0), (.int .u64 1152921504606846976), (.opq (.ivar .i64 1)), (.opq (.ivar .u64 2)), (.int .i64 0), (.int .u64 4611686018427387904), (.int .i64 0), (.opq (.ivar .u64 3)), (.int .i64 0), (.opq (.ivar .u64 4)), (.opq (.ivar .i64 5)), (.opq (.ivar .i64 6)), (.sli 2 (.lvar 7)), .nils, .nils, (.sli 3 (.lvar 8)), (.int .i64 0), (.int .u64 0), (.int .i64 0), (.int .u64 0), (.int .i64 0), (.int .u64 0), .nils], 33, false), (2, [(.big (.lvar 7) [some .i64, some .u64, some .i64, some .u64, some .i64, some .u64, some .i64, some .u64, some .i64, some .u64, some .i64, some .u64, some .i64, some .u64, some .i64, some .u64, some .i64, some .u64, some .i64, some .i64])], 53, true), (3, [(.big (.lvar 8) [some .i64])], 3, true)], F := tlF, kk := [0, 1, 2, 3], outs := [{ x := (.exit 0), S := [(9, (.one (.ptr 1 0))), (0, (.any 0)), (1, (.any 1)), (2, (.any 2)), (8, (.any 8)), (11, (.any 11)), (12, (.any 12)), (13, (.any 13)), (14, (.any 14))], M := [(1, [(.int .i64 0), (.int .i64 0), (.int .u64 1152921504606846976), (.opq (.ivar .i64 0)), (.opq (.ivar .u64 1)), (.int .i64 0), (.int .u64 4611686018427387904), (.int .i64 0), (.opq (.ivar .u64 2)), (.int .i64 0), (.opq (.ivar .u64 3)), (.opq (.ivar .i64 4)), (.opq (.ivar .i64 5)), (.sli 2 (.lvar 6)), .nils, .nils, (.sli 3 (.lvar 7)), (.int .i64 0), (.int .u64 0), (.int .i64 0), (.int .u64 0), (.int .i64 0), (.int .u64 0), .nils], 33, false), (2, [(.big (.lvar 8) [some .i64, some .u64, some .i64, some .u64, some .i64, some .u64, some .i64, some .u64, some .i64, some .u64, some .i64, some .u64, some .i64, some .u64, some .i64, some .u64, some .i64, some .u64, some .i64, some .i64])], 53, true), (3, [(.big (.lvar 7) [some .i64])], 3, true)], cv := [(0, 1, (some (some .i64))), (1, 2, (some (some .u64))), (2, 3, (some (some .u64))), (3, 4, (some (some .u64))), (4, 5, (some (some .i64))), (5, 6, (some (some .i64))), (6, 7, none), (7, 8, none)] }], lv := [(2, 7), (3, 8), (0, 0)], sm := [7], pre := [] }
def tlI : List SE := [(.lvar 0), (.ivar .i64 1), (.ivar .u64 2), (.ivar .u64 3), (.ivar .u64 4), (.ivar .i64 5), (.ivar .i64 6), (.lvar 7), (.lvar 8), (.lvar 7), (.lit .i64 0)]
def tlC : List (Nat × Nat × Option (Option IntKind)) := [(0, 0, none), (1, 1, (some (some .i64))), (2, 2, (some (some .u64))), (3, 3, (some (some .u64))), (4, 4, (some (some .u64))), (5, 5, (some (some .i64))), (6, 6, (some (some .i64))), (7, 7, none), (8, 8, none)]
def tln : Nat := 40
theorem sat_sm6 {n m : Nat} (h : sat n = m) (hm : m ≤ 1000000) : n = m := by
 unfold sat at h
 cases hb : Nat.ble n maxLen with
 | true => rw [hb, cond_true] at h; exact h
 | false => rw [hb, cond_false] at h; unfold maxLen at h; omega
def ThR (a b : List Int) : Prop := b = a ∨ ∃ c : Int, 0 ≤ c ∧ c ≤ 100 ∧ b = setRow a 18 [c]
theorem setRow_two (a : List Int) (off : Nat) (x y : List Int) (h : x.length = y.length) : setRow (setRow a off x) off y = setRow a off y := by
 unfold setRow
 have hl : ((List.range (max a.length (off + x.length))).map fun j => if off ≤ j ∧ j < off + x.length then x.getD (j - off) 0 else a.getD j 0).length = max a.length (off + x.length) := by simp
 rw [hl, h]
 have hm : max (max a.length (off + y.length)) (off + y.length) = max a.length (off + y.length) := by omega
 rw [hm]
 apply List.map_congr_left
 intro j hj
 have hj := List.mem_range.1 hj
 split
 ·rfl
 ·rename_i hn
  rw [List.getD_eq_getElem?_getD, List.getElem?_map, List.getElem?_range hj]
  simp only [Option.map_some, Option.getD_some]
  rw [if_neg hn]
def tlJ (l0 l7 lb : Int) (t : Nat) (xs : List Int) : Prop := xs.getD 0 0 = l0 ∧ xs.getD 7 0 = l7 ∧ (dec l7).length ≤ 1000000 ∧ (dec lb).length = (dec l7).length ∧ xs.getD 10 0 = (t : Int) ∧ (dec (xs.getD 9 0)).length = (dec l7).length ∧ ∀ j, ThR ((dec lb).getD j []) ((dec (xs.getD 9 0)).getD j [])
noncomputable def tlU (xs : List Int) : Nat := (dec (xs.getD 7 0)).length + 1
noncomputable def tlG : (Nat → List Int → List Int) → List Int → List Int := lpFn tlI (fun _ => tlT) tlU
theorem tl_J0 (F : Nat → List Int → List Int) (xs : List Int) (hp : Pre tlL F xs) : tlJ (xs.getD 0 0) (xs.getD 7 0) (xs.getD 7 0) 0 (tlI.map (SE.val (envOf F xs))) := by
 have h1 : (dec (xs.getD 7 0)).length ≤ 1000000 := hp.sm 7 (by decide)
 have hb : (dec (xs.getD 7 0)).length = (dec (xs.getD 7 0)).length := rfl
 refine ⟨lvar_at, lvar_at, h1, hb, ?_, ?_, ?_⟩
 ·show (SE.lit .i64 0).val (envOf F xs) = _
  simp only [SE.val]; rfl
 ·show (dec ((SE.lvar 7).val (envOf F xs))).length = _
  rw [lvar_at]
  first | done | exact hb
 ·show ∀ j, ThR _ ((dec ((SE.lvar 7).val (envOf F xs))).getD j [])
  rw [lvar_at]; exact fun j => .inl rfl
theorem tl_ok1 (F : Nat → List Int → List Int) (l0 l7 lb : Int) (t : Nat) (xs : List Int) (ht : t ≤ (dec l7).length) (h : tlJ l0 l7 lb t xs) : tlT.ok (envOf F xs) := by
 obtain ⟨h0, h7, hm, hb, h2, h3, h4⟩ := h
 have i0 := iv_at (F := F) h2 (by omega)
 have l := len_at (F := F) (lv := 7) (n := (dec l7).length) (xs := xs) (by rw [h7]) (by unfold maxLen; omega)
 have l8 := len_at (F := F) (lv := 9) (n := (dec l7).length) (xs := xs) h3 (by unfold maxLen; omega)
 refine ok_ask fun g1 => ok_ask fun g2 => ?_
 have k1 := of_lss g1 i0 l
 exact ⟨(geq_at i0 (lit_at (k := 0) (by omega))).trans (decide_eq_true (by omega)), (lss_at i0 l8).trans (decide_eq_true (by omega)), trivial⟩
theorem tl_nx (F : Nat → List Int → List Int) (l0 l7 lb : Int) : ∀ (t : Nat) (xs ys : List Int), t ≤ (dec l7).length → tlJ l0 l7 lb t xs → tlT.get (envOf F xs) = (none, ys) → t < (dec l7).length ∧ tlJ l0 l7 lb (t + 1) ys := fun t xs ys ht h hy => by
 obtain ⟨h0, h7, hm, hb, h2, h3, h4⟩ := h
 have i0 := iv_at (F := F) h2 (by omega)
 have i1 := add_at (F := F) (k := 1) h2 (by omega)
 have l := len_at (F := F) (lv := 7) (n := (dec l7).length) (xs := xs) (by rw [h7]) (by unfold maxLen; omega)
 obtain ⟨g1, hy⟩ := ask_next hy
 obtain ⟨g2, hy⟩ := ask_next hy
 have hy := next_next hy
 have k1 := of_lss g1 i0 l
 subst hy
 have v1 : (SE.cons (.bin .rem .i64 (.conv .i64 (.el (some .u8) (.lvar 0) (.ivar .i64 10) 0)) (.lit .i64 101)) .nil).vals (envOf F xs) = [byt l0 t % 101] := by
  have e := el_byt (F := F) (lv := 0) i0
  have hb := byt_in l0 t
  rw [h0] at e
  have e3 : ∀ x : SE, (SE.cons (.bin .rem .i64 (.conv .i64 x) (.lit .i64 101)) .nil).vals (envOf F xs) = [IntKind.i64.wrap ((IntKind.i64.wrap (x.val (envOf F xs))).tmod (IntKind.i64.wrap 101))] := fun x => by simp only [SE.vals, SE.val, valBin]
  rw [e3, e, show IntKind.i64.wrap 101 = 101 from rfl, show IntKind.i64.wrap (byt l0 t) = byt l0 t by rw [IntKind.wrap_i64]; omega, Int.tmod_eq_emod_of_nonneg hb.1]
  simp only [IntKind.wrap_i64, List.cons.injEq, and_true]; omega
 refine ⟨k1, (lvar_at (F := F)).trans h0, (lvar_at (F := F)).trans h7, hm, hb, i1, ?_, ?_⟩
 ·show (dec ((SE.lset (.lvar 9) (.ivar .i64 10) 18 _).val (envOf F xs))).length = _
  rw [lset_at i0, dec_enc, lvar_at]
  unfold setL; rw [List.length_set]; exact h3
 ·show ∀ j, ThR _ ((dec ((SE.lset (.lvar 9) (.ivar .i64 10) 18 _).val (envOf F xs))).getD j [])
  rw [lset_at i0, dec_enc, lvar_at, v1]
  intro j
  by_cases hj : j = t
  ·subst hj
   rw [setL_at (by omega)]
   rcases h4 j with e | ⟨c, c0, c1, e⟩
   ·rw [e]; exact .inr ⟨_, Int.emod_nonneg _ (by decide), by have := Int.emod_lt_of_pos (byt l0 j) (show (0 : Int) < 101 by decide); omega, rfl⟩
   ·rw [e, setRow_two _ 18 [c] [byt l0 j % 101] rfl]; exact .inr ⟨_, Int.emod_nonneg _ (by decide), by have := Int.emod_lt_of_pos (byt l0 j) (show (0 : Int) < 101 by decide); omega, rfl⟩
  ·rw [setL_ne hj]; exact h4 j
theorem tl_run (F : Nat → List Int → List Int) (xs : List Int) (hp : Pre tlL F xs) : RunOK (fun _ => tlT) F 0 (tlU xs) (tlI.map (SE.val (envOf F xs))) :=
 inv_ok (fun t ys => tlJ (xs.getD 0 0) (xs.getD 7 0) (xs.getD 7 0) t ys) (dec (xs.getD 7 0)).length (fun t ys ht hj => tl_ok1 F _ _ _ t ys ht hj) (tl_nx F _ _ _) _ 0 0 _ (Nat.zero_add _) (Nat.succ_pos _) (tl_J0 F xs hp)
theorem tl_val (F : Nat → List Int → List Int) (xs : List Int) (hp : Pre tlL F xs) : ∃ ys, tlG F xs = 0 :: ys ∧ (dec (ys.getD 8 0)).length = (dec (xs.getD 7 0)).length ∧ ∀ j, ThR ((dec (xs.getD 7 0)).getD j []) ((dec (ys.getD 8 0)).getD j []) := by
 obtain ⟨e, ys, h1, h2⟩ := inv_run (F := F) (T := tlT) (fun t ys => tlJ (xs.getD 0 0) (xs.getD 7 0) (xs.getD 7 0) t ys) (dec (xs.getD 7 0)).length (fun e ys => e = 0 ∧ (dec (ys.getD 8 0)).length = (dec (xs.getD 7 0)).length ∧ ∀ j, ThR ((dec (xs.getD 7 0)).getD j []) ((dec (ys.getD 8 0)).getD j [])) (tl_nx F _ _ _) (fun t zs e ys ht hj hy => by
  obtain ⟨h0, h7, hm, hb, h2, h3, h4⟩ := hj
  have fin : ys.getD 8 0 = zs.getD 9 0 → (dec (ys.getD 8 0)).length = (dec (xs.getD 7 0)).length ∧ ∀ j, ThR ((dec (xs.getD 7 0)).getD j []) ((dec (ys.getD 8 0)).getD j []) := by
   intro q; rw [q]; exact ⟨h3, h4⟩
  rcases ask_out hy with ⟨g, rfl, hz⟩ | ⟨_, hy⟩
  ·refine ⟨rfl, fin ?_⟩
   rw [hz]; exact lvar_at (F := F) (xs := zs) (lv := 9)
  ·rcases ask_out hy with ⟨g, rfl, hz⟩ | ⟨_, hy⟩
   ·refine ⟨rfl, fin ?_⟩
    rw [hz]; exact lvar_at (F := F) (xs := zs) (lv := 9)
   ·exact (next_out hy).elim) _ 0 0 (tlI.map (SE.val (envOf F xs))) (Nat.zero_add _) (Nat.succ_pos _) (tl_J0 F xs hp)
 obtain ⟨rfl, h2⟩ := h2
 refine ⟨ys, ?_, h2⟩
 unfold tlG lpFn tlU
 rw [h1]; rfl
set_option maxHeartbeats 4000000 in
theorem tl_chk : checkR (bW.loops Lm5_Ltw) Lm5_Ttw 300 tlL.f tln (bodyOf Try.prog tlL.f tlL.id) tlS tlM tlL.F tlL.nx tlS tlL.outs tlL.kk tlT [] = true := by kernel_rfl
theorem tl_ok : LCT Try.prog tlL (FT Lm5_Ttw) (tlG (FT Lm5_Ttw)) :=
 lct_of (b := bW.loops Lm5_Ltw) (Tb := Lm5_Ttw) (y := tlL) (M := tlM) (T := fun _ => tlT) (S := fun _ => tlS) (init := tlI) (loops_ok bW_ok _) (lb_of Lm5_lbtw) Lm5_oktw (d := 300) (n := tln) (by kernel_rfl) (by kernel_rfl) (by kernel_rfl) (by kernel_rfl) (fun _ _ _ => tl_chk) (fun xs hp => tl_run _ xs hp)
theorem tl_cst (F : Nat → List Int → List Int) : Cst tlL (tlG F) := cst_of tlC (by kernel_rfl) (fun _ _ _ => by kernel_rfl)
noncomputable def Lm5_Ttl : List Ent := ⟨20055, [], .tup [], tlG, true⟩ :: Lm5_Ttw
def Lm5_Ltl : List LEnt := tlL :: Lm5_Ltw
theorem Lm5_oktl : TbOK Try.prog Lm5_Ttl := tb_loop Lm5_oktw rfl (by kernel_rfl)
theorem Lm5_lbtl : LBs Try.prog Lm5_Ltl Lm5_Ttl := lbs_loop (y := tlL) Lm5_lbtw (by kernel_rfl) (by kernel_rfl) (by kernel_rfl) tl_ok (tl_cst _)
def wlS : List (Nat × V) := [(3, (.one (.sli 0 (.lvar 0)))), (11, (.one (.ptr 1 0))), (12, (.one (.opq (.ivar .i64 11)))), (0, (.any 0)), (1, (.any 1)), (2, (.any 2)), (4, (.any 4)), (10, (.any 10)), (13, (.any 13)), (14, (.any 14)), (15, (.any 15)), (16, (.any 16)), (17, (.any 17)), (18, (.any 18))]
def wlM : MB := [(1, [(.int .i64 0), (.int .i64 0), (.int .u64 1152921504606846976), (.opq (.ivar .i64 1)), (.opq (.ivar .u64 2)), (.int .i64 0), (.int .u64 4611686018427387904), (.int .i64 0), (.opq (.ivar .u64 3)), (.int .i64 0), (.opq (.ivar .u64 4)), (.opq (.ivar .i64 5)), (.opq (.ivar .i64 6)), (.sli 2 (.lvar 7)), (.sli 3 (.lvar 8)), .nils, (.sli 4 (.lvar 9)), (.int .i64 0), (.int .u64 0), (.int .i64 0), (.int .u64 0), (.int .i64 0), (.int .u64 0), .nils], 33, false), (2, [(.big (.lvar 10) [some .i64, some .u64, some .i64, some .u64, some .i64, some .u64, some .i64, some .u64, some .i64, some .u64, some .i64, some .u64, some .i64, some .u64, some .i64, some .u64, some .i64, some .u64, some .i64, some .i64])], 53, true), (3, [(.big (.lvar 8) [some .i64, some .i64, some .i64, some .u64, some .i64, some .u64])], 66, true), (4, [(.big (.lvar 9) [some .i64])], 3, true)]
def wlF : MB := [(0, [(.big (.lvar 0) [some .u8])], 5, false)]
def wlT : RT := (.ask (.cmp .lss (.ivar .i64 11) (.len (.lvar 7))) (.ask (.cmp .lss (.ivar .i64 11) (.len (.lvar 0))) (.know (.cmp .geq (.ivar .i64 11) (.lit .i64 0)) true (.know (.cmp .lss (.ivar .i64 11) (.len (.lvar 10))) true (.next [(.lvar 0), (.ivar .i64 1), (.ivar .u64 2), (.ivar .u64 3), (.ivar .u64 4), (.ivar .i64 5), (.ivar .i64 6), (.lvar 7), (.lvar 8), (.lvar 9), (.lset (.lvar 10) (.ivar .i64 11) 18 (.cons (.bin .rem .i64 (.conv .i64 (.el (some .u8) (.lvar 0) (.ivar .i64 11) 0)) (.lit .i64 101)) .nil)), (.bin .add .i64 (.ivar .i64 11) (.lit .i64 1))])))
  (.out 0 [(.lvar 0), (.ivar .i64 1), (.ivar .u64 2), (.ivar .u64 3), (.ivar .u64 4), (.ivar .i64 5), (.ivar .i64 6), (.lvar 7), (.lvar 8), (.lvar 9), (.lvar 10)]))
  (.out 0 [(.lvar 0), (.ivar .i64 1), (.ivar .u64 2), (.ivar .u64 3), (.ivar .u64 4), (.ivar .i64 5), (.ivar .i64 6), (.lvar 7), (.lvar 8), (.lvar 9), (.lvar 10)]))
def wlL : LEnt := { f := 21, id := 5, num := 20056, nx := 5, S := [(3, (.one (.sli 0 (.lvar 0)))), (11, (.one (.ptr 1 0))), (12, (.one (.int .i64 0))), (0, (.any 0)), (1, (.any 1)), (2, (.any 2)), (4, (.any 4)), (10, (.any 10)), (13, (.any 13)), (14, (.any 14)), (15, (.any 15)), (16, (.any 16)), (17, (.any 17)), (18, (.any 18))], M := [(1, [(.int .i64 0), (.int .i64 0), (.int .u64 1152921504606846976), (.opq (.ivar .i64 1)), (.opq (.ivar .u64 2)), (.int .i64 0), (.int .u64 4611686018427387904), (.int .i64 0), (.opq (.ivar .u64 3)), (.int .i64 0), (.opq (.ivar .u64 4)), (.opq (.ivar .i64 5)), (.opq (.ivar .i64 6)), (.sli 2 (.lvar 7)), (.sli 3 (.lvar 8)), .nils, (.sli 4 (.lvar 9)), (.int .i64 0), (.int .u64 0), (.int .i64 0), (.int .u64 0), (.int .i64 0), (.int .u64 0), .nils], 33, false), (2, [(.big (.lvar 10) [some .i64, some .u64, some .i64, some .u64, some .i64, some .u64, some .i64, some .u64, some .i64, some .u64, some .i64, some .u64, some .i64, some .u64, some .i64, some .u64, some .i64, some .u64, some .i64, some .i64])], 53, true), (3, [(.big (.lvar 8) [some .i64, some .i64, some .i64, some .u64, some .i64, some .u64])], 66, true), (4, [(.big (.lvar 9) [some .i64])], 3, true)], F := wlF, kk := [0, 1, 2, 3, 4], outs := [{ x := (.exit 0), S := [(3, (.one (.sli 0 (.lvar 0)))), (11, (.one (.ptr 1 0))), (0, (.any 0)), (1, (.any 1)), (2, (.any 2)), (4, (.any 4)), (10, (.any 10)), (13, (.any 13)), (14, (.any 14)), (15, (.any 15)), (16, (.any 16)), (17, (.any 17)), (18, (.any 18))], M := [(1, [(.int .i64 0), (.int .i64 0), (.int .u64 1152921504606846976), (.opq (.ivar .i64 1)), (.opq (.ivar .u64 2)), (.int .i64 0), (.int .u64 4611686018427387904), (.int .i64 0), (.opq (.ivar .u64 3)), (.int .i64 0), (.opq (.ivar .u64 4)), (.opq (.ivar .i64 5)), (.opq (.ivar .i64 6)), (.sli 2 (.lvar 7)), (.sli 3 (.lvar 8)), .nils, (.sli 4 (.lvar 9)), (.int .i64 0), (.int .u64 0), (.int .i64 0), (.int .u64 0), (.int .i64 0), (.int .u64 0), .nils], 33, false), (2, [(.big (.lvar 10) [some .i64, some .u64, some .i64, some .u64, some .i64, some .u64, some .i64, some .u64, some .i64, some .u64, some .i64, some .u64, some .i64, some .u64, some .i64, some .u64, some .i64, some .u64, some .i64, some .i64])], 53, true), (3, [(.big (.lvar 8) [some .i64, some .i64, some .i64, some .u64, some .i64, some .u64])], 66, true), (4, [(.big (.lvar 9) [some .i64])], 3, true)], cv := [(0, 0, none), (1, 1, (some (some .i64))), (2, 2, (some (some .u64))), (3, 3, (some (some .u64))), (4, 4, (some (some .u64))), (5, 5, (some (some .i64))), (6, 6, (some (some .i64))), (7, 7, none), (8, 8, none), (9, 9, none)] }], lv := [(2, 10), (3, 8), (4, 9), (0, 0)], sm := [10], pre := [(.cmp .neq (.len (.lvar 7)) (.len (.lvar 10)), false)] }
def wlI : List SE := [(.lvar 0), (.ivar .i64 1), (.ivar .u64 2), (.ivar .u64 3), (.ivar .u64 4), (.ivar .i64 5), (.ivar .i64 6), (.lvar 7), (.lvar 8), (.lvar 9), (.lvar 10), (.lit .i64 0)]
def wlC : List (Nat × Nat × Option (Option IntKind)) := [(0, 0, none), (1, 1, (some (some .i64))), (2, 2, (some (some .u64))), (3, 3, (some (some .u64))), (4, 4, (some (some .u64))), (5, 5, (some (some .i64))), (6, 6, (some (some .i64))), (7, 7, none), (8, 8, none), (9, 9, none)]
def wln : Nat := 51
def wlJ (l0 l7 lb : Int) (t : Nat) (xs : List Int) : Prop := xs.getD 0 0 = l0 ∧ xs.getD 7 0 = l7 ∧ (dec l7).length ≤ 1000000 ∧ (dec lb).length = (dec l7).length ∧ xs.getD 11 0 = (t : Int) ∧ (dec (xs.getD 10 0)).length = (dec l7).length ∧ ∀ j, ThR ((dec lb).getD j []) ((dec (xs.getD 10 0)).getD j [])
noncomputable def wlU (xs : List Int) : Nat := (dec (xs.getD 7 0)).length + 1
noncomputable def wlG : (Nat → List Int → List Int) → List Int → List Int := lpFn wlI (fun _ => wlT) wlU
theorem wl_J0 (F : Nat → List Int → List Int) (xs : List Int) (hp : Pre wlL F xs) : wlJ (xs.getD 0 0) (xs.getD 7 0) (xs.getD 10 0) 0 (wlI.map (SE.val (envOf F xs))) := by
 have h8 : (dec (xs.getD 10 0)).length ≤ 1000000 := hp.sm 10 (by decide)
 have h3 := hp.pre _ (by show _ ∈ [((SE.cmp .neq (.len (.lvar 7)) (.len (.lvar 10))), false)]; exact .head _)
 have l7 := len_sat (F := F) (lv := 7) (xs := xs)
 have l8 := len_at (F := F) (lv := 10) (xs := xs) rfl (by unfold maxLen; omega)
 have hb : (dec (xs.getD 10 0)).length = (dec (xs.getD 7 0)).length := by
  simp only [SE.val, b2i_ne, valCmp] at h3 l7 l8
  rw [l7, l8] at h3
  have := bne_eq_false_iff_eq.1 h3
  exact (sat_sm6 (by omega) h8).symm
 have h1 : (dec (xs.getD 7 0)).length ≤ 1000000 := by omega
 refine ⟨lvar_at, lvar_at, h1, hb, ?_, ?_, ?_⟩
 ·show (SE.lit .i64 0).val (envOf F xs) = _
  simp only [SE.val]; rfl
 ·show (dec ((SE.lvar 10).val (envOf F xs))).length = _
  rw [lvar_at]
  first | done | exact hb
 ·show ∀ j, ThR _ ((dec ((SE.lvar 10).val (envOf F xs))).getD j [])
  rw [lvar_at]; exact fun j => .inl rfl
theorem wl_ok1 (F : Nat → List Int → List Int) (l0 l7 lb : Int) (t : Nat) (xs : List Int) (ht : t ≤ (dec l7).length) (h : wlJ l0 l7 lb t xs) : wlT.ok (envOf F xs) := by
 obtain ⟨h0, h7, hm, hb, h2, h3, h4⟩ := h
 have i0 := iv_at (F := F) h2 (by omega)
 have l := len_at (F := F) (lv := 7) (n := (dec l7).length) (xs := xs) (by rw [h7]) (by unfold maxLen; omega)
 have l8 := len_at (F := F) (lv := 10) (n := (dec l7).length) (xs := xs) h3 (by unfold maxLen; omega)
 refine ok_ask fun g1 => ok_ask fun g2 => ?_
 have k1 := of_lss g1 i0 l
 exact ⟨(geq_at i0 (lit_at (k := 0) (by omega))).trans (decide_eq_true (by omega)), (lss_at i0 l8).trans (decide_eq_true (by omega)), trivial⟩
theorem wl_nx (F : Nat → List Int → List Int) (l0 l7 lb : Int) : ∀ (t : Nat) (xs ys : List Int), t ≤ (dec l7).length → wlJ l0 l7 lb t xs → wlT.get (envOf F xs) = (none, ys) → t < (dec l7).length ∧ wlJ l0 l7 lb (t + 1) ys := fun t xs ys ht h hy => by
 obtain ⟨h0, h7, hm, hb, h2, h3, h4⟩ := h
 have i0 := iv_at (F := F) h2 (by omega)
 have i1 := add_at (F := F) (k := 1) h2 (by omega)
 have l := len_at (F := F) (lv := 7) (n := (dec l7).length) (xs := xs) (by rw [h7]) (by unfold maxLen; omega)
 obtain ⟨g1, hy⟩ := ask_next hy
 obtain ⟨g2, hy⟩ := ask_next hy
 have hy := next_next hy
 have k1 := of_lss g1 i0 l
 subst hy
 have v1 : (SE.cons (.bin .rem .i64 (.conv .i64 (.el (some .u8) (.lvar 0) (.ivar .i64 11) 0)) (.lit .i64 101)) .nil).vals (envOf F xs) = [byt l0 t % 101] := by
  have e := el_byt (F := F) (lv := 0) i0
  have hb := byt_in l0 t
  rw [h0] at e
  have e3 : ∀ x : SE, (SE.cons (.bin .rem .i64 (.conv .i64 x) (.lit .i64 101)) .nil).vals (envOf F xs) = [IntKind.i64.wrap ((IntKind.i64.wrap (x.val (envOf F xs))).tmod (IntKind.i64.wrap 101))] := fun x => by simp only [SE.vals, SE.val, valBin]
  rw [e3, e, show IntKind.i64.wrap 101 = 101 from rfl, show IntKind.i64.wrap (byt l0 t) = byt l0 t by rw [IntKind.wrap_i64]; omega, Int.tmod_eq_emod_of_nonneg hb.1]
  simp only [IntKind.wrap_i64, List.cons.injEq, and_true]; omega
 refine ⟨k1, (lvar_at (F := F)).trans h0, (lvar_at (F := F)).trans h7, hm, hb, i1, ?_, ?_⟩
 ·show (dec ((SE.lset (.lvar 10) (.ivar .i64 11) 18 _).val (envOf F xs))).length = _
  rw [lset_at i0, dec_enc, lvar_at]
  unfold setL; rw [List.length_set]; exact h3
 ·show ∀ j, ThR _ ((dec ((SE.lset (.lvar 10) (.ivar .i64 11) 18 _).val (envOf F xs))).getD j [])
  rw [lset_at i0, dec_enc, lvar_at, v1]
  intro j
  by_cases hj : j = t
  ·subst hj
   rw [setL_at (by omega)]
   rcases h4 j with e | ⟨c, c0, c1, e⟩
   ·rw [e]; exact .inr ⟨_, Int.emod_nonneg _ (by decide), by have := Int.emod_lt_of_pos (byt l0 j) (show (0 : Int) < 101 by decide); omega, rfl⟩
   ·rw [e, setRow_two _ 18 [c] [byt l0 j % 101] rfl]; exact .inr ⟨_, Int.emod_nonneg _ (by decide), by have := Int.emod_lt_of_pos (byt l0 j) (show (0 : Int) < 101 by decide); omega, rfl⟩
  ·rw [setL_ne hj]; exact h4 j
theorem wl_run (F : Nat → List Int → List Int) (xs : List Int) (hp : Pre wlL F xs) : RunOK (fun _ => wlT) F 0 (wlU xs) (wlI.map (SE.val (envOf F xs))) :=
 inv_ok (fun t ys => wlJ (xs.getD 0 0) (xs.getD 7 0) (xs.getD 10 0) t ys) (dec (xs.getD 7 0)).length (fun t ys ht hj => wl_ok1 F _ _ _ t ys ht hj) (wl_nx F _ _ _) _ 0 0 _ (Nat.zero_add _) (Nat.succ_pos _) (wl_J0 F xs hp)
theorem wl_val (F : Nat → List Int → List Int) (xs : List Int) (hp : Pre wlL F xs) : ∃ ys, wlG F xs = 0 :: ys ∧ (dec (ys.getD 10 0)).length = (dec (xs.getD 7 0)).length ∧ ∀ j, ThR ((dec (xs.getD 10 0)).getD j []) ((dec (ys.getD 10 0)).getD j []) := by
 obtain ⟨e, ys, h1, h2⟩ := inv_run (F := F) (T := wlT) (fun t ys => wlJ (xs.getD 0 0) (xs.getD 7 0) (xs.getD 10 0) t ys) (dec (xs.getD 7 0)).length (fun e ys => e = 0 ∧ (dec (ys.getD 10 0)).length = (dec (xs.getD 7 0)).length ∧ ∀ j, ThR ((dec (xs.getD 10 0)).getD j []) ((dec (ys.getD 10 0)).getD j [])) (wl_nx F _ _ _) (fun t zs e ys ht hj hy => by
  obtain ⟨h0, h7, hm, hb, h2, h3, h4⟩ := hj
  have fin : ys.getD 10 0 = zs.getD 10 0 → (dec (ys.getD 10 0)).length = (dec (xs.getD 7 0)).length ∧ ∀ j, ThR ((dec (xs.getD 10 0)).getD j []) ((dec (ys.getD 10 0)).getD j []) := by
   intro q; rw [q]; exact ⟨h3, h4⟩
  rcases ask_out hy with ⟨g, rfl, hz⟩ | ⟨_, hy⟩
  ·refine ⟨rfl, fin ?_⟩
   rw [hz]; exact lvar_at (F := F) (xs := zs) (lv := 10)
  ·rcases ask_out hy with ⟨g, rfl, hz⟩ | ⟨_, hy⟩
   ·refine ⟨rfl, fin ?_⟩
    rw [hz]; exact lvar_at (F := F) (xs := zs) (lv := 10)
   ·exact (next_out hy).elim) _ 0 0 (wlI.map (SE.val (envOf F xs))) (Nat.zero_add _) (Nat.succ_pos _) (wl_J0 F xs hp)
 obtain ⟨rfl, h2⟩ := h2
 refine ⟨ys, ?_, h2⟩
 unfold wlG lpFn wlU
 rw [h1]; rfl
set_option maxHeartbeats 4000000 in
theorem wl_chk : checkR (bW.loops Lm5_Ltl) Lm5_Ttl 300 wlL.f wln (bodyOf Try.prog wlL.f wlL.id) wlS wlM wlL.F wlL.nx wlS wlL.outs wlL.kk wlT [] = true := by kernel_rfl
theorem wl_ok : LCT Try.prog wlL (FT Lm5_Ttl) (wlG (FT Lm5_Ttl)) :=
 lct_of (b := bW.loops Lm5_Ltl) (Tb := Lm5_Ttl) (y := wlL) (M := wlM) (T := fun _ => wlT) (S := fun _ => wlS) (init := wlI) (loops_ok bW_ok _) (lb_of Lm5_lbtl) Lm5_oktl (d := 300) (n := wln) (by kernel_rfl) (by kernel_rfl) (by kernel_rfl) (by kernel_rfl) (fun _ _ _ => wl_chk) (fun xs hp => wl_run _ xs hp)
theorem wl_cst (F : Nat → List Int → List Int) : Cst wlL (wlG F) := cst_of wlC (by kernel_rfl) (fun _ _ _ => by kernel_rfl)
noncomputable def Lm5_Twl : List Ent := ⟨20056, [], .tup [], wlG, true⟩ :: Lm5_Ttl
def Lm5_Lwl : List LEnt := wlL :: Lm5_Ltl
theorem Lm5_okwl : TbOK Try.prog Lm5_Twl := tb_loop Lm5_oktl rfl (by kernel_rfl)
theorem Lm5_lbwl : LBs Try.prog Lm5_Lwl Lm5_Twl := lbs_loop (y := wlL) Lm5_lbtl (by kernel_rfl) (by kernel_rfl) (by kernel_rfl) wl_ok (wl_cst _)
def raS : List (Nat × V) := [(0, (.one (.sli 0 (.lvar 0)))), (5, (.one (.sli 1 (.lvar 1)))), (1, (.one (.int .i64 2))), (6, (.one (.opq (.ivar .i64 2)))), (4, (.any 4))]
def raM : MB := [(1, [(.big (.lvar 1) [some .i64, some .i64, some .u64, some .i64, some .u64, some .i64, some .i64, some .i64, some .i64, some .u64])], 62, true)]
def raF : MB := [(0, [(.big (.lvar 0) [some .u8])], 5, false)]
def raT : RT := (.ask (.cmp .lss (.bin .add .i64 (.ivar .i64 2) (.lit .i64 3)) (.len (.lvar 0))) (.ask (.cmp .lss (.len (.lvar 1)) (.lit .i64 2)) (.know (.cmp .geq (.ivar .i64 2) (.lit .i64 0)) true (.know (.cmp .lss (.ivar .i64 2) (.len (.lvar 0))) true (.know (.cmp .geq (.bin .add .i64 (.ivar .i64 2) (.lit .i64 1)) (.lit .i64 0)) true (.know (.cmp .lss (.bin .add .i64 (.ivar .i64 2) (.lit .i64 1)) (.len (.lvar 0))) true (.know (.cmp .geq (.bin .add .i64 (.ivar .i64 2) (.lit .i64 2)) (.lit .i64 0)) true (.know (.cmp .lss (.bin .add .i64 (.ivar .i64 2) (.lit .i64 2)) (.len (.lvar 0))) true (.know (.cmp .geq (.bin .add .i64 (.ivar .i64 2) (.lit .i64 3)) (.lit .i64 0)) true (.know (.cmp .gtr (.bin .add .i64 (.len (.lvar 1)) (.lit .i64 1)) (.lit .i64 0)) true (.know (.cmp .leq (.len (.lvar 1)) (.lit .i64 1000000)) true (.next [(.lvar 0), (.lcat (.lvar 1) (.lone (.cons (.bin .sub .i64 (.bin .rem .i64 (.conv .i64 (.el (some .u8) (.lvar 0) (.ivar .i64 2) 0)) (.bin .add .i64 (.len (.lvar 1)) (.lit .i64 1))) (.lit .i64 1)) (.cons (.app 22 0 (some .i64) (.cons (.bin .add .i64 (.lit .i64 1) (.conv .i64 (.el (some .u8) (.lvar 0) (.bin .add .i64 (.ivar .i64 2) (.lit .i64 1)) 0))) .nil)) (.cons (.app 22 1 (some .u64) (.cons (.bin .add .i64 (.lit .i64 1) (.conv .i64 (.el (some .u8) (.lvar 0) (.bin .add .i64 (.ivar .i64 2) (.lit .i64 1)) 0))) .nil)) (.cons (.lit .i64 0) (.cons (.bin .shl .u64 (.conv .u64 (.bin .rem .i64 (.conv .i64 (.el (some .u8) (.lvar 0) (.bin .add .i64 (.ivar .i64 2) (.lit .i64 2)) 0)) (.lit .i64 15))) (.lit .u64 60)) (.cons (.bin .mul .i64 (.conv .i64 (.el (some .u8) (.lvar 0) (.bin .add .i64 (.ivar .i64 2) (.lit .i64 3)) 0)) (.lit .i64 257)) (.cons (.bin .mul .i64 (.conv .i64 (.el (some .u8) (.lvar 0) (.ivar .i64 2) 0)) (.lit .i64 200)) (.cons (.bin .add .i64 (.bin .add .i64 (.lit .i64 1) (.bin .mul .i64 (.conv .i64 (.el (some .u8) (.lvar 0) (.bin .add .i64 (.ivar .i64 2) (.lit .i64 1)) 0)) (.lit .i64 7))) (.conv .i64 (.el (some .u8) (.lvar 0) (.bin .add .i64 (.ivar .i64 2) (.lit .i64 2)) 0))) (.cons (.app 22 0 (some .i64) (.cons (.conv .i64 (.el (some .u8) (.lvar 0) (.bin .add .i64 (.ivar .i64 2) (.lit .i64 3)) 0)) .nil)) (.cons (.app 22 1 (some .u64) (.cons (.conv .i64 (.el (some .u8) (.lvar 0) (.bin .add .i64 (.ivar .i64 2) (.lit .i64 3)) 0)) .nil)) .nil)))))))))))), (.bin .add .i64 (.ivar .i64 2) (.lit .i64 4))]))))))))))
  (.out 0 [(.lvar 1)]))
  (.out 0 [(.lvar 1)]))
def raL : LEnt := { f := 40, id := 3, num := 20057, nx := 2, S := [(0, (.one (.sli 0 (.lvar 0)))), (1, (.one (.int .i64 2))), (5, (.one .nils)), (6, (.one (.int .i64 0))), (4, (.any 4))], M := [], F := raF, kk := [0], outs := [{ x := (.exit 0), S := [(5, (.one (.sli 1 (.lvar 0)))), (4, (.any 4))], M := [(1, [(.big (.lvar 0) [some .i64, some .i64, some .u64, some .i64, some .u64, some .i64, some .i64, some .i64, some .i64, some .u64])], 62, true)], cv := [] }], lv := [(0, 0)], sm := [], pre := [] }
def raI : List SE := [(.lvar 0), .lnil, (.lit .i64 0)]
def raC : List (Nat × Nat × Option (Option IntKind)) := [(0, 0, none)]
def ran : Nat := 77
def isRa (F : Nat → List Int → List Int) (j : Nat) (el : List Int) : Prop := ∃ b0 b1 b2 b3 : Int, (0 ≤ b0 ∧ b0 < 256) ∧ (0 ≤ b1 ∧ b1 < 256) ∧ (0 ≤ b2 ∧ b2 < 256) ∧ (0 ≤ b3 ∧ b3 < 256) ∧
 el = [b0 % ((j : Int) + 1) - 1, wrK (some .i64) ((F 22 [1 + b1]).getD 0 0), wrK (some .u64) ((F 22 [1 + b1]).getD 1 0), 0, b2 % 15 * 1152921504606846976 % 18446744073709551616, b3 * 257, b0 * 200, 1 + b1 * 7 + b2, wrK (some .i64) ((F 22 [b3]).getD 0 0), wrK (some .u64) ((F 22 [b3]).getD 1 0)]
def raJ (F : Nat → List Int → List Int) (l0 : Int) (t : Nat) (xs : List Int) : Prop := xs.getD 0 0 = l0 ∧ (dec l0).length ≤ maxLen ∧ xs.getD 2 0 = ((4 * t : Nat) : Int) ∧ (dec (xs.getD 1 0)).length = t ∧ ∀ (j : Nat) (el : List Int), (dec (xs.getD 1 0))[j]? = some el → isRa F j el
noncomputable def raU (xs : List Int) : Nat := 3
noncomputable def raG : (Nat → List Int → List Int) → List Int → List Int := lpFn raI (fun _ => raT) raU
theorem ra_J0 (F : Nat → List Int → List Int) (xs : List Int) (hp : Pre raL F xs) : raJ F (xs.getD 0 0) 0 (raI.map (SE.val (envOf F xs))) := by
 have h1 : (dec (xs.getD 0 0)).length ≤ maxLen := hp.lv (0, 0) (by decide)
 have e : (raI.map (SE.val (envOf F xs))).getD 1 0 = enc [] := by
  show (SE.lnil).val (envOf F xs) = _
  simp only [SE.val]
 refine ⟨lvar_at, h1, ?_, ?_, ?_⟩
 ·show (SE.lit .i64 0).val (envOf F xs) = _
  simp only [SE.val]; rfl
 ·rw [e, dec_enc]; rfl
 ·rw [e, dec_enc]; intro j el h; simp at h
theorem add1_at {F : Nat → List Int → List Int} {xs : List Int} {n : Nat} (hm : n ≤ 1000000000000) {x : SE} (hx : x.val (envOf F xs) = (n : Int)) : (SE.bin .add .i64 x (.lit .i64 1)).val (envOf F xs) = ((n + 1 : Nat) : Int) := by
 have e : (SE.bin .add .i64 x (.lit .i64 1)).val (envOf F xs) = IntKind.i64.wrap (x.val (envOf F xs) + IntKind.i64.wrap 1) := by simp only [SE.val, valBin]
 rw [e, hx]; simp only [IntKind.wrap_i64]; omega
theorem ra_ok1 (F : Nat → List Int → List Int) (l0 : Int) (t : Nat) (xs : List Int) (ht : t ≤ 2) (h : raJ F l0 t xs) : raT.ok (envOf F xs) := by
 obtain ⟨h0, hm, h2, h3, h4⟩ := h
 have hm' : (dec (xs.getD 0 0)).length ≤ maxLen := by rw [h0]; exact hm
 have i0 := iv_at (F := F) h2 (by omega)
 have i1 := add_at (F := F) (k := 1) h2 (by omega)
 have i2 := add_at (F := F) (k := 2) h2 (by omega)
 have i3 := add_at (F := F) (k := 3) h2 (by omega)
 have l := len_at (F := F) rfl hm'
 have l1 := len_at (F := F) h3 (by unfold maxLen; omega)
 have l2 := add1_at (F := F) (by omega) l1
 have z := lit_at (F := F) (xs := xs) (k := 0) (by omega)
 refine ok_ask fun g1 => ok_ask fun g2 => ?_
 have k1 := of_lss g1 i3 l
 exact ⟨(geq_at i0 z).trans (decide_eq_true (by omega)), (lss_at i0 l).trans (decide_eq_true (by omega)), (geq_at i1 z).trans (decide_eq_true (by omega)), (lss_at i1 l).trans (decide_eq_true (by omega)), (geq_at i2 z).trans (decide_eq_true (by omega)), (lss_at i2 l).trans (decide_eq_true (by omega)), (geq_at i3 z).trans (decide_eq_true (by omega)), (gtr_at l2 z).trans (decide_eq_true (by omega)), (leq_at l1 (lit_at (k := 1000000) (by omega))).trans (decide_eq_true (by omega)), trivial⟩
theorem ra_nx (F : Nat → List Int → List Int) (l0 : Int) : ∀ (t : Nat) (xs ys : List Int), t ≤ 2 → raJ F l0 t xs → raT.get (envOf F xs) = (none, ys) → t < 2 ∧ raJ F l0 (t + 1) ys := fun t xs ys ht h hy => by
 obtain ⟨h0, hm, h2, h3, h4⟩ := h
 have i0 := iv_at (F := F) h2 (by omega)
 have i1 := add_at (F := F) (k := 1) h2 (by omega)
 have i2 := add_at (F := F) (k := 2) h2 (by omega)
 have i3 := add_at (F := F) (k := 3) h2 (by omega)
 have i4 := add_at (F := F) (k := 4) h2 (by omega)
 have l1 := len_at (F := F) h3 (by unfold maxLen; omega)
 have l2 := add1_at (F := F) (by omega) l1
 obtain ⟨g1, hy⟩ := ask_next hy
 obtain ⟨g2, hy⟩ := ask_next hy
 have hy := next_next hy
 have k2 := of_lss g2 l1 (lit_at (k := 2) (by omega))
 subst hy
 refine ⟨k2, (lvar_at (F := F)).trans h0, hm, i4, ?_, ?_⟩
 ·show (dec ((SE.lcat (.lvar 1) (.lone _)).val (envOf F xs))).length = _
  rw [lcat_at, dec_enc, List.length_append, h3]; rfl
 ·show ∀ (j : Nat) (el : List Int), (dec ((SE.lcat (.lvar 1) (.lone _)).val (envOf F xs)))[j]? = some el → _
  rw [lcat_at, dec_enc]
  intro j el he
  by_cases hj : j < t
  ·rw [List.getElem?_append_left (by omega)] at he; exact h4 j el he
  ·rw [List.getElem?_append_right (by omega)] at he
   have hjt : j = t := by
    have h5 := (List.getElem?_eq_some_iff.1 he).1
    rw [h3] at h5
    have h6 : j - t < 1 := h5
    omega
   subst hjt
   rw [h3, Nat.sub_self] at he
   have he : _ = el := Option.some.inj he
   have i1' : (SE.bin .add .i64 (.ivar .i64 2) (.lit .i64 1)).val (envOf F xs) = ((4 * j + 1 : Nat) : Int) := i1
   have i2' : (SE.bin .add .i64 (.ivar .i64 2) (.lit .i64 2)).val (envOf F xs) = ((4 * j + 2 : Nat) : Int) := i2
   have i3' : (SE.bin .add .i64 (.ivar .i64 2) (.lit .i64 3)).val (envOf F xs) = ((4 * j + 3 : Nat) : Int) := i3
   have e0 := el_byt (F := F) (lv := 0) i0
   have e1 := el_byt (F := F) (lv := 0) i1'
   have e2 := el_byt (F := F) (lv := 0) i2'
   have e3 := el_byt (F := F) (lv := 0) i3'
   have c0 := byt_in (xs.getD 0 0) (4 * j)
   have c1 := byt_in (xs.getD 0 0) (4 * j + 1)
   have c2 := byt_in (xs.getD 0 0) (4 * j + 2)
   have c3 := byt_in (xs.getD 0 0) (4 * j + 3)
   refine ⟨_, _, _, _, c0, c1, c2, c3, ?_⟩
   rw [← he]
   have w : ∀ z : Int, 0 ≤ z → z < 9223372036854775808 → IntKind.i64.wrap z = z := fun z h1 h2 => by rw [IntKind.wrap_i64]; omega
   have p1 : ∀ x y : SE, (SE.bin .sub .i64 (.bin .rem .i64 (.conv .i64 x) y) (.lit .i64 1)).val (envOf F xs) = IntKind.i64.wrap (IntKind.i64.wrap ((IntKind.i64.wrap (x.val (envOf F xs))).tmod (y.val (envOf F xs))) - IntKind.i64.wrap 1) := fun x y => by simp only [SE.val, valBin]
   have p2 : ∀ (x : SE) (j : Nat) (k : Option IntKind), (SE.app 22 j k (.cons (.bin .add .i64 (.lit .i64 1) (.conv .i64 x)) .nil)).val (envOf F xs) = wrK k ((F 22 [IntKind.i64.wrap (IntKind.i64.wrap 1 + IntKind.i64.wrap (x.val (envOf F xs)))]).getD j 0) := fun x j k => by simp only [SE.val, SE.vals, valBin]; rfl
   have p3 : ∀ x : SE, (SE.bin .shl .u64 (.conv .u64 (.bin .rem .i64 (.conv .i64 x) (.lit .i64 15))) (.lit .u64 60)).val (envOf F xs) = IntKind.u64.wrap (IntKind.u64.wrap (IntKind.i64.wrap ((IntKind.i64.wrap (x.val (envOf F xs))).tmod (IntKind.i64.wrap 15))) * 2 ^ (min (IntKind.u64.wrap 60).toNat IntKind.u64.bits)) := fun x => by simp only [SE.val, valBin]
   have p4 : ∀ (x : SE) (n : Int), (SE.bin .mul .i64 (.conv .i64 x) (.lit .i64 n)).val (envOf F xs) = IntKind.i64.wrap (IntKind.i64.wrap (x.val (envOf F xs)) * IntKind.i64.wrap n) := fun x n => by simp only [SE.val, valBin]
   have p5 : ∀ (x y : SE), (SE.bin .add .i64 (.bin .add .i64 (.lit .i64 1) x) (.conv .i64 y)).val (envOf F xs) = IntKind.i64.wrap (IntKind.i64.wrap (IntKind.i64.wrap 1 + x.val (envOf F xs)) + IntKind.i64.wrap (y.val (envOf F xs))) := fun x y => by simp only [SE.val, valBin]
   have p6 : ∀ (x : SE) (j : Nat) (k : Option IntKind), (SE.app 22 j k (.cons (.conv .i64 x) .nil)).val (envOf F xs) = wrK k ((F 22 [IntKind.i64.wrap (x.val (envOf F xs))]).getD j 0) := fun x j k => by simp only [SE.val, SE.vals]; rfl
   have p7 : (SE.lit .i64 0).val (envOf F xs) = 0 := by simp only [SE.val]; rfl
   simp only [SE.vals, p1, p2, p3, p4, p5, p6, p7, e0, e1, e2, e3, l2]
   generalize byt (xs.getD 0 0) (4 * j) = b0 at *
   generalize byt (xs.getD 0 0) (4 * j + 1) = b1 at *
   generalize byt (xs.getD 0 0) (4 * j + 2) = b2 at *
   generalize byt (xs.getD 0 0) (4 * j + 3) = b3 at *
   have q1 : IntKind.i64.wrap (IntKind.i64.wrap ((IntKind.i64.wrap b0).tmod ((j + 1 : Nat) : Int)) - IntKind.i64.wrap 1) = b0 % ((j : Int) + 1) - 1 := by
    have r1 : 0 ≤ b0 % ((j : Int) + 1) := Int.emod_nonneg _ (by omega)
    have r2 : b0 % ((j : Int) + 1) < (j : Int) + 1 := Int.emod_lt_of_pos _ (by omega)
    rw [w b0 c0.1 (by omega), Int.tmod_eq_emod_of_nonneg c0.1, show ((j + 1 : Nat) : Int) = (j : Int) + 1 by omega, w _ r1 (by omega), show IntKind.i64.wrap 1 = 1 from rfl, IntKind.wrap_i64]
    omega
   have q2 : IntKind.i64.wrap (IntKind.i64.wrap 1 + IntKind.i64.wrap b1) = 1 + b1 := by rw [w b1 c1.1 (by omega), show IntKind.i64.wrap 1 = 1 from rfl, w _ (by omega) (by omega)]
   have q3 : IntKind.u64.wrap (IntKind.u64.wrap (IntKind.i64.wrap ((IntKind.i64.wrap b2).tmod (IntKind.i64.wrap 15))) * 2 ^ (min (IntKind.u64.wrap 60).toNat IntKind.u64.bits)) = b2 % 15 * 1152921504606846976 % 18446744073709551616 := by
    rw [w b2 c2.1 (by omega), show IntKind.i64.wrap 15 = 15 from rfl, Int.tmod_eq_emod_of_nonneg c2.1, w _ (by omega) (by omega), show (2 : Int) ^ (min (IntKind.u64.wrap 60).toNat IntKind.u64.bits) = 1152921504606846976 from rfl, IntKind.wrap_u64, IntKind.wrap_u64]
    omega
   have q4 : IntKind.i64.wrap (IntKind.i64.wrap b3 * IntKind.i64.wrap 257) = b3 * 257 := by rw [w b3 c3.1 (by omega), show IntKind.i64.wrap 257 = 257 from rfl, w _ (by omega) (by omega)]
   have q5 : IntKind.i64.wrap (IntKind.i64.wrap b0 * IntKind.i64.wrap 200) = b0 * 200 := by rw [w b0 c0.1 (by omega), show IntKind.i64.wrap 200 = 200 from rfl, w _ (by omega) (by omega)]
   have q6 : IntKind.i64.wrap (IntKind.i64.wrap (IntKind.i64.wrap 1 + IntKind.i64.wrap (IntKind.i64.wrap b1 * IntKind.i64.wrap 7)) + IntKind.i64.wrap b2) = 1 + b1 * 7 + b2 := by
    rw [w b1 c1.1 (by omega), w b2 c2.1 (by omega), show IntKind.i64.wrap 7 = 7 from rfl, show IntKind.i64.wrap 1 = 1 from rfl, w (b1 * 7) (by omega) (by omega), w (1 + b1 * 7) (by omega) (by omega), w _ (by omega) (by omega)]
   have q6' : IntKind.i64.wrap (IntKind.i64.wrap (IntKind.i64.wrap 1 + IntKind.i64.wrap (IntKind.i64.wrap b1 * IntKind.i64.wrap 7)) + IntKind.i64.wrap b2) = 1 + b1 * 7 + b2 := q6
   have q7 : IntKind.i64.wrap b3 = b3 := w b3 c3.1 (by omega)
   rw [q1, q2, q3, q4, q5, q6, q7]
theorem ra_run (F : Nat → List Int → List Int) (xs : List Int) (hp : Pre raL F xs) : RunOK (fun _ => raT) F 0 (raU xs) (raI.map (SE.val (envOf F xs))) :=
 inv_ok (fun t ys => raJ F (xs.getD 0 0) t ys) 2 (fun t ys ht hj => ra_ok1 F _ t ys ht hj) (ra_nx F _) 3 0 0 _ rfl (by omega) (ra_J0 F xs hp)
theorem ra_val (F : Nat → List Int → List Int) (xs : List Int) (hp : Pre raL F xs) : ∃ ys, raG F xs = 0 :: ys ∧ (dec (ys.getD 0 0)).length ≤ 2 ∧ ∀ (j : Nat) (el : List Int), (dec (ys.getD 0 0))[j]? = some el → isRa F j el := by
 obtain ⟨e, ys, h1, h2⟩ := inv_run (F := F) (T := raT) (fun t ys => raJ F (xs.getD 0 0) t ys) 2 (fun e ys => e = 0 ∧ (dec (ys.getD 0 0)).length ≤ 2 ∧ ∀ (j : Nat) (el : List Int), (dec (ys.getD 0 0))[j]? = some el → isRa F j el) (ra_nx F _) (fun t zs e ys ht hj hy => by
  obtain ⟨h0, hm, h2, h3, h4⟩ := hj
  have fin : ys.getD 0 0 = zs.getD 1 0 → (dec (ys.getD 0 0)).length ≤ 2 ∧ ∀ (j : Nat) (el : List Int), (dec (ys.getD 0 0))[j]? = some el → isRa F j el := by
   intro q; rw [q, h3]; exact ⟨ht, h4⟩
  rcases ask_out hy with ⟨_, rfl, hz⟩ | ⟨_, hy⟩
  ·exact ⟨rfl, fin (by rw [hz]; exact lvar_at (F := F) (xs := zs) (lv := 1))⟩
  ·rcases ask_out hy with ⟨_, rfl, hz⟩ | ⟨_, hy⟩
   ·exact ⟨rfl, fin (by rw [hz]; exact lvar_at (F := F) (xs := zs) (lv := 1))⟩
   ·exact (next_out hy).elim) 3 0 0 (raI.map (SE.val (envOf F xs))) rfl (by omega) (ra_J0 F xs hp)
 obtain ⟨rfl, h2⟩ := h2
 refine ⟨ys, ?_, h2⟩
 unfold raG lpFn raU
 rw [h1]; rfl
set_option maxHeartbeats 4000000 in
theorem ra_chk : checkR (bW.loops Lm5_Lwl) Lm5_Twl 300 raL.f ran (bodyOf Try.prog raL.f raL.id) raS raM raL.F raL.nx raS raL.outs raL.kk raT [] = true := by kernel_rfl
theorem ra_ok : LCT Try.prog raL (FT Lm5_Twl) (raG (FT Lm5_Twl)) :=
 lct_of (b := bW.loops Lm5_Lwl) (Tb := Lm5_Twl) (y := raL) (M := raM) (T := fun _ => raT) (S := fun _ => raS) (init := raI) (loops_ok bW_ok _) (lb_of Lm5_lbwl) Lm5_okwl (d := 300) (n := ran) (by kernel_rfl) (by kernel_rfl) (by kernel_rfl) (by kernel_rfl) (fun _ _ _ => ra_chk) (fun xs hp => ra_run _ xs hp)
theorem ra_cst (F : Nat → List Int → List Int) : Cst raL (raG F) := cst_of raC (by kernel_rfl) (fun _ _ _ => by kernel_rfl)
noncomputable def Lm5_Tra : List Ent := ⟨20057, [], .tup [], raG, true⟩ :: Lm5_Twl
def Lm5_Lra : List LEnt := raL :: Lm5_Lwl
theorem Lm5_okra : TbOK Try.prog Lm5_Tra := tb_loop Lm5_okwl rfl (by kernel_rfl)
theorem Lm5_lbra : LBs Try.prog Lm5_Lra Lm5_Tra := lbs_loop (y := raL) Lm5_lbwl (by kernel_rfl) (by kernel_rfl) (by kernel_rfl) ra_ok (ra_cst _)
noncomputable def Lm5_T : List Ent := Lm5_Tra
def Lm5_L : List LEnt := Lm5_Lra
theorem Lm5_ok : TbOK Try.prog Lm5_T := Lm5_okra
theorem Lm5_lb : LBs Try.prog Lm5_L Lm5_T := Lm5_lbra
end Go.Proofs.Ytedfbamihjnhhaa.Own
