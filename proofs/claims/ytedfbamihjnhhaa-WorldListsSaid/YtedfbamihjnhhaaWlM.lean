/- Lists as long as they may: what the questions answer, and the case of events. -/
import Derived.Test.YtedfbamihjnhhaaWlK
namespace Go.Proofs.Ytedfbamihjnhhaa.Own
open Go Go.RowKit Go.Proofs Go.Proofs.Ytedfbamihjnhhaa.Plain
set_option linter.unusedVariables false
set_option linter.unusedSimpArgs false
set_option maxRecDepth 100000
theorem wl_u8 {a : Int} (h : 0 ≤ a ∧ a < 256) : inK (some .u8) a := by
  show IntKind.u8.wrap a = a
  simp only [IntKind.wrap, IntKind.bits, IntKind.signed]; simp; omega
theorem wl_u16 {a : Int} (h : 0 ≤ a ∧ a < 65536) : inK (some .u16) a := by
  show IntKind.u16.wrap a = a
  simp only [IntKind.wrap, IntKind.bits, IntKind.signed]; simp; omega
theorem rel_num {E : Env} {σ : List (Nat × Nat × Nat)} {k : IntKind} {j : Nat} {a : Int} (h : E.iv j = a) (hk : inK (some k) a) : RelC (eV E) σ (.opq (.ivar k j)) (.int k a) := by
  have := rel_opq (e := E) (σ := σ) (.ivar k j)
  rw [eS_k (k := some k) rfl] at this
  have e : cellV (some k) ((SE.ivar k j).val E) = .int k a := by
    simp only [SE.val, h]
    show Value.int k (k.wrap a) = _
    rw [show k.wrap a = a from hk]
  rwa [e] at this
theorem knows_of {E : Env} : ∀ {l : List (SE × Bool)}, (∀ p ∈ l, isBool p.1 = true ∧ (p.1.val E != 0) = p.2) → Knows E l
  | [], _ => .nil
  | (x, b) :: r, h => by
    obtain ⟨h1, h2⟩ := h _ (.head _)
    exact .cons (by rw [eS_k (isBool_ty h1)]; show Value.bool _ = _; rw [show (x.val E != 0) = b from h2]) (knows_of fun p hp => h p (.tail _ hp))
theorem envOf_F' (F : Nat → List Int → List Int) (xs : List Int) (f i : Nat) (ys : List Int) : (envOf F xs).F f i ys = (F f ys).getD i 0 := rfl
theorem i64_small {n : Int} (h : 0 ≤ n ∧ n < 1000000) : IntKind.i64.wrap n = n := by simp only [IntKind.wrap_i64]; omega
theorem wlQ_val {a0 a1 : Int} {F : Nat → List Int → List Int} (h0 : 0 ≤ a0 ∧ a0 < 256) (n : Int) (hn : 0 ≤ n) (hn4 : n < 4) : ((wlQ n).val (envOf F [a0, a1]) != 0) = decide (a0 % 4 = n) := by
  have e0 : (envOf F [a0, a1]).iv 0 = a0 := rfl
  have e1 : IntKind.u8.wrap a0 = a0 := wl_u8 h0
  have e2 : IntKind.u8.wrap n = n := wl_u8 (by omega)
  have e3 : IntKind.u8.wrap (a0.tmod (IntKind.u8.wrap 4)) = a0 % 4 := by
    rw [show IntKind.u8.wrap 4 = 4 from rfl, Int.tmod_eq_emod_of_nonneg h0.1]
    exact wl_u8 (by omega)
  simp only [wlQ, SE.val, valCmp, valBin, b2i_ne, e0, e1, e2, e3]
  by_cases h : a0 % 4 = n
  · rw [decide_eq_true h, h]; simp
  · rw [decide_eq_false h]; simpa using h
theorem wlB_val {a0 a1 : Int} {F : Nat → List Int → List Int} (h1 : 0 ≤ a1 ∧ a1 < 65536) (i : Nat) (hi : i < 100) : ((wlB i).val (envOf F [a0, a1]) != 0) = decide ((i : Int) < a1 % 50) := by
  have e0 : (envOf F [a0, a1]).iv 1 = a1 := rfl
  have e1 : IntKind.u16.wrap a1 = a1 := wl_u16 h1
  have e2 : IntKind.i64.wrap a1 = a1 := i64_small (by omega)
  have e4 : IntKind.i64.wrap (i : Int) = (i : Int) := i64_small (by omega)
  have e3 : IntKind.i64.wrap (a1.tmod (IntKind.i64.wrap 50)) = a1 % 50 := by
    rw [show IntKind.i64.wrap 50 = 50 from rfl, Int.tmod_eq_emod_of_nonneg h1.1]
    exact i64_small (by omega)
  simp only [wlB, SE.val, valCmp, valBin, b2i_ne, e0, e1, e2, e3, e4]
/-! ### events -/
def wlX : SE := .cmp .eql (.app 20022 0 (some .i64) (.cons (.lap 20021 1 (.cons (.ivar .u16 1) .nil)) (.cons (.lit .i64 0) .nil))) (.lit .i64 0)
def wlY : SE := .cmp .eql (.cmp .leq (.len (.lap 20021 1 (.cons (.ivar .u16 1) .nil))) (.lit .i64 400)) (.cmp .leq (.bin .add .i64 (.lit .i64 0) (.len (.lap 20021 1 (.cons (.ivar .u16 1) .nil)))) (.lit .i64 400))
def wlT3 : LT := .know wlX false (.know wlY true .done)
set_option maxHeartbeats 8000000 in
theorem wl3_check : checkK (bW.loops Wl3_L) Wl3_T wlK 300 6 wlA [] 0 wlT3 wl3 = true := by kernel_rfl
theorem ft_ve : FT Wl3_T 20021 = veG (FT Wl2_T) := by kernel_rfl
theorem ft_me : FT Wl3_T 20022 = meG (FT Z_T) := by kernel_rfl
theorem evnL_get {m i : Nat} (h : i < m) : (evnL m).getD i [] = [0, 1 + (i : Int) % 8, (i : Int), -1] := by
  simp [evnL, List.getD_eq_getElem?_getD, List.getElem?_map, List.getElem?_range, h]
theorem me_get {F : Nat → List Int → List Int} {L : Int} {m i : Nat} {xs : List Int} (hm : m ≤ 600) (hL : dec L = evnL m) (hi : i ≤ m) (h0 : xs.getD 0 0 = L) (h1 : xs.getD 1 0 = 0) (h2 : xs.getD 2 0 = 0) (h3 : xs.getD 3 0 = (i : Int)) :
    meT.get (envOf F xs) = if i < m then (none, [L, 0, 0, ((i + 1 : Nat) : Int)]) else (some 1, [L]) := by
  have f0 : (envOf F xs).iv 0 = L := h0
  have f1 : (envOf F xs).iv 1 = 0 := h1
  have f2 : (envOf F xs).iv 2 = 0 := h2
  have f3 : (envOf F xs).iv 3 = (i : Int) := h3
  have e3 : IntKind.i64.wrap (i : Int) = (i : Int) := i64_small (by omega)
  have e4 : IntKind.i64.wrap ((i : Int) + IntKind.i64.wrap 1) = ((i + 1 : Nat) : Int) := by rw [show IntKind.i64.wrap 1 = 1 from rfl, show (i : Int) + 1 = ((i + 1 : Nat) : Int) by omega]; exact i64_small (by omega)
  have w0 : IntKind.i64.wrap 0 = 0 := rfl
  have w1 : IntKind.i64.wrap 1 = 1 := rfl
  have w2 : IntKind.i64.wrap (-1) = -1 := rfl
  have w3 : IntKind.i64.wrap 8 = 8 := rfl
  have w4 : IntKind.i64.wrap 65535 = 65535 := rfl
  have hs : sat (evnL m).length = m := by rw [evnL_len]; exact sat_of (by unfold maxLen; omega)
  have hg : ((i : Int)).toNat = i := by omega
  by_cases hlt : i < m
  · have ge := evnL_get hlt
    have k1 : IntKind.i64.wrap (1 + (i : Int) % 8) = 1 + (i : Int) % 8 := i64_small (by omega)
    have d1 : decide ((i : Int) < (m : Int)) = true := decide_eq_true (by omega)
    have d2 : decide ((0 : Int) ≥ 0) = true := rfl
    have d3 : decide ((0 : Int) ≤ 0) = true := rfl
    have d4 : decide (1 + (i : Int) % 8 ≥ 1) = true := decide_eq_true (by omega)
    have d5 : decide (1 + (i : Int) % 8 ≤ 8) = true := decide_eq_true (by omega)
    have d6 : decide ((i : Int) ≥ -1) = true := decide_eq_true (by omega)
    have d7 : decide ((i : Int) ≤ 65535) = true := decide_eq_true (by omega)
    have d8 : decide ((-1 : Int) ≥ -1) = true := rfl
    have d9 : decide ((-1 : Int) ≤ 65535) = true := rfl
    rw [if_pos hlt]
    simp only [meT, RT.get, SE.val, SE.vals, wrK, List.map, valCmp, valBin, b2i_ne, f0, f1, f2, f3, e3, w0, hs, hL, hg, ge, List.getD_cons_zero, List.getD_cons_succ, w1, w2, w3, w4, k1, d1, d2, d3, d4, d5, d6, d7, d8, d9, cond_true, Bool.not_true, cond_false]
    rw [w1] at e4
    rw [e4]
  · have d1 : decide ((i : Int) < (m : Int)) = false := decide_eq_false (by omega)
    rw [if_neg hlt]
    simp only [meT, RT.get, SE.val, SE.vals, List.map, valCmp, b2i_ne, f0, f3, e3, hs, hL, d1, cond_false]
theorem me_val {F : Nat → List Int → List Int} {L : Int} {m : Nat} (hm : m ≤ 600) (hL : dec L = evnL m) : (meG F [L, 0]).getD 0 0 = 1 := by
  obtain ⟨e, ys, h1, h2⟩ := inv_run (F := F) (T := meT) (fun i xs => xs.getD 0 0 = L ∧ xs.getD 1 0 = 0 ∧ xs.getD 2 0 = 0 ∧ xs.getD 3 0 = (i : Int)) m (fun e ys => e = 1) (fun i xs ys hi ⟨h0, h1, h2, h3⟩ hy => by
      rw [me_get hm hL hi h0 h1 h2 h3] at hy
      by_cases hlt : i < m
      · rw [if_pos hlt] at hy; cases hy; exact ⟨hlt, rfl, rfl, rfl, rfl⟩
      · rw [if_neg hlt] at hy; cases hy) (fun i xs e ys hi ⟨h0, h1, h2, h3⟩ hy => by
      rw [me_get hm hL hi h0 h1 h2 h3] at hy
      by_cases hlt : i < m
      · rw [if_pos hlt] at hy; cases hy
      · rw [if_neg hlt] at hy; cases hy; rfl) (meU [L, 0]) 0 0 (meI.map (SE.val (envOf F [L, 0]))) (by unfold meU; rw [List.getD_cons_zero, hL, evnL_len]; omega) (Nat.succ_pos _) ⟨rfl, rfl, rfl, rfl⟩
  subst h2
  unfold meG lpFn
  rw [h1]; rfl
theorem wlT3_ok {a0 a1 : Int} (h1 : 0 ≤ a1 ∧ a1 < 65536) : wlT3.ok (envOf (FT Wl3_T) [a0, a1]) := by
  have hw : IntKind.u16.wrap a1 = a1 := wl_u16 h1
  obtain ⟨ys, hv, hd⟩ := ve_val (FT Wl2_T) [a1]
  have hb := evB_in ([a1].getD 0 0)
  rw [← ft_ve] at hv
  generalize hm : (evB ([a1].getD 0 0)).toNat = m at *
  have hm6 : m ≤ 600 := by omega
  have vL : (SE.lap 20021 1 (.cons (.ivar .u16 1) .nil)).val (envOf (FT Wl3_T) [a0, a1]) = ys.getD 0 0 := by
    have e0 : (envOf (FT Wl3_T) [a0, a1]).iv 1 = a1 := rfl
    simp only [SE.val, SE.vals, e0, hw, envOf_F', hv, List.getD_cons_succ]
  have hs : sat (evnL m).length = m := by rw [evnL_len]; exact sat_of (by unfold maxLen; omega)
  refine ⟨?_, ?_, trivial⟩
  · have hme := me_val (F := FT Z_T) hm6 hd
    rw [← ft_me] at hme
    have w0 : IntKind.i64.wrap 0 = 0 := rfl
    have w1 : IntKind.i64.wrap 1 = 1 := rfl
    unfold wlX
    unfold SE.val
    unfold SE.val
    simp only [SE.vals, vL, valCmp, b2i_ne, envOf_F', wrK]
    unfold SE.val
    rw [w0, hme, w1]; rfl
  · have w0 : IntKind.i64.wrap 0 = 0 := rfl
    have hz : IntKind.i64.wrap ((0 : Int) + (m : Int)) = (m : Int) := by rw [Int.zero_add]; exact i64_small (by omega)
    have vl : (SE.len (.lap 20021 1 (.cons (.ivar .u16 1) .nil))).val (envOf (FT Wl3_T) [a0, a1]) = (m : Int) := by
      unfold SE.val; rw [vL, hd, hs]
    have v2 : (SE.bin .add .i64 (.lit .i64 0) (.len (.lap 20021 1 (.cons (.ivar .u16 1) .nil)))).val (envOf (FT Wl3_T) [a0, a1]) = (m : Int) := by
      unfold SE.val; rw [vl]; unfold SE.val; rw [w0]; exact hz
    unfold wlY
    generalize (SE.bin .add .i64 (.lit .i64 0) (.len (.lap 20021 1 (.cons (.ivar .u16 1) .nil)))) = A at *
    generalize (SE.len (.lap 20021 1 (.cons (.ivar .u16 1) .nil))) = B at *
    simp only [SE.val, valCmp, vl, v2, b2i_ne]
    simp
end Go.Proofs.Ytedfbamihjnhhaa.Own
