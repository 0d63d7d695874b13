/- What all is together: the law. -/
import Derived.Test.YtedfbamihjnhhaaLgU
import Derived.Test.YtedfbamihjnhhaaFvZ
namespace Go.Proofs.Ytedfbamihjnhhaa.Own
open Go Go.RowKit Go.Proofs Go.Proofs.Ytedfbamihjnhhaa.Plain
set_option linter.unusedVariables false
set_option linter.unusedSimpArgs false
set_option maxRecDepth 100000
def lgW2 : SE := (.cons (.ivar .i64 0) (.cons (.ivar .i64 1) (.cons (.ivar .u64 2) (.cons (.ivar .i64 3) (.cons (.ivar .u64 4) (.cons (.ivar .i64 5) (.cons (.ivar .u64 6) (.cons (.ivar .i64 7) (.cons (.ivar .u64 8) (.cons (.ivar .i64 9) (.cons (.ivar .u64 10) (.cons (.ivar .i64 11) (.cons (.ivar .i64 12) (.cons (.lvar 13) (.cons (.lvar 14) (.cons (.lvar 15) (.cons (.lvar 16) (.cons (.ivar .i64 17) (.cons (.ivar .u64 18) (.cons (.ivar .i64 19) (.cons (.ivar .u64 20) (.cons (.ivar .i64 21) (.cons (.ivar .u64 22) (.cons (.lvar 23) (.cons (.ivar .i64 17) (.cons (.ivar .u64 18) .nil))))))))))))))))))))))))))
def lgW4 : SE := (.cons (.ivar .i64 0) (.cons (.ivar .i64 1) (.cons (.ivar .u64 2) (.cons (.ivar .i64 3) (.cons (.ivar .u64 4) (.cons (.ivar .i64 5) (.cons (.ivar .u64 6) (.cons (.ivar .i64 7) (.cons (.ivar .u64 8) (.cons (.ivar .i64 9) (.cons (.ivar .u64 10) (.cons (.ivar .i64 11) (.cons (.ivar .i64 12) (.cons (.lvar 13) (.cons (.lvar 14) (.cons (.lvar 15) (.cons (.lvar 16) (.cons (.ivar .i64 17) (.cons (.ivar .u64 18) (.cons (.ivar .i64 19) (.cons (.ivar .u64 20) (.cons (.ivar .i64 21) (.cons (.ivar .u64 22) (.cons (.lvar 23) (.cons (.ivar .i64 19) (.cons (.ivar .u64 20) (.cons (.ivar .i64 21) (.cons (.ivar .u64 22) .nil))))))))))))))))))))))))))))
def lgW : SE := (.cons (.ivar .i64 0) (.cons (.ivar .i64 1) (.cons (.ivar .u64 2) (.cons (.ivar .i64 3) (.cons (.ivar .u64 4) (.cons (.ivar .i64 5) (.cons (.ivar .u64 6) (.cons (.ivar .i64 7) (.cons (.ivar .u64 8) (.cons (.ivar .i64 9) (.cons (.ivar .u64 10) (.cons (.ivar .i64 11) (.cons (.ivar .i64 12) (.cons (.lvar 13) (.cons (.lvar 14) (.cons (.lvar 15) (.cons (.lvar 16) (.cons (.ivar .i64 17) (.cons (.ivar .u64 18) (.cons (.ivar .i64 19) (.cons (.ivar .u64 20) (.cons (.ivar .i64 21) (.cons (.ivar .u64 22) (.cons (.lvar 23) .nil))))))))))))))))))))))))
def lgM : SE := (.cons (.lvar 13) (.cons (.ivar .i64 17) (.cons (.ivar .u64 18) .nil)))
def lgP : SE := (.cons (.lvar 13) (.cons (.ivar .i64 19) (.cons (.ivar .u64 20) (.cons (.ivar .i64 21) (.cons (.ivar .u64 22) .nil)))))
def lgT3 : LT := (.ask (.cmp .eql (.app 20001 0 (some .i64) lgM) (.lit .i64 0)) (.ask (.cmp .eql (.app 20002 0 (some .i64) lgP) (.lit .i64 0)) (.know (.and (.cmp .eql (.lit .i64 0) (.app 20003 25 (some .i64) lgW2)) (.and (.cmp .eql (.lit .u64 0) (.app 20003 26 (some .u64) lgW2)) (.cmp .eql (.lit .i64 1) (.lit .i64 1)))) true (.know (.cmp .eql (.app 16 0 (some .i64) (.cons (.app 20001 1 (some .i64) lgM) .nil)) (.app 20003 27 (some .i64) lgW2)) true (.know (.and (.and (.cmp .eql (.lit .i64 0) (.app 20004 25 (some .i64) lgW4)) (.and (.cmp .eql (.lit .u64 0) (.app 20004 26 (some .u64) lgW4)) (.cmp .eql (.lit .i64 1) (.lit .i64 1)))) (.and (.and (.cmp .eql (.lit .i64 0) (.app 20004 27 (some .i64) lgW4)) (.and (.cmp .eql (.lit .u64 0) (.app 20004 28 (some .u64) lgW4)) (.cmp .eql (.lit .i64 1) (.lit .i64 1)))) (.cmp .eql (.lit .i64 1) (.lit .i64 1)))) true (.know (.cmp .eql (.app 16 0 (some .i64) (.cons (.app 20002 1 (some .i64) lgP) .nil)) (.app 20004 29 (some .i64) lgW4)) true .done))))
    (.know (.and (.cmp .eql (.lit .i64 0) (.app 20003 25 (some .i64) lgW2)) (.and (.cmp .eql (.lit .u64 0) (.app 20003 26 (some .u64) lgW2)) (.cmp .eql (.lit .i64 1) (.lit .i64 1)))) true (.know (.cmp .eql (.app 16 0 (some .i64) (.cons (.app 20001 1 (some .i64) lgM) .nil)) (.app 20003 27 (some .i64) lgW2)) true (.know (.and (.and (.cmp .eql (.app 20002 2 (some .i64) lgP) (.app 20004 25 (some .i64) lgW4)) (.and (.cmp .eql (.app 20002 3 (some .u64) lgP) (.app 20004 26 (some .u64) lgW4)) (.cmp .eql (.lit .i64 1) (.lit .i64 1)))) (.and (.and (.cmp .eql (.app 20002 4 (some .i64) lgP) (.app 20004 27 (some .i64) lgW4)) (.and (.cmp .eql (.app 20002 5 (some .u64) lgP) (.app 20004 28 (some .u64) lgW4)) (.cmp .eql (.lit .i64 1) (.lit .i64 1)))) (.cmp .eql (.lit .i64 1) (.lit .i64 1)))) true (.know (.cmp .eql (.lit .i64 0) (.app 20004 29 (some .i64) lgW4)) true .done)))))
    (.ask (.cmp .eql (.app 20002 0 (some .i64) lgP) (.lit .i64 0)) (.know (.and (.cmp .eql (.app 20001 2 (some .i64) lgM) (.app 20003 25 (some .i64) lgW2)) (.and (.cmp .eql (.app 20001 3 (some .u64) lgM) (.app 20003 26 (some .u64) lgW2)) (.cmp .eql (.lit .i64 1) (.lit .i64 1)))) true (.know (.cmp .eql (.lit .i64 0) (.app 20003 27 (some .i64) lgW2)) true (.know (.and (.and (.cmp .eql (.lit .i64 0) (.app 20004 25 (some .i64) lgW4)) (.and (.cmp .eql (.lit .u64 0) (.app 20004 26 (some .u64) lgW4)) (.cmp .eql (.lit .i64 1) (.lit .i64 1)))) (.and (.and (.cmp .eql (.lit .i64 0) (.app 20004 27 (some .i64) lgW4)) (.and (.cmp .eql (.lit .u64 0) (.app 20004 28 (some .u64) lgW4)) (.cmp .eql (.lit .i64 1) (.lit .i64 1)))) (.cmp .eql (.lit .i64 1) (.lit .i64 1)))) true (.know (.cmp .eql (.app 16 0 (some .i64) (.cons (.app 20002 1 (some .i64) lgP) .nil)) (.app 20004 29 (some .i64) lgW4)) true .done))))
    (.know (.and (.cmp .eql (.app 20001 2 (some .i64) lgM) (.app 20003 25 (some .i64) lgW2)) (.and (.cmp .eql (.app 20001 3 (some .u64) lgM) (.app 20003 26 (some .u64) lgW2)) (.cmp .eql (.lit .i64 1) (.lit .i64 1)))) true (.know (.cmp .eql (.lit .i64 0) (.app 20003 27 (some .i64) lgW2)) true (.know (.and (.and (.cmp .eql (.app 20002 2 (some .i64) lgP) (.app 20004 25 (some .i64) lgW4)) (.and (.cmp .eql (.app 20002 3 (some .u64) lgP) (.app 20004 26 (some .u64) lgW4)) (.cmp .eql (.lit .i64 1) (.lit .i64 1)))) (.and (.and (.cmp .eql (.app 20002 4 (some .i64) lgP) (.app 20004 27 (some .i64) lgW4)) (.and (.cmp .eql (.app 20002 5 (some .u64) lgP) (.app 20004 28 (some .u64) lgW4)) (.cmp .eql (.lit .i64 1) (.lit .i64 1)))) (.cmp .eql (.lit .i64 1) (.lit .i64 1)))) true (.know (.cmp .eql (.lit .i64 0) (.app 20004 29 (some .i64) lgW4)) true .done))))))
def lgT2 : LT := (.ask (.app 54 0 none (.cons (.ivar .i64 17) (.cons (.ivar .u64 18) (.cons (.lit .i64 67108864) .nil)))) (.ask (.app 55 0 none (.cons (.ivar .i64 19) (.cons (.ivar .u64 20) (.cons (.ivar .i64 21) (.cons (.ivar .u64 22) .nil))))) (.ask (.cmp .eql (.app 20011 0 (some .i64) lgW) (.lit .i64 0)) .done
    (.ask (.cmp .eql (.app 20012 0 (some .i64) (.cons (.ivar .i64 0) (.cons (.ivar .i64 1) (.cons (.ivar .u64 2) (.cons (.ivar .i64 3) (.cons (.ivar .u64 4) (.cons (.ivar .i64 5) (.cons (.ivar .u64 6) (.cons (.ivar .i64 7) (.cons (.ivar .u64 8) (.cons (.ivar .i64 9) (.cons (.ivar .u64 10) (.cons (.ivar .i64 11) (.cons (.ivar .i64 12) (.cons (.lvar 13) (.cons (.lvar 14) (.cons (.lvar 15) (.cons (.lvar 16) (.cons (.ivar .i64 17) (.cons (.ivar .u64 18) (.cons (.ivar .i64 19) (.cons (.ivar .u64 20) (.cons (.ivar .i64 21) (.cons (.ivar .u64 22) (.cons (.lvar 23) (.cons (.app 20011 25 (some .i64) lgW) .nil)))))))))))))))))))))))))) (.lit .i64 0)) .done
    (.ask (.cmp .eql (.app 20013 0 (some .i64) lgW) (.lit .i64 0)) .done
    (.ask (.cmp .eql (.app 20014 0 (some .i64) lgW) (.lit .i64 0)) .done
    lgT3))))
    .done)
    .done)
def lgT : LT := (.ask (.cmp .leq (.len (.lvar 13)) (.lit .i64 32)) (.ask (.not (.app 53 0 none (.cons (.ivar .i64 0) (.cons (.lit .i64 0) (.cons (.lit .i64 1099511627776) .nil))))) .done
    (.ask (.not (.app 54 0 none (.cons (.ivar .i64 1) (.cons (.ivar .u64 2) (.cons (.lit .i64 1024) .nil))))) .done
    (.ask (.and (.cmp .eql (.ivar .i64 1) (.lit .i64 0)) (.and (.cmp .eql (.ivar .u64 2) (.lit .u64 0)) (.cmp .eql (.lit .i64 1) (.lit .i64 1)))) .done
    (.ask (.not (.app 54 0 none (.cons (.ivar .i64 3) (.cons (.ivar .u64 4) (.cons (.lit .i64 1048576) .nil))))) .done
    (.ask (.not (.app 54 0 none (.cons (.ivar .i64 5) (.cons (.ivar .u64 6) (.cons (.lit .i64 65536) .nil))))) .done
    (.ask (.not (.app 54 0 none (.cons (.ivar .i64 7) (.cons (.ivar .u64 8) (.cons (.lit .i64 1) .nil))))) .done
    (.ask (.not (.app 54 0 none (.cons (.ivar .i64 9) (.cons (.ivar .u64 10) (.cons (.lit .i64 1) .nil))))) .done
    (.ask (.not (.app 53 0 none (.cons (.ivar .i64 11) (.cons (.lit .i64 0) (.cons (.lit .i64 1) .nil))))) .done
    (.ask (.not (.app 53 0 none (.cons (.ivar .i64 12) (.cons (.lit .i64 0) (.cons (.lit .i64 1) .nil))))) .done
    (.ask (.cmp .gtr (.len (.lvar 13)) (.lit .i64 32)) .done
    (.ask (.cmp .gtr (.len (.lvar 14)) (.lit .i64 32)) .done
    (.ask (.cmp .gtr (.len (.lvar 15)) (.lit .i64 16)) .done
    (.ask (.cmp .neq (.len (.lvar 16)) (.len (.lvar 13))) .done
    (.ask (.cmp .gtr (.len (.lvar 23)) (.lit .i64 400)) .done
    lgT2))))))))))))))
    .done)


noncomputable def lgLs : List Lf := (lfOf Try.prog 8 33).getD []
def lgArgs (ls : List Lf) : List V := [.agg (symL ls 0 0)]
theorem foldE_err {α : Type} {f : α → α → α × Int} (h : ∀ a b, (f a b).2 = 0 ∨ (f a b).2 = 3) : ∀ (ms : List α) (a : α), (foldE f a ms).2 = 0 ∨ (foldE f a ms).2 = 3
  | [], _ => .inl rfl
  | m :: ms, a => by
    by_cases hz : (f a m).2 = 0
    · rw [foldE_ok hz]; exact foldE_err h ms _
    · rw [foldE_no hz]; exact h a m
theorem fxW_in {hi lo : Int} (h1 : inK (some .i64) hi) (h2 : inK (some .u64) lo) : (fxW hi lo).hi = hi ∧ (fxW hi lo).lo = lo := ⟨fxW_hi h1 h2, fxW_lo h2⟩
section
variable {c : Int} {l : List (List Int)} (hl : dec c = l) (hlen : l.length ≤ maxLen)
include hl hlen
theorem lm_val (a : Fx) : FT Lo1_T 20001 [c, a.hi, a.lo] = if (foldE fadd a (l.map massOf)).2 = 0 then [1, c, (foldE fadd a (l.map massOf)).1.hi, (foldE fadd a (l.map massOf)).1.lo] else [0, (foldE fadd a (l.map massOf)).2] := by
  rw [ft_lm]
  unfold lmG lpFn
  have h := lm_sum (F := FT Lo2_T) ft_29 hl hlen (lmU [c, a.hi, a.lo]) 0 0 a (lmI.map (SE.val (envOf (FT Lo2_T) [c, a.hi, a.lo]))) (by unfold lmU; rw [List.getD_cons_zero, hl]; omega) (Nat.succ_pos _) rfl (w_hi a) (w_lo a) rfl
  rw [h]
  rw [List.drop_zero]
  by_cases hz : (foldE fadd a (l.map massOf)).2 = 0
  · simp only [if_pos hz]; rfl
  · simp only [if_neg hz]; rfl
theorem lp_val (a : Vx) : FT Lo1_T 20002 [c, a.x.hi, a.x.lo, a.y.hi, a.y.lo] = if (foldE vadd a (l.map momOf)).2 = 0 then [1, c, (foldE vadd a (l.map momOf)).1.x.hi, (foldE vadd a (l.map momOf)).1.x.lo, (foldE vadd a (l.map momOf)).1.y.hi, (foldE vadd a (l.map momOf)).1.y.lo] else [0, (foldE vadd a (l.map momOf)).2] := by
  rw [ft_lp]
  unfold lpG lpFn
  have h := lp_sum (F := FT Lo1_Tlm) ft_30 hl hlen (lpU [c, a.x.hi, a.x.lo, a.y.hi, a.y.lo]) 0 0 a (lpI.map (SE.val (envOf (FT Lo1_Tlm) [c, a.x.hi, a.x.lo, a.y.hi, a.y.lo]))) (by unfold lpU; rw [List.getD_cons_zero, hl]; omega) (Nat.succ_pos _) rfl (w_hi a.x) (w_lo a.x) (w_hi a.y) (w_lo a.y) rfl
  rw [h]
  rw [List.drop_zero]
  by_cases hz : (foldE vadd a (l.map momOf)).2 = 0
  · simp only [if_pos hz]; rfl
  · simp only [if_neg hz]; rfl
theorem rm_val (a : Fx) (ws : List Int) (h0 : ws.getD 13 0 = c) (h1 : ws.getD 24 0 = a.hi) (h2 : ws.getD 25 0 = a.lo) : ∃ ys, FT Lo1_T 20003 ws = 0 :: ys ∧ ys.getD 24 0 = (foldE radd a (l.map massOf)).1.hi ∧ ys.getD 25 0 = (foldE radd a (l.map massOf)).1.lo ∧ ys.getD 26 0 = (foldE radd a (l.map massOf)).2 := by
  rw [ft_rm]
  unfold rmG lpFn
  obtain ⟨ys, g0, g⟩ := rm_sum (F := FT Lo1_Tlp) ft_19 hl hlen (rmU ws) 0 0 a (rmI.map (SE.val (envOf (FT Lo1_Tlp) ws))) (by unfold rmU; rw [h0, hl]; omega) (Nat.succ_pos _) h0 (by show IntKind.i64.wrap (ws.getD 24 0) = _; rw [h1, w_hi]) (by show IntKind.u64.wrap (ws.getD 25 0) = _; rw [h2, w_lo]) rfl rfl
  rw [g0]
  rw [List.drop_zero] at g
  exact ⟨ys, rfl, g⟩
theorem rp_val (a : Vx) (ws : List Int) (h0 : ws.getD 13 0 = c) (h1 : ws.getD 24 0 = a.x.hi) (h2 : ws.getD 25 0 = a.x.lo) (h3 : ws.getD 26 0 = a.y.hi) (h4 : ws.getD 27 0 = a.y.lo) : ∃ ys, FT Lo1_T 20004 ws = 0 :: ys ∧ ys.getD 24 0 = (foldE rvadd a (l.map momOf)).1.x.hi ∧ ys.getD 25 0 = (foldE rvadd a (l.map momOf)).1.x.lo ∧ ys.getD 26 0 = (foldE rvadd a (l.map momOf)).1.y.hi ∧ ys.getD 27 0 = (foldE rvadd a (l.map momOf)).1.y.lo ∧ ys.getD 28 0 = (foldE rvadd a (l.map momOf)).2 := by
  rw [ft_rp]
  unfold rpG lpFn
  obtain ⟨ys, g0, g⟩ := rp_sum (F := FT Lo1_Trm) f20 hl hlen (rpU ws) 0 0 a (rpI.map (SE.val (envOf (FT Lo1_Trm) ws))) (by unfold rpU; rw [h0, hl]; omega) (Nat.succ_pos _) h0 (by show IntKind.i64.wrap (ws.getD 24 0) = _; rw [h1, w_hi]) (by show IntKind.u64.wrap (ws.getD 25 0) = _; rw [h2, w_lo]) (by show IntKind.i64.wrap (ws.getD 26 0) = _; rw [h3, w_hi]) (by show IntKind.u64.wrap (ws.getD 27 0) = _; rw [h4, w_lo]) rfl rfl
  rw [g0]
  rw [List.drop_zero] at g
  exact ⟨ys, rfl, g⟩
end
theorem f16 {e : Int} (h : e = 0 ∨ e = 3) : (FT Lo1_T 16 [e]).getD 0 0 = e := by
  rw [ft_16]; rcases h with rfl | rfl <;> rfl
/-- what is known of the two sums -/
theorem lg3_ok {xs : List Int} {l : List (List Int)} (hl : dec (xs.getD 13 0) = l) (hlen : l.length ≤ maxLen) (h17 : inK (some .i64) (xs.getD 17 0)) (h18 : inK (some .u64) (xs.getD 18 0)) (h19 : inK (some .i64) (xs.getD 19 0)) (h20 : inK (some .u64) (xs.getD 20 0)) (h21 : inK (some .i64) (xs.getD 21 0)) (h22 : inK (some .u64) (xs.getD 22 0))
    (hm : FxMay (fxW (xs.getD 17 0) (xs.getD 18 0))) (hp : VxMay ⟨fxW (xs.getD 19 0) (xs.getD 20 0), fxW (xs.getD 21 0) (xs.getD 22 0)⟩) (hall : ∀ el ∈ l, FxMay (massOf el) ∧ VxMay (momOf el)) : lgT3.ok (envOf (FT Lo1_T) xs) := by
  obtain ⟨a1, a2⟩ := fxW_in h17 h18
  obtain ⟨b1, b2⟩ := fxW_in h19 h20
  obtain ⟨b3, b4⟩ := fxW_in h21 h22
  generalize ha : fxW (xs.getD 17 0) (xs.getD 18 0) = a at *
  generalize hb : (⟨fxW (xs.getD 19 0) (xs.getD 20 0), fxW (xs.getD 21 0) (xs.getD 22 0)⟩ : Vx) = b at *
  have c1 : b.x.hi = xs.getD 19 0 := by rw [← hb]; exact b1
  have c2 : b.x.lo = xs.getD 20 0 := by rw [← hb]; exact b2
  have c3 : b.y.hi = xs.getD 21 0 := by rw [← hb]; exact b3
  have c4 : b.y.lo = xs.getD 22 0 := by rw [← hb]; exact b4
  have k17 : IntKind.i64.wrap (xs.getD 17 0) = a.hi := by rw [a1]; exact h17
  have k18 : IntKind.u64.wrap (xs.getD 18 0) = a.lo := by rw [a2]; exact h18
  have k19 : IntKind.i64.wrap (xs.getD 19 0) = b.x.hi := by rw [c1]; exact h19
  have k20 : IntKind.u64.wrap (xs.getD 20 0) = b.x.lo := by rw [c2]; exact h20
  have k21 : IntKind.i64.wrap (xs.getD 21 0) = b.y.hi := by rw [c3]; exact h21
  have k22 : IntKind.u64.wrap (xs.getD 22 0) = b.y.lo := by rw [c4]; exact h22
  have vM : lgM.vals (envOf (FT Lo1_T) xs) = [xs.getD 13 0, a.hi, a.lo] := by
    rw [← k17, ← k18]; rfl
  have vP : lgP.vals (envOf (FT Lo1_T) xs) = [xs.getD 13 0, b.x.hi, b.x.lo, b.y.hi, b.y.lo] := by
    rw [← k19, ← k20, ← k21, ← k22]; rfl
  obtain ⟨ys, y0, y1, y2, y3⟩ := rm_val hl hlen a (lgW2.vals (envOf (FT Lo1_T) xs)) rfl k17 k18
  obtain ⟨zs, z0, z1, z2, z3, z4, z5⟩ := rp_val hl hlen b (lgW4.vals (envOf (FT Lo1_T) xs)) rfl k19 k20 k21 k22
  have e1 := mass_same (ms := l.map massOf) hm fun m hm => by obtain ⟨el, h1, rfl⟩ := List.mem_map.1 hm; exact (hall el h1).1
  have e2 := mom_same (ms := l.map momOf) hp fun m hm => by obtain ⟨el, h1, rfl⟩ := List.mem_map.1 hm; exact (hall el h1).2
  rw [e1] at y1 y2 y3
  rw [e2] at z1 z2 z3 z4 z5
  have vm := lm_val hl hlen a
  have vp := lp_val hl hlen b
  have em := foldE_err fadd_err (l.map massOf) a
  have ep := foldE_err vadd_err (l.map momOf) b
  have zm := fold_zero (l.map massOf) a
  have zp := vfold_zero (l.map momOf) b
  generalize foldE fadd a (l.map massOf) = S at *
  generalize foldE vadd b (l.map momOf) = R at *
  have w0 : IntKind.i64.wrap 0 = 0 := rfl
  have w1 : IntKind.i64.wrap 1 = 1 := rfl
  have u0 : IntKind.u64.wrap 0 = 0 := rfl
  have b11 : (1 : Int) != 0 := rfl
  have fm := f16 em
  have fp := f16 ep
  have fz1 : (Fx.of 0).hi = 0 := rfl
  have fz2 : (Fx.of 0).lo = 0 := rfl
  have fz3 : Fx.zero.hi = 0 := rfl
  have fz4 : Fx.zero.lo = 0 := rfl
  have t0 : ((0 : Int) == 0) = true := rfl
  have t1 : ((1 : Int) == 0) = false := rfl
  have t2 : ((1 : Int) == 1) = true := rfl
  by_cases hs : S.2 = 0 <;> by_cases hr : R.2 = 0
  · rw [if_pos hs] at vm
    rw [if_pos hr] at vp
    simp only [lgT3, LT.ok, SE.val, SE.vals, valCmp, b2i_ne, envOf_F, wrK, vM, vP, vm, vp, y0, z0, List.getD_cons_zero, List.getD_cons_succ, y1, y2, y3, z1, z2, z3, z4, z5, w0, w1, u0, w_hi, w_lo, hs, hr, t0, t1, t2, beq_self_eq_true, Bool.and_self, and_self, Bool.false_eq_true, false_implies, implies_true, reduceCtorEq]
  · obtain hr3 : R.2 = 3 := by omega
    rw [if_pos hs] at vm
    rw [if_neg hr] at vp
    have q := zp hr
    have q1 : R.1.x = .zero := by rw [q]
    have q2 : R.1.y = .zero := by rw [q]
    rw [hr3] at fp
    simp only [lgT3, LT.ok, SE.val, SE.vals, valCmp, b2i_ne, envOf_F, wrK, vM, vP, vm, vp, y0, z0, List.getD_cons_zero, List.getD_cons_succ, y1, y2, y3, z1, z2, z3, z4, z5, w0, w1, u0, w_hi, w_lo, hs, hr3, q1, q2, fz3, fz4, fp, t0, t1, t2, beq_self_eq_true, Bool.and_self, and_self, Bool.false_eq_true, false_implies, implies_true, reduceCtorEq, err64 (.inr rfl)]
  · obtain hs3 : S.2 = 3 := by omega
    rw [if_neg hs] at vm
    rw [if_pos hr] at vp
    have q := (zm hs).1
    rw [hs3] at fm
    simp only [lgT3, LT.ok, SE.val, SE.vals, valCmp, b2i_ne, envOf_F, wrK, vM, vP, vm, vp, y0, z0, List.getD_cons_zero, List.getD_cons_succ, y1, y2, y3, z1, z2, z3, z4, z5, w0, w1, u0, w_hi, w_lo, hs3, hr, q, fz1, fz2, fm, t0, t1, t2, beq_self_eq_true, Bool.and_self, and_self, Bool.false_eq_true, false_implies, implies_true, reduceCtorEq, err64 (.inr rfl)]
  · obtain hs3 : S.2 = 3 := by omega
    obtain hr3 : R.2 = 3 := by omega
    rw [if_neg hs] at vm
    rw [if_neg hr] at vp
    have q := (zm hs).1
    have q' := zp hr
    have q1 : R.1.x = .zero := by rw [q']
    have q2 : R.1.y = .zero := by rw [q']
    rw [hs3] at fm
    rw [hr3] at fp
    simp only [lgT3, LT.ok, SE.val, SE.vals, valCmp, b2i_ne, envOf_F, wrK, vM, vP, vm, vp, y0, z0, List.getD_cons_zero, List.getD_cons_succ, y1, y2, y3, z1, z2, z3, z4, z5, w0, w1, u0, w_hi, w_lo, hs3, hr3, q, q1, q2, fz1, fz2, fz3, fz4, fm, fp, t0, t1, t2, beq_self_eq_true, Bool.and_self, and_self, Bool.false_eq_true, false_implies, implies_true, reduceCtorEq, err64 (.inr rfl)]
theorem bne_ne {x : Int} (h : (x != 0) = true) : x ≠ 0 := by simpa using h
theorem lg2_ok {xs : List Int} {l : List (List Int)} (hl : dec (xs.getD 13 0) = l) (hlen : l.length ≤ maxLen) (h17 : inK (some .i64) (xs.getD 17 0)) (h18 : inK (some .u64) (xs.getD 18 0)) (h19 : inK (some .i64) (xs.getD 19 0)) (h20 : inK (some .u64) (xs.getD 20 0)) (h21 : inK (some .i64) (xs.getD 21 0)) (h22 : inK (some .u64) (xs.getD 22 0)) : lgT2.ok (envOf (FT Lo1_T) xs) := by
  refine ⟨fun q1 => ⟨fun q2 => ⟨fun _ => trivial, fun q3 => ⟨fun _ => trivial, fun _ => ⟨fun _ => trivial, fun _ => ⟨fun _ => trivial, fun _ => ?_⟩⟩⟩⟩, fun _ => trivial⟩, fun _ => trivial⟩
  have e17 : IntKind.i64.wrap (xs.getD 17 0) = xs.getD 17 0 := h17
  have e18 : IntKind.u64.wrap (xs.getD 18 0) = xs.getD 18 0 := h18
  have e19 : IntKind.i64.wrap (xs.getD 19 0) = xs.getD 19 0 := h19
  have e20 : IntKind.u64.wrap (xs.getD 20 0) = xs.getD 20 0 := h20
  have e21 : IntKind.i64.wrap (xs.getD 21 0) = xs.getD 21 0 := h21
  have e22 : IntKind.u64.wrap (xs.getD 22 0) = xs.getD 22 0 := h22
  have g1 := bne_ne q1
  have g2 := bne_ne q2
  simp only [SE.val, SE.vals, wrK, envOf_iv, envOf_F, e17, e18] at g1
  simp only [SE.val, SE.vals, wrK, envOf_iv, envOf_F, e19, e20, e21, e22] at g2
  refine lg3_ok hl hlen h17 h18 h19 h20 h21 h22 (to_may (b2i_ne0 g1) h17 h18) (vec_may (by rw [← ft_55b]; exact b2i_ne0 g2) h19 h20 h21 h22) fun el hel => ?_
  have g3 : ((SE.app 20011 0 (some .i64) lgW).val (envOf (FT Lo1_T) xs) == IntKind.i64.wrap 0) = false := by
    have : ∀ b : Bool, (b2i b != 0) = false → b = false := fun b h => by cases b; rfl; cases h
    exact this _ q3
  have g4 : (FT Lo1_T 20011 (lgW.vals (envOf (FT Lo1_T) xs))).getD 0 0 ≠ 0 := fun q => by
    have : (SE.app 20011 0 (some .i64) lgW).val (envOf (FT Lo1_T) xs) = 0 := by
      show IntKind.i64.wrap ((FT Lo1_T 20011 (lgW.vals (envOf (FT Lo1_T) xs))).getD 0 0) = 0
      rw [q]; rfl
    rw [this] at g3; cases g3
  rw [ft_q1] at g4
  have hc : (lgW.vals (envOf (FT Lo1_T) xs)).getD 13 0 = xs.getD 13 0 := rfl
  unfold q1G lpFn at g4
  generalize lgW.vals (envOf (FT Lo1_T) xs) = ws at *
  cases hr : runL (fun _ => q1T) (FT Tr2_T) 0 (q1U ws) (q1I.map (SE.val (envOf (FT Tr2_T) ws))) with
  | none => rw [hr] at g4; exact absurd rfl g4
  | some p =>
    obtain ⟨e, ys⟩ := p
    rw [hr] at g4
    have hee : e ≠ 0 := fun q => by subst q; exact g4 rfl
    have := q1_all hee hlen (q1U ws) 0 0 _ ys (by unfold q1U; rw [hc, hl]; omega) rfl (by show dec (ws.getD 13 0) = l; rw [hc, hl]) hr el (by rw [List.drop_zero]; exact hel)
    exact body_may this
theorem lg_ok {xs : List Int} {l : List (List Int)} (hl : dec (xs.getD 13 0) = l) (hlen : l.length ≤ maxLen) (h17 : inK (some .i64) (xs.getD 17 0)) (h18 : inK (some .u64) (xs.getD 18 0)) (h19 : inK (some .i64) (xs.getD 19 0)) (h20 : inK (some .u64) (xs.getD 20 0)) (h21 : inK (some .i64) (xs.getD 21 0)) (h22 : inK (some .u64) (xs.getD 22 0)) : lgT.ok (envOf (FT Lo1_T) xs) := by
  have h := lg2_ok hl hlen h17 h18 h19 h20 h21 h22
  have n : ∀ {p : Prop}, True := fun {p} => trivial
  exact ⟨fun _ => ⟨fun _ => trivial, fun _ => ⟨fun _ => trivial, fun _ => ⟨fun _ => trivial, fun _ => ⟨fun _ => trivial, fun _ => ⟨fun _ => trivial, fun _ => ⟨fun _ => trivial, fun _ => ⟨fun _ => trivial, fun _ => ⟨fun _ => trivial, fun _ => ⟨fun _ => trivial, fun _ => ⟨fun _ => trivial, fun _ => ⟨fun _ => trivial, fun _ => ⟨fun _ => trivial, fun _ => ⟨fun _ => trivial, fun _ => ⟨fun _ => trivial, fun _ => h⟩⟩⟩⟩⟩⟩⟩⟩⟩⟩⟩⟩⟩⟩, fun _ => trivial⟩
set_option maxHeartbeats 4000000 in
theorem lg_check : checkLaw (bW.loops Lo1_L) Lo1_T 300 3 (lgArgs lgLs) (symF lgLs 0 0) 5 lgT [] = true := by kernel_rfl
theorem lg_ls : lfOf Try.prog 8 33 = some lgLs := by kernel_rfl
theorem lg_law {w : World} {cs : List Value} {xs : List Int} {ss : List (Nat × Nat × Nat)} (h : LfsOK w lgLs cs xs ss) : Calls Try.prog 3 #[.agg (List.toArray cs)] w fun en w' => en = .returned (.bool true) ∧ Below w.heap.size w w' := by
  obtain ⟨r1, r2⟩ := symL_rel (P := Try.prog) (E := envOf (FT Lo1_T) xs) (σ := ss) h 0 0 (fun i _ => by rw [Nat.zero_add]; exact ⟨rfl, rfl⟩) (fun i x hi => by rw [Nat.zero_add]; exact hi)
  have n : ∀ (i : Nat) (k : IntKind), lgLs[i]? = some (.num (some k)) → inK (some k) (xs.getD i 0) := fun i k hi => h.at i hi
  exact law_sound (b := bW.loops Lo1_L) (Tb := Lo1_T) (loops_ok bW_ok _) (lb_of Lo1_lb) Lo1_ok (E := envOf (FT Lo1_T) xs) rfl (σ := ss) (h.slen.trans (by kernel_rfl)) (args := lgArgs lgLs) (.cons (.agg r1) .nil) r2 lgT [] lg_check (.nil)
    (lg_ok rfl (h.atL (e := 53) (ks := [some .i64, some .u64, some .i64, some .u64, some .i64, some .u64, some .i64, some .u64, some .i64, some .u64, some .i64, some .u64, some .i64, some .u64, some .i64, some .u64, some .i64, some .u64, some .i64, some .i64]) 13 (by kernel_rfl)) (n 17 _ (by kernel_rfl)) (n 18 _ (by kernel_rfl)) (n 19 _ (by kernel_rfl)) (n 20 _ (by kernel_rfl)) (n 21 _ (by kernel_rfl)) (n 22 _ (by kernel_rfl)))
end Go.Proofs.Ytedfbamihjnhhaa.Own
